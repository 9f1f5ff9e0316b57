/- Walks of package client (no manifests, no bands): New, free, most, ends, Result; bands.Join of nothing; store.Newer at the same. -/
import Derived.Test.YtmakanmjdfpcmaaGreatDec
import Derived.Test.YtmakanmjdfpcmaaGreatHeard
import Derived.Deep.RegionLaw
namespace Go.Proofs.YtmakanmjdfpcmaaGreat
open Go.RowKit

/-- the cells of a client: newest is the message nk nf nt no nn -/
abbrev cli (id rep op ph : Nat) (hm : Value) (nk nf nt no : Nat) (nn wn : ByteArray) (en : Nat) : Array Value :=
  #[.int .i64 id, .int .i64 rep, .int .i64 op, .int .i64 ph, .bool false, hm,
    .int .i64 nk, .int .i64 nf, .int .i64 nt, .int .i64 no, .string nn, .int .i64 0, .int .i64 0, .string ⟨#[]⟩, .slice none 0 0,
    .int .i64 0, .int .i64 0, .int .i64 0, .int .i64 0, .string wn, .int .i64 0, .int .i64 0, .string ⟨#[]⟩, .slice none 0 0, .int .i64 en]
def Cli (w : World) (k : Nat) (cs : Array Value) : Prop := w.heap[k]? = some (.cells cs 147 (0, 0))

theorem cnew_ok (id rep : Nat) (w : World) (h1 : 1 ≤ rep) (h2 : rep ≤ 15) (h3 : (rep : Int) % 2 = 1) (h4 : rep ≤ id) (h5 : id < 1024) :
    Calls Tryz.prog 40 #[.int .i64 id, .int .i64 rep] w fun e w' => ∃ k, e = .returned (.tuple #[.pointer (some ⟨k, 0, none⟩), .int .i64 0]) ∧ w.heap.size ≤ k ∧ Cli w' k (cli id rep 0 0 (.map none) 0 0 0 0 ⟨#[]⟩ ⟨#[]⟩ 41) ∧ Frm nothing w w' := by
  have h6 : ¬ (rep : Int) % 2 = 0 := by omega
  have h7 : ((rep : Int) % 2 == 0) = false := by rw [h3]; rfl
  clear h3
  go_enter Tryz.func40, Tryz.ntmps40
  go_wp2
  go_ret2
  exact ⟨_, rfl, Nat.le_refl _, heap_new w _, (Frm.refl _ _).alloc _⟩

theorem free_ok (k : Nat) (cs : Array Value) (n : ByteArray) (w : World) (hk : Cli w k cs) (hp : cs[3]? = some (.int .i64 0)) (hn : NameOk n) :
    Calls Tryz.prog 88 #[.pointer (some ⟨k, 0, none⟩), .string n] w fun e w' => e = .returned (.int .i64 0) ∧ w = w' := by
  have c3 := (cell_at (i := 3) hk).trans hp
  have HN := hid hn
  clear hk hp hn
  go_enter Tryz.func88, Tryz.ntmps88
  go_wp2_with (go_at_call 77; refine (name_ok _ _ HN.out).mono ?_; rintro e w' ⟨rfl, rfl⟩)
  go_ret
  exact ⟨rfl, rfl⟩
theorem free_busy (k : Nat) (cs : Array Value) (n : ByteArray) (w : World) (hk : Cli w k cs) (hp : cs[3]? = some (.int .i64 1)) :
    Calls Tryz.prog 88 #[.pointer (some ⟨k, 0, none⟩), .string n] w fun e w' => e = .returned (.int .i64 61) ∧ w = w' := by
  have c3 := (cell_at (i := 3) hk).trans hp
  clear hk hp
  go_enter Tryz.func88, Tryz.ntmps88
  go_wp2
  go_ret
  exact ⟨rfl, rfl⟩

theorem ends_ok (k id rep op nk nf nt no en : Nat) (hm : Value) (nn wn : ByteArray) (w : World) (hk : Cli w k (cli id rep op 1 hm nk nf nt no nn wn en)) :
    Calls Tryz.prog 152 #[.pointer (some ⟨k, 0, none⟩), .int .i64 41] w fun e w' => e = .returned (.tuple #[.slice none 0 0, .bool true]) ∧ Cli w' k (cli id rep op 0 hm nk nf nt no nn wn 41) ∧ Frm (only k) w w' := by
  have c3 := cell_at (i := 3) hk
  have f3 := free_at hk 3
  have c24 := cell_at (i := 24) hk
  have f24 := free_at hk 24
  have HK := hid hk
  clear hk
  go_enter Tryz.func152, Tryz.ntmps152
  go_wp2
  go_ret2
  exact ⟨rfl, heap_set (heap_set HK.out), ((Frm.refl _ _).setCell _ _ fun _ _ => rfl).setCell _ _ fun _ _ => rfl⟩

theorem read_none (w : World) : Calls Tryz.prog 53 #[.string ⟨#[]⟩] w fun e w' => e = .returned (.tuple #[.int .i64 0, .int .i64 0, .slice none 0 0, .int .i64 42]) ∧ w = w' := by
  go_enter Tryz.func53, Tryz.ntmps53
  go_wp2
  exact bodyPost_ret (v := .tuple #[.int .i64 0, .int .i64 0, .slice none 0 0, .int .i64 42]) (by simp [results, Tryz.results53, go_sem]) rfl ⟨rfl, rfl⟩
theorem join_none (w : World) : Calls Tryz.prog 15 #[.string ⟨#[]⟩, .slice none 0 0] w fun e w' => e = .returned (.tuple #[.agg #[.int .i64 0, .int .i64 0, .string ⟨#[]⟩], .int .i64 42]) ∧ Frm nothing w w' := by
  go_enter Tryz.func15, Tryz.ntmps15
  go_wp2_with (go_at_call 53; refine (read_none _).mono ?_; rintro e w' ⟨rfl, rfl⟩)
  refine bodyPost_ret (v := .tuple #[.agg #[.int .i64 0, .int .i64 0, .string ⟨#[]⟩], .int .i64 42]) (by simp [results, Tryz.results15, go_sem]) rfl ⟨rfl, ?_⟩
  repeat (first | exact Frm.refl _ _ | apply Frm.drew | apply Frm.drewN | apply Frm.alloc)
theorem clone_nil (w : World) : Calls Tryz.prog 90 #[.slice none 0 0] w fun e w' => e = .returned (.slice none 0 0) ∧ w = w' := by
  have hnil := fun w => Lib.run_eql_slice_nil (P := Tryz.prog) w 33 9 none 0 0 0 0 Tryz.underlying33
  go_enter Tryz.func90, Tryz.ntmps90
  go_wp2
  go_ret
  exact ⟨rfl, rfl⟩

theorem cresult_busy (k : Nat) (cs : Array Value) (w : World) (hk : Cli w k cs) (hp : cs[3]? = some (.int .i64 1)) :
    Calls Tryz.prog 52 #[.pointer (some ⟨k, 0, none⟩)] w fun e w' => e = .returned (.tuple #[.agg #[.int .i64 0, .int .i64 0], .string ⟨#[]⟩, .slice none 0 0, .int .i64 61]) ∧ Frm nothing w w' := by
  have c3 := (cell_at (i := 3) hk).trans hp
  have hkl := heap_lt hk
  clear hk hp
  go_enter Tryz.func52, Tryz.ntmps52
  go_wp2
  refine bodyPost_ret (v := .tuple #[.agg #[.int .i64 0, .int .i64 0], .string ⟨#[]⟩, .slice none 0 0, .int .i64 61]) (by simp [results, Tryz.results52, go_sem]) rfl ?_
  exact ⟨rfl, (Frm.refl _ _).alloc _⟩
theorem cresult_none (k : Nat) (cs : Array Value) (w : World) (hk : Cli w k cs) (hp : cs[3]? = some (.int .i64 0)) (he : cs[24]? = some (.int .i64 41)) :
    Calls Tryz.prog 52 #[.pointer (some ⟨k, 0, none⟩)] w fun e w' => e = .returned (.tuple #[.agg #[.int .i64 0, .int .i64 0], .string ⟨#[]⟩, .slice none 0 0, .int .i64 41]) ∧ Frm nothing w w' := by
  have c3 := (cell_at (i := 3) hk).trans hp
  have c24 := (cell_at (i := 24) hk).trans he
  have hkl := heap_lt hk
  clear hk hp he
  go_enter Tryz.func52, Tryz.ntmps52
  go_wp2
  go_region
  all_goals
    go_wp2
    refine bodyPost_ret (v := .tuple #[.agg #[.int .i64 0, .int .i64 0], .string ⟨#[]⟩, .slice none 0 0, .int .i64 41]) (by simp [results, Tryz.results52, go_sem]) rfl ?_
    refine ⟨rfl, ?_⟩
    repeat (first | exact Frm.refl _ _ | apply Frm.drew | apply Frm.drewN | apply Frm.alloc)
end Go.Proofs.YtmakanmjdfpcmaaGreat
