/- Walks of package cluster: tick, people, places, Net, send. -/
import Derived.Test.YtmakanmjdfpcmaaGreatClient5
namespace Go.Proofs.YtmakanmjdfpcmaaGreat
open Go.RowKit

/-- the cells of a cluster -/
def Clu (w : World) (c : Nat) (sv uv nv : Value) (clock : Nat) (ev : Value) : Prop := w.heap[c]? = some (.cells #[sv, uv, nv, .int .i64 clock, ev] 71 (0, 0))

theorem tick_ok (c b : Nat) (sv uv nv ev : Value) (clock : Nat) (many i : Int) (w : World) (hc : Clu w c sv uv nv clock ev) (hb : w.heap[b]? = some (.cells #[.int .i64 i] 3 (0, 0))) (h0 : 0 ≤ i) (h1 : i < many) (hcl : clock ≤ 50000) :
    Calls Tryz.prog 47 #[.pointer (some ⟨c, 0, none⟩), .int .i64 many, .slice (some ⟨b, 0, none⟩) 1 1] w fun e w' => e = .returned (.int .i64 0) ∧ Clu w' c sv uv nv (clock + 1) ev ∧ Frm (only c) w w' := by
  have hne : b ≠ c := ne_of_ty hb hc (by decide)
  have c3 := cell_at (i := 3) hc
  have f3 := free_at hc 3
  have b0 := cell_at (i := 0) hb
  have HC := hid hc
  clear hc hb
  go_enter Tryz.func47, Tryz.ntmps47
  go_wp2
  refine wp_loop_rounds 2 ?_
  rw [rounds_succ]
  go_wp2
  rw [rounds_succ]
  go_wp2
  go_ret
  exact ⟨rfl, heap_set HC.out, (Frm.refl _ _).setCell _ _ fun _ _ => rfl⟩
theorem people_ok (c n cap : Nat) (ao : Option Addr) (sv nv ev : Value) (clock : Nat) (w : World) (hc : Clu w c sv (.slice ao n cap) nv clock ev) (hn : n ≤ 1000) :
    Calls Tryz.prog 48 #[.pointer (some ⟨c, 0, none⟩)] w fun e w' => e = .returned (.int .i64 n) ∧ w = w' := by
  have c1 := cell_at (i := 1) hc
  clear hc
  go_enter Tryz.func48, Tryz.ntmps48
  go_wp2
  go_ret
  exact ⟨rfl, rfl⟩
theorem places_ok (c n cap : Nat) (ao : Option Addr) (uv nv ev : Value) (clock : Nat) (w : World) (hc : Clu w c (.slice ao n cap) uv nv clock ev) (hn : n ≤ 1000) :
    Calls Tryz.prog 56 #[.pointer (some ⟨c, 0, none⟩)] w fun e w' => e = .returned (.int .i64 n) ∧ w = w' := by
  have c1 := cell_at (i := 0) hc
  clear hc
  go_enter Tryz.func56, Tryz.ntmps56
  go_wp2
  go_ret
  exact ⟨rfl, rfl⟩
theorem net_ok (c n cap : Nat) (ao : Option Addr) (sv uv ev : Value) (clock : Nat) (w : World) (hc : Clu w c sv uv (.slice ao n cap) clock ev) (hn : n ≤ 1000) :
    Calls Tryz.prog 20 #[.pointer (some ⟨c, 0, none⟩)] w fun e w' => e = .returned (.int .i64 n) ∧ w = w' := by
  have c1 := cell_at (i := 2) hc
  clear hc
  go_enter Tryz.func20, Tryz.ntmps20
  go_wp2
  go_ret
  exact ⟨rfl, rfl⟩

/-- a message without manifest and bands -/
structure Msg where
  k : Nat
  f : Nat
  t : Nat
  o : Nat
  n : ByteArray
abbrev Msg.cells (m : Msg) : Array Value := msgC m.k m.f m.t m.o m.n
def Msg.Ok (m : Msg) : Prop := MsgOk m.k m.f m.t m.o m.n
def Msg.enc (m : Msg) : ByteArray := encS m.k m.f m.t m.o m.n
def netC (l : List Msg) : List Value := l.map fun m => Value.string m.enc
def msgsC (l : List Msg) : List Value := l.flatMap fun m => m.cells.toList
@[simp] theorem netC_length (l : List Msg) : (netC l).length = l.length := by simp [netC]
theorem msgsC_length (l : List Msg) : (msgsC l).length = 9 * l.length := by
  induction l with
  | nil => rfl
  | cons m l ih => simp only [msgsC, List.flatMap_cons, List.length_append] at *; rw [ih]; simp; omega
theorem msgsC_get (l : List Msg) (j i : Nat) (hj : j < l.length) (hi : i < 9) : (msgsC l)[9 * j + i]? = l[j].cells[i]? := by
  induction l generalizing j with
  | nil => simp at hj
  | cons m l ih =>
    cases j with
    | zero =>
      simp only [msgsC, List.flatMap_cons, Nat.mul_zero, Nat.zero_add, List.getElem_cons_zero]
      rw [List.getElem?_append_left (by simpa using hi)]
      simp
    | succ j =>
      simp only [msgsC, List.flatMap_cons, List.getElem_cons_succ]
      rw [List.getElem?_append_right (by simp; omega)]
      have e : 9 * (j + 1) + i - m.cells.toList.length = 9 * j + i := by simp; omega
      rw [e]
      exact ih j (by simpa using hj)
theorem Tryz.infoStr : (Tryz.prog.info? 9).map (fun i => (i.zero, i.size, i.bytes)) = some (some (.string ⟨#[]⟩), 1, 16) := by kernel_rfl
/-- what send may change -/
abbrev sfrm (B c : Nat) : Nat → Obj → Prop := fun q o => q = c ∨ (B ≤ q ∧ Obj.ty o = some 9)
end Go.Proofs.YtmakanmjdfpcmaaGreat
