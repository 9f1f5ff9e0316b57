/- Walks of package client: begin, Get. -/
import Derived.Test.YtmakanmjdfpcmaaGreatClient2
import Derived.Deep.RegionHeld3
import Derived.BigRegion
namespace Go.Proofs.YtmakanmjdfpcmaaGreat
open Go.RowKit

theorem heap_drew_alloc {w : World} {o o' : Obj} {k : Nat} (h : w.heap[k]? = some o) : (w.alloc o').drew.heap[k]? = some o := heap_old h
set_option maxHeartbeats 4000000 in
set_option maxRecDepth 100000 in
theorem begin_asks (k id rep op nk nf nt no en : Nat) (hm : Value) (nn wn n : ByteArray) (w : World) (hk : Cli w k (cli id rep op 0 hm nk nf nt no nn wn en)) (hr : rep ≤ 15) (hop : op ≤ 50000) :
    Calls Tryz.prog 89 #[.pointer (some ⟨k, 0, none⟩), .bool false, msgV 0 0 0 0 n] w fun e w' => ∃ v hb B, e = .returned v ∧ w.heap.size ≤ hb ∧ w.heap.size ≤ B ∧ Cli w' k (cli id rep (op + 1) 1 (.map (some hb)) 0 0 0 0 ⟨#[]⟩ n en) ∧ Heard w' hb [] ∧
      w'.ownsRow B 117 9 v (asksL [] rep).length (asksC id (op + 1) n (asksL [] rep)) ∧ Frm (only k) w w' := by
  have hkl := heap_lt hk
  have HK := hid hk
  have c2 := cell_at (i := 2) hk
  have c4 := cell_at (i := 4) hk
  have c6 := cell_at (i := 6) hk
  have c7 := cell_at (i := 7) hk
  have c8 := cell_at (i := 8) hk
  have c9 := cell_at (i := 9) hk
  have c10 := cell_at (i := 10) hk
  have c11 := cell_at (i := 11) hk
  have c12 := cell_at (i := 12) hk
  have c13 := cell_at (i := 13) hk
  have c14 := cell_at (i := 14) hk
  have c15 := cell_at (i := 15) hk
  have c16 := cell_at (i := 16) hk
  have c17 := cell_at (i := 17) hk
  have c18 := cell_at (i := 18) hk
  have c19 := cell_at (i := 19) hk
  have c20 := cell_at (i := 20) hk
  have c21 := cell_at (i := 21) hk
  have c22 := cell_at (i := 22) hk
  have c23 := cell_at (i := 23) hk
  have f2 := free_at hk 2
  have f4 := free_at hk 4
  have f6 := free_at hk 6
  have f7 := free_at hk 7
  have f8 := free_at hk 8
  have f9 := free_at hk 9
  have f10 := free_at hk 10
  have f11 := free_at hk 11
  have f12 := free_at hk 12
  have f13 := free_at hk 13
  have f14 := free_at hk 14
  have f15 := free_at hk 15
  have f16 := free_at hk 16
  have f17 := free_at hk 17
  have f18 := free_at hk 18
  have f19 := free_at hk 19
  have f20 := free_at hk 20
  have f21 := free_at hk 21
  have f22 := free_at hk 22
  have f23 := free_at hk 23
  clear hk
  have HT : Hid (∀ w1, Cli w1 k (cli id rep (op + 1) 0 hm 0 0 0 0 ⟨#[]⟩ n en) → Calls Tryz.prog 130 #[.pointer (some ⟨k, 0, none⟩), .int .i64 1] w1 fun e w' => ∃ v hb B, e = .returned v ∧ w1.heap.size ≤ hb ∧ w1.heap.size ≤ B ∧ Cli w' k (cli id rep (op + 1) 1 (.map (some hb)) 0 0 0 0 ⟨#[]⟩ n en) ∧ Heard w' hb [] ∧
      w'.ownsRow B 117 9 v (asksL [] rep).length (asksC id (op + 1) n (asksL [] rep)) ∧ Frm (only k) w1 w') :=
    fun w1 h1 => turn_asks k id rep (op + 1) 0 0 0 0 0 en hm ⟨#[]⟩ n w1 h1 hr
  go_enter Tryz.func89, Tryz.ntmps89
  go_wp2
  go_region
  all_goals
    go_wp2_with fail
    refine (HT.out _ ?_).mono ?_
    · have h := HK.out
      unfold Cli at h ⊢
      apply heap_drew_alloc
      simp only [World.setCell, Array.getElem?_modify, if_true, h, Option.map_some, Option.isSome_none, Bool.false_eq_true, if_false]
      kernel_rfl
    · rintro e w' ⟨v, hb, B, rfl, h1, h2, h3, h4, h5, hf⟩
      have H3 := hid h3
      have H4 := hid h4
      have H5 := hid h5
      have HF := hid hf
      have H1 : Hid (w.heap.size ≤ hb) := by show _ ≤ _; simp at h1; omega
      have H2 : Hid (w.heap.size ≤ B) := by show _ ≤ _; simp at h2; omega
      clear h1 h2 h3 h4 h5 hf
      go_wp2
      go_ret
      refine ⟨v, hb, B, rfl, H1.out, H2.out, H3.out, H4.out, H5.out, ?_⟩
      refine Frm.trans (P := only k) (Q := only k) ?_ HF.out fun _ _ _ h => h
      repeat (first | with_reducible exact Frm.refl _ _ | with_reducible apply Frm.drew | with_reducible apply Frm.alloc | with_reducible (refine Frm.setCell ?_ _ _ fun _ _ => rfl))

set_option maxHeartbeats 1000000 in
set_option maxRecDepth 100000 in
theorem cget_ok (k id rep op nk nf nt no en : Nat) (hm : Value) (nn wn n : ByteArray) (w : World) (hk : Cli w k (cli id rep op 0 hm nk nf nt no nn wn en)) (hr : rep ≤ 15) (hop : op ≤ 50000) (hn : NameOk n) :
    Calls Tryz.prog 51 #[.pointer (some ⟨k, 0, none⟩), .string n] w fun e w' => ∃ v hb B, e = .returned (.tuple #[v, .int .i64 0]) ∧ w.heap.size ≤ hb ∧ w.heap.size ≤ B ∧ Cli w' k (cli id rep (op + 1) 1 (.map (some hb)) 0 0 0 0 ⟨#[]⟩ n en) ∧ Heard w' hb [] ∧
      w'.ownsRow B 117 9 v (asksL [] rep).length (asksC id (op + 1) n (asksL [] rep)) ∧ Frm (only k) w w' := by
  have HF := hid (free_ok k _ n w hk rfl hn)
  have HB := hid (begin_asks k id rep op nk nf nt no en hm nn wn n w hk hr hop)
  clear hk hn
  go_enter Tryz.func51, Tryz.ntmps51
  go_wp2_with fail
  refine HF.out.mono ?_
  rintro e w' ⟨rfl, rfl⟩
  go_wp2_with fail
  refine HB.out.mono ?_
  rintro e w' ⟨v, hb, B, rfl, h1, h2, h3, h4, h5, hf⟩
  have H := hid (And.intro h1 (And.intro h2 (And.intro h3 (And.intro h4 (And.intro h5 hf)))))
  clear h1 h2 h3 h4 h5 hf
  go_wp2
  go_ret2
  exact ⟨v, hb, B, rfl, H.out⟩
theorem cget_busy (k : Nat) (cs : Array Value) (n : ByteArray) (w : World) (hk : Cli w k cs) (hp : cs[3]? = some (.int .i64 1)) :
    Calls Tryz.prog 51 #[.pointer (some ⟨k, 0, none⟩), .string n] w fun e w' => e = .returned (.tuple #[.slice none 0 0, .int .i64 61]) ∧ w = w' := by
  have HF := hid (free_busy k _ n w hk hp)
  clear hk hp
  go_enter Tryz.func51, Tryz.ntmps51
  go_wp2_with (go_at_call 88; refine HF.out.mono ?_; rintro e w' ⟨rfl, rfl⟩)
  go_ret2
  exact ⟨rfl, rfl⟩
end Go.Proofs.YtmakanmjdfpcmaaGreat
