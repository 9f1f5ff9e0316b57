/- Walks on an empty disk: disk.New, Dead. -/
import Derived.Test.YtmakanmjdfpcmaaGreatProg
import Derived.Test.YtmakanmjdfpcmaaGreatK
import Derived.Carry
namespace Go.Proofs.YtmakanmjdfpcmaaGreat
open Go.RowKit

/-- block d is a disk without files, not armed, not dead -/
def EDisk (w : World) (d : Nat) : Prop := ∃ (mb : Nat) (lim st : Int), w.heap[d]? = some (.cells #[.map (some mb), .int .i64 lim, .int .i64 0, .bool false, .int .i64 st] 140 (0, 0)) ∧ w.heap[mb]? = some (.map #[] 0)
theorem EDisk.frm {w w' : World} {d : Nat} {P : Nat → Obj → Prop} (h : EDisk w d) (hf : Frm P w w') (h1 : ∀ c, ¬ P d (.cells c 140 (0, 0))) (h2 : ∀ k c n, ¬ P k (.map c n)) : EDisk w' d := by
  obtain ⟨mb, lim, st, hd, hm⟩ := h
  exact ⟨mb, lim, st, hf.block _ _ hd (h1 _), hf.block _ _ hm (h2 _ _ _)⟩
theorem EDisk.still {w w' : World} {d : Nat} (h : EDisk w d) (hf : Frm nothing w w') : EDisk w' d := h.frm hf (fun _ h => h) (fun _ _ _ h => h)

theorem dnew_any (n : Int) (w : World) (h1 : 1 ≤ n) (h2 : n ≤ 16777216) :
    Calls Tryz.prog 38 #[.int .i64 n] w fun e w' => ∃ d, e = .returned (.tuple #[.pointer (some ⟨d, 0, none⟩), .int .i64 0]) ∧ w.heap.size ≤ d ∧ EDisk w' d ∧ Frm nothing w w' := by
  have hmm := @run_makeMap Tryz.prog
  go_enter Tryz.func38, Tryz.ntmps38
  go_wp2
  go_ret2
  refine ⟨_, rfl, by simp, ⟨w.heap.size, n, 0, ?_, ?_⟩, ((Frm.refl _ _).alloc _).alloc _⟩
  · exact heap_new2 w _ _
  · exact heap_old (heap_new w _)

theorem ddead_any (d : Nat) (w : World) (hd : EDisk w d) :
    Calls Tryz.prog 98 #[.pointer (some ⟨d, 0, none⟩)] w fun e w' => e = .returned (.bool false) ∧ w = w' := by
  obtain ⟨mb, lim, st, hb, hm⟩ := hd
  obtain ⟨c0, c1, c2, c3, c4, _⟩ := cells5 hb
  clear hb hm
  go_enter Tryz.func98, Tryz.ntmps98
  go_wp2
  go_ret
  exact ⟨rfl, rfl⟩
end Go.Proofs.YtmakanmjdfpcmaaGreat
