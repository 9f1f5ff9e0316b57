/- Walks of package seglog on an empty disk: newest, tidy, Open. -/
import Derived.Test.YtmakanmjdfpcmaaGreatFilesE
namespace Go.Proofs.YtmakanmjdfpcmaaGreat
open Go.RowKit

/-- block l is a log on the disk at block d that has not begun -/
def ELog (w : World) (l d : Nat) : Prop := w.heap[l]? = some (.cells #[.pointer (some ⟨d, 0, none⟩), .int .i64 0, .bool false, .bool false] 249 (0, 0))

theorem reverse_none (w : World) : Calls Tryz.prog 239 #[.slice none 0 0] w fun e w' => e = .returned (.tuple #[]) ∧ w = w' := by
  go_enter Tryz.func239, Tryz.ntmps239
  go_wp2
  refine wp_loop_rounds 1 ?_
  rw [rounds_succ]
  go_wp2
  go_end0
  exact ⟨rfl, rfl⟩

theorem newestE (d : Nat) (w : World) (hd : EDisk w d) :
    Calls Tryz.prog 188 #[.pointer (some ⟨d, 0, none⟩)] w fun e w' => ∃ l, e = .returned (.tuple #[.pointer (some ⟨l, 0, none⟩), .slice none 0 0, .int .i64 0, .int .i64 0]) ∧ w.heap.size ≤ l ∧ ELog w' l d ∧ Frm nothing w w' := by
  have HD := hid fun o => filesE d (w.alloc o) (hd.still ((Frm.refl _ _).alloc o))
  clear hd
  go_enter Tryz.func188, Tryz.ntmps188
  go_wp2_with (first | (go_at_call 109; refine (HD.out _).mono ?_; rintro e w1 ⟨rfl, hf⟩; have HF := hid hf; clear hf) | (go_at_call 239; refine (reverse_none _).mono ?_; rintro e w2 ⟨rfl, rfl⟩))
  refine wp_loop_rounds 1 ?_
  rw [rounds_succ]
  go_wp2
  refine bodyPost_ret (v := .tuple #[.pointer (some ⟨w.heap.size, 0, none⟩), .slice none 0 0, .int .i64 0, .int .i64 0]) (by simp [results, Tryz.results188, go_sem]) rfl ?_
  refine ⟨_, rfl, by simp, HF.out.keep (heap_new w _) id, ((Frm.refl _ _).alloc _).trans HF.out fun _ _ _ h => h⟩

theorem tidyE (l d : Nat) (n : Int) (w : World) (hd : EDisk w d) (hl : ELog w l d) :
    Calls Tryz.prog 189 #[.pointer (some ⟨l, 0, none⟩), .int .i64 n] w fun e w' => e = .returned (.int .i64 0) ∧ Frm nothing w w' := by
  have HD := hid (filesE d w hd)
  obtain ⟨c0, c1, c2, c3, _⟩ := cells4 hl
  have HL := hid hl
  clear hd hl
  go_enter Tryz.func189, Tryz.ntmps189
  go_wp2_with (first | (go_at_call 109; refine HD.out.mono ?_; rintro e w1 ⟨rfl, hf⟩; have e2 := cell_at (i := 2) (hf.keep HL.out id); have HF := hid hf; clear hf))
  refine wp_loop_rounds 1 ?_
  rw [rounds_succ]
  go_wp2
  go_ret
  exact ⟨rfl, HF.out⟩

theorem slopenE (d : Nat) (w : World) (hd : EDisk w d) :
    Calls Tryz.prog 123 #[.pointer (some ⟨d, 0, none⟩)] w fun e w' => ∃ l, e = .returned (.tuple #[.pointer (some ⟨l, 0, none⟩), .slice none 0 0, .int .i64 0]) ∧ w.heap.size ≤ l ∧ ELog w' l d ∧ Frm nothing w w' := by
  have HD := hid hd
  clear hd
  go_enter Tryz.func123, Tryz.ntmps123
  go_wp2_with (first | (go_at_call 98; refine (ddead_any d _ HD.out).mono ?_; rintro e w1 ⟨rfl, rfl⟩) | (go_at_call 188; refine (newestE d _ HD.out).mono ?_; rintro e w1 ⟨l, rfl, hle, hl, hf⟩; have HL := hid (And.intro hle (And.intro hl hf)); clear hle hl hf) | (go_at_call 189; refine (tidyE _ d _ _ (HD.out.still HL.out.2.2) HL.out.2.1).mono ?_; rintro e w2 ⟨rfl, hf⟩; have HF := hid hf; clear hf))
  go_ret3
  exact ⟨_, rfl, HL.out.1, HF.out.keep HL.out.2.1 id, HL.out.2.2.trans HF.out fun _ _ _ h => h⟩
end Go.Proofs.YtmakanmjdfpcmaaGreat
