/- A nil cluster's methods. -/
import Derived.Test.YtmakanmjdfpcmaaGreatCluEv
namespace Go.Proofs.YtmakanmjdfpcmaaGreat
open Go.RowKit

theorem ntick (v l : Value) (w : World) : Calls Tryz.prog 47 #[.pointer none, v, l] w fun e w' => e = .returned (.int .i64 2) ∧ w = w' := by
  go_enter Tryz.func47, Tryz.ntmps47
  go_wp2
  go_ret
  exact ⟨rfl, rfl⟩
theorem npeople (w : World) : Calls Tryz.prog 48 #[.pointer none] w fun e w' => e = .returned (.int .i64 0) ∧ w = w' := by
  go_enter Tryz.func48, Tryz.ntmps48
  go_wp2
  go_ret
  exact ⟨rfl, rfl⟩
theorem nplaces (w : World) : Calls Tryz.prog 56 #[.pointer none] w fun e w' => e = .returned (.int .i64 0) ∧ w = w' := by
  go_enter Tryz.func56, Tryz.ntmps56
  go_wp2
  go_ret
  exact ⟨rfl, rfl⟩
theorem nnet (w : World) : Calls Tryz.prog 20 #[.pointer none] w fun e w' => e = .returned (.int .i64 0) ∧ w = w' := by
  go_enter Tryz.func20, Tryz.ntmps20
  go_wp2
  go_ret
  exact ⟨rfl, rfl⟩
theorem nevents (w : World) : Calls Tryz.prog 16 #[.pointer none] w fun e w' => e = .returned (.slice none 0 0) ∧ w = w' := by
  go_enter Tryz.func16, Tryz.ntmps16
  go_wp2
  go_ret
  exact ⟨rfl, rfl⟩
theorem ntake (n : Int) (w : World) : Calls Tryz.prog 62 #[.pointer none, .int .i64 n] w fun e w' => e = .returned (.tuple #[.string ⟨#[]⟩, .int .i64 2]) ∧ Frm nothing w w' := by
  go_enter Tryz.func62, Tryz.ntmps62
  go_wp2_with (first | (go_at_call 48; refine (npeople _).mono ?_; rintro e w' ⟨rfl, rfl⟩) | (go_at_call 56; refine (nplaces _).mono ?_; rintro e w' ⟨rfl, rfl⟩) | (go_at_call 20; refine (nnet _).mono ?_; rintro e w' ⟨rfl, rfl⟩) | (go_at_call 47; refine (ntick _ _ _).mono ?_; rintro e w' ⟨rfl, rfl⟩))
  go_ret2
  exact ⟨rfl, by with_reducible repeat (first | exact Frm.refl _ _ | apply Frm.drew | apply Frm.drewN | apply Frm.alloc)⟩
theorem nget (n : Int) (s : ByteArray) (w : World) : Calls Tryz.prog 13 #[.pointer none, .int .i64 n, .string s] w fun e w' => e = .returned (.int .i64 2) ∧ Frm nothing w w' := by
  go_enter Tryz.func13, Tryz.ntmps13
  go_wp2_with (first | (go_at_call 48; refine (npeople _).mono ?_; rintro e w' ⟨rfl, rfl⟩) | (go_at_call 56; refine (nplaces _).mono ?_; rintro e w' ⟨rfl, rfl⟩) | (go_at_call 20; refine (nnet _).mono ?_; rintro e w' ⟨rfl, rfl⟩) | (go_at_call 47; refine (ntick _ _ _).mono ?_; rintro e w' ⟨rfl, rfl⟩))
  go_ret
  exact ⟨rfl, by with_reducible repeat (first | exact Frm.refl _ _ | apply Frm.drew | apply Frm.drewN | apply Frm.alloc)⟩
theorem nput (n : Int) (s t : ByteArray) (w : World) : Calls Tryz.prog 11 #[.pointer none, .int .i64 n, .string s, .string t, .slice none 0 0] w fun e w' => e = .returned (.int .i64 2) ∧ Frm nothing w w' := by
  go_enter Tryz.func11, Tryz.ntmps11
  go_wp2_with (first | (go_at_call 48; refine (npeople _).mono ?_; rintro e w' ⟨rfl, rfl⟩) | (go_at_call 56; refine (nplaces _).mono ?_; rintro e w' ⟨rfl, rfl⟩) | (go_at_call 20; refine (nnet _).mono ?_; rintro e w' ⟨rfl, rfl⟩) | (go_at_call 47; refine (ntick _ _ _).mono ?_; rintro e w' ⟨rfl, rfl⟩))
  go_ret
  exact ⟨rfl, by with_reducible repeat (first | exact Frm.refl _ _ | apply Frm.drew | apply Frm.drewN | apply Frm.alloc)⟩
theorem nresend (n : Int) (w : World) : Calls Tryz.prog 19 #[.pointer none, .int .i64 n] w fun e w' => e = .returned (.int .i64 2) ∧ Frm nothing w w' := by
  go_enter Tryz.func19, Tryz.ntmps19
  go_wp2_with (first | (go_at_call 48; refine (npeople _).mono ?_; rintro e w' ⟨rfl, rfl⟩) | (go_at_call 56; refine (nplaces _).mono ?_; rintro e w' ⟨rfl, rfl⟩) | (go_at_call 20; refine (nnet _).mono ?_; rintro e w' ⟨rfl, rfl⟩) | (go_at_call 47; refine (ntick _ _ _).mono ?_; rintro e w' ⟨rfl, rfl⟩))
  go_ret
  exact ⟨rfl, by with_reducible repeat (first | exact Frm.refl _ _ | apply Frm.drew | apply Frm.drewN | apply Frm.alloc)⟩
theorem nagain (n : Int) (w : World) : Calls Tryz.prog 23 #[.pointer none, .int .i64 n] w fun e w' => e = .returned (.int .i64 2) ∧ Frm nothing w w' := by
  go_enter Tryz.func23, Tryz.ntmps23
  go_wp2_with (first | (go_at_call 48; refine (npeople _).mono ?_; rintro e w' ⟨rfl, rfl⟩) | (go_at_call 56; refine (nplaces _).mono ?_; rintro e w' ⟨rfl, rfl⟩) | (go_at_call 20; refine (nnet _).mono ?_; rintro e w' ⟨rfl, rfl⟩) | (go_at_call 47; refine (ntick _ _ _).mono ?_; rintro e w' ⟨rfl, rfl⟩))
  go_ret
  exact ⟨rfl, by with_reducible repeat (first | exact Frm.refl _ _ | apply Frm.drew | apply Frm.drewN | apply Frm.alloc)⟩
theorem ndown (n : Int) (w : World) : Calls Tryz.prog 24 #[.pointer none, .int .i64 n] w fun e w' => e = .returned (.int .i64 2) ∧ Frm nothing w w' := by
  go_enter Tryz.func24, Tryz.ntmps24
  go_wp2_with (first | (go_at_call 48; refine (npeople _).mono ?_; rintro e w' ⟨rfl, rfl⟩) | (go_at_call 56; refine (nplaces _).mono ?_; rintro e w' ⟨rfl, rfl⟩) | (go_at_call 20; refine (nnet _).mono ?_; rintro e w' ⟨rfl, rfl⟩) | (go_at_call 47; refine (ntick _ _ _).mono ?_; rintro e w' ⟨rfl, rfl⟩))
  go_ret
  exact ⟨rfl, by with_reducible repeat (first | exact Frm.refl _ _ | apply Frm.drew | apply Frm.drewN | apply Frm.alloc)⟩
theorem ncompact (n : Int) (w : World) : Calls Tryz.prog 27 #[.pointer none, .int .i64 n] w fun e w' => e = .returned (.int .i64 2) ∧ Frm nothing w w' := by
  go_enter Tryz.func27, Tryz.ntmps27
  go_wp2_with (first | (go_at_call 48; refine (npeople _).mono ?_; rintro e w' ⟨rfl, rfl⟩) | (go_at_call 56; refine (nplaces _).mono ?_; rintro e w' ⟨rfl, rfl⟩) | (go_at_call 20; refine (nnet _).mono ?_; rintro e w' ⟨rfl, rfl⟩) | (go_at_call 47; refine (ntick _ _ _).mono ?_; rintro e w' ⟨rfl, rfl⟩))
  go_ret
  exact ⟨rfl, by with_reducible repeat (first | exact Frm.refl _ _ | apply Frm.drew | apply Frm.drewN | apply Frm.alloc)⟩
theorem ndeliver (n : Int) (w : World) : Calls Tryz.prog 21 #[.pointer none, .int .i64 n] w fun e w' => e = .returned (.int .i64 2) ∧ Frm nothing w w' := by
  go_enter Tryz.func21, Tryz.ntmps21
  go_wp2_with (go_at_call 62; refine (ntake _ _).mono ?_; rintro e w1 ⟨rfl, hf1⟩; have HF1 := hid hf1; clear hf1)
  go_ret
  exact ⟨rfl, HF1.out⟩
theorem ndrop (n : Int) (w : World) : Calls Tryz.prog 22 #[.pointer none, .int .i64 n] w fun e w' => e = .returned (.int .i64 2) ∧ Frm nothing w w' := by
  go_enter Tryz.func22, Tryz.ntmps22
  go_wp2_with (go_at_call 62; refine (ntake _ _).mono ?_; rintro e w1 ⟨rfl, hf1⟩; have HF1 := hid hf1; clear hf1)
  go_ret
  exact ⟨rfl, HF1.out⟩
theorem narm (n m : Int) (w : World) : Calls Tryz.prog 25 #[.pointer none, .int .i64 n, .int .i64 m] w fun e w' => e = .returned (.int .i64 2) ∧ Frm nothing w w' := by
  go_enter Tryz.func25, Tryz.ntmps25
  go_wp2_with (first | (go_at_call 48; refine (npeople _).mono ?_; rintro e w' ⟨rfl, rfl⟩) | (go_at_call 56; refine (nplaces _).mono ?_; rintro e w' ⟨rfl, rfl⟩) | (go_at_call 20; refine (nnet _).mono ?_; rintro e w' ⟨rfl, rfl⟩) | (go_at_call 47; refine (ntick _ _ _).mono ?_; rintro e w' ⟨rfl, rfl⟩))
  go_ret
  exact ⟨rfl, by with_reducible repeat (first | exact Frm.refl _ _ | apply Frm.drew | apply Frm.drewN | apply Frm.alloc)⟩
theorem nstart (n : Int) (l : Value) (w : World) : Calls Tryz.prog 26 #[.pointer none, .int .i64 n, l] w fun e w' => e = .returned (.int .i64 2) ∧ Frm nothing w w' := by
  go_enter Tryz.func26, Tryz.ntmps26
  go_wp2_with (first | (go_at_call 48; refine (npeople _).mono ?_; rintro e w' ⟨rfl, rfl⟩) | (go_at_call 56; refine (nplaces _).mono ?_; rintro e w' ⟨rfl, rfl⟩) | (go_at_call 20; refine (nnet _).mono ?_; rintro e w' ⟨rfl, rfl⟩) | (go_at_call 47; refine (ntick _ _ _).mono ?_; rintro e w' ⟨rfl, rfl⟩))
  go_ret
  exact ⟨rfl, by with_reducible repeat (first | exact Frm.refl _ _ | apply Frm.drew | apply Frm.drewN | apply Frm.alloc)⟩
theorem nsync (n m : Int) (w : World) : Calls Tryz.prog 17 #[.pointer none, .int .i64 n, .int .i64 m] w fun e w' => e = .returned (.tuple #[.agg #[.int .i64 0, .int .i64 0, .int .i64 0], .int .i64 2]) ∧ Frm nothing w w' := by
  go_enter Tryz.func17, Tryz.ntmps17
  go_wp2_with (first | (go_at_call 48; refine (npeople _).mono ?_; rintro e w' ⟨rfl, rfl⟩) | (go_at_call 56; refine (nplaces _).mono ?_; rintro e w' ⟨rfl, rfl⟩) | (go_at_call 20; refine (nnet _).mono ?_; rintro e w' ⟨rfl, rfl⟩) | (go_at_call 47; refine (ntick _ _ _).mono ?_; rintro e w' ⟨rfl, rfl⟩))
  refine bodyPost_ret (v := .tuple #[.agg #[.int .i64 0, .int .i64 0, .int .i64 0], .int .i64 2]) (by simp [results, Tryz.results17, go_sem]) rfl ?_
  refine ⟨rfl, by repeat (first | exact Frm.refl _ _ | apply Frm.setCell | apply Frm.drew | apply Frm.drewN | apply Frm.alloc)⟩
theorem nentries (n : Int) (w : World) : Calls Tryz.prog 18 #[.pointer none, .int .i64 n] w fun e w' => e = .returned (.tuple #[.slice none 0 0, .int .i64 2]) ∧ Frm nothing w w' := by
  go_enter Tryz.func18, Tryz.ntmps18
  go_wp2
  go_ret2
  exact ⟨rfl, by with_reducible repeat (first | exact Frm.refl _ _ | apply Frm.drew | apply Frm.drewN | apply Frm.alloc)⟩
theorem nresult (n : Int) (w : World) : Calls Tryz.prog 14 #[.pointer none, .int .i64 n] w fun e w' => e = .returned (.tuple #[.agg #[.int .i64 0, .int .i64 0], .string ⟨#[]⟩, .slice none 0 0, .int .i64 2]) ∧ Frm nothing w w' := by
  go_enter Tryz.func14, Tryz.ntmps14
  go_wp2
  refine bodyPost_ret (v := .tuple #[.agg #[.int .i64 0, .int .i64 0], .string ⟨#[]⟩, .slice none 0 0, .int .i64 2]) (by simp [results, Tryz.results14, go_sem]) rfl ?_
  exact ⟨rfl, by with_reducible repeat (first | exact Frm.refl _ _ | apply Frm.drew | apply Frm.drewN | apply Frm.alloc)⟩
end Go.Proofs.YtmakanmjdfpcmaaGreat
