/- ArchiveNil: a nil archive has nothing: for every string and every number the law returns true. -/
import Derived.Test.YtmakanmjdfpcmaaGreatArc7
import Derived.Test.YtmakanmjdfpcmaaGreatEnd
namespace Go.Proofs.YtmakanmjdfpcmaaGreat
open Go.ChangeShapes Go.WideShapes Go.ChangeAt Go.RowKit

set_option maxRecDepth 100000 in
theorem anil_lifted (os : Os) (started : os.Started) (H : Type) (enc : TypeId × Value → H) :
    ReturnsInHanded {} Tryz.checked os 5 .any (Rows.archiveNilSpec.pre6 enc Tryz.prog Tryz.f5 Rows.archiveNilRow.domain false) (Rows.archiveNilSpec.post enc Tryz.prog Tryz.f5 false true false false) := by
  refine returnsInHanded_of_change (C := Tryz.checked) Tryz.ownNone started (by kernel_rfl) Tryz.func5
    (ChangeSpec.witness6 (enc := enc) (C := Tryz.checked) false ⟨#[], #[.string .empty, .int .i64 0], []⟩ 8 (by kernel_rfl) (by kernel_rfl) (by kernel_rfl) (by kernel_rfl)) ?_
  intro W base args ds gs before hval hW hcnd _
  have hW' := hW
  obtain ⟨p, q, hA0, hV, rfl, hfz, hnd⟩ := hW
  have hA : DataW.TrodAll enc Tryz.prog W 0 (fun _ => true) true Tryz.f5.params.toList args.toList ds p := hA0
  rw [Tryz.params5] at hA
  obtain ⟨v0, vs0, d0, ds0, p0, q0, hargs, rfl, rfl, h0, r0⟩ := trodAll_cons hA
  obtain ⟨v1, vs1, d1, ds1, p1, q1, hargs1, rfl, rfl, h1, r1⟩ := trodAll_cons r0
  obtain ⟨rfl, rfl, rfl⟩ := trodAll_nil r1
  obtain rfl : args = #[v0, v1] := by cases args; simp_all
  obtain ⟨rfl, rfl⟩ := trodVars_none hV
  obtain ⟨s, rfl⟩ := okWide_string Tryz.underlying9 (hval 0 9 v0 (by rw [Tryz.params5]; rfl) rfl)
  obtain ⟨n, rfl⟩ := okWide_int Tryz.underlying3 (hval 1 3 v1 (by rw [Tryz.params5]; rfl) rfl)
  refine (anil_any s n W).mono fun e W' ⟨he, hf⟩ => ?_
  subst he
  exact ⟨_, rfl, law_post (T := 4) hW' rfl (by rw [Tryz.params5]; decide) (by kernel_rfl) Tryz.underlying4 rfl rfl rfl hf.below_all⟩

/- the row's closed facts, each by itself: in one declaration the kernel runs out of memory -/
theorem anil_c1 : (Rows.archiveNilRow.inPlace == Program.inPlace Tryz.pinned.checked.prog 5) = true := by kernel_rfl
theorem anil_c2 : (Rows.archiveNilRow.unfollowed == Program.unfollowed Tryz.pinned.checked.prog 5) = true := by kernel_rfl
theorem anil_c3 : (Rows.archiveNilRow.recurses == Program.recurses Tryz.pinned.checked.prog 5) = true := by kernel_rfl
theorem anil_c4 : (Rows.archiveNilRow.named == Program.varsNamed Tryz.pinned.checked.prog 5) = true := by kernel_rfl
theorem anil_facts : joinedFacts Tryz.pinned.checked.prog 5 Tryz.f5 Rows.archiveNilSpec Rows.archiveNilRow = true := by
  unfold joinedFacts
  rw [anil_c1, anil_c2, anil_c3, anil_c4]
  kernel_rfl
theorem anil_at : Program.funcNamed Tryz.pinned.checked.prog Rows.archiveNilRow.func = some 5 := by kernel_rfl
theorem anil_inst : Func.isInstance Tryz.pinned.checked.prog Tryz.f5 Rows.archiveNilRow.origin Rows.archiveNilRow.targs := of_decide_eq_true (by kernel_rfl)
theorem anil_wrap : Func.isWrapper Tryz.pinned.checked.prog Tryz.f5 Rows.archiveNilRow.wrapper Rows.archiveNilRow.mainSum := by
  unfold Func.isWrapper
  first | (rw [if_pos (by decide +kernel)]; kernel_rfl) | (rw [if_neg (by decide +kernel)]; exact ⟨rfl, rfl⟩)

/-- The statement. -/
theorem archiveNil : Rows.ArchiveNilSaid :=
  OpenClaim.holds_of_wide 5 Tryz.f5 rfl rfl rfl rfl rfl rfl rfl ⟨rfl, rfl, rfl, rfl, rfl⟩ rfl rfl rfl rfl rfl anil_at Tryz.func5 anil_facts anil_inst anil_wrap
    (fun os started H enc _ => anil_lifted os started H enc)
#print axioms archiveNil
end Go.Proofs.YtmakanmjdfpcmaaGreat
