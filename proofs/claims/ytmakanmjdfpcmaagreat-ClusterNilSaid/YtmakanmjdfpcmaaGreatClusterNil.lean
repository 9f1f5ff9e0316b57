/- ClusterNil: a nil cluster has nothing: for every number the law returns true. -/
import Derived.Test.YtmakanmjdfpcmaaGreatCluNil2
import Derived.Test.YtmakanmjdfpcmaaGreatEnd
namespace Go.Proofs.YtmakanmjdfpcmaaGreat
open Go.ChangeShapes Go.WideShapes Go.ChangeAt Go.RowKit

set_option maxRecDepth 100000 in
theorem cnil_lifted (os : Os) (started : os.Started) (H : Type) (enc : TypeId × Value → H) :
    ReturnsInHanded {} Tryz.checked os 4 .any (Rows.clusterNilSpec.pre6 enc Tryz.prog Tryz.f4 Rows.clusterNilRow.domain false) (Rows.clusterNilSpec.post enc Tryz.prog Tryz.f4 false true false false) := by
  refine returnsInHanded_of_change (C := Tryz.checked) Tryz.ownNone started (by kernel_rfl) Tryz.func4
    (ChangeSpec.witness6 (enc := enc) (C := Tryz.checked) false ⟨#[], #[.int .i64 0], []⟩ 8 (by kernel_rfl) (by kernel_rfl) (by kernel_rfl) (by kernel_rfl)) ?_
  intro W base args ds gs before hval hW hcnd _
  have hW' := hW
  obtain ⟨p, q, hA0, hV, rfl, hfz, hnd⟩ := hW
  have hA : DataW.TrodAll enc Tryz.prog W 0 (fun _ => true) true Tryz.f4.params.toList args.toList ds p := hA0
  rw [Tryz.params4] at hA
  obtain ⟨v0, vs0, d0, ds0, p0, q0, hargs, rfl, rfl, h0, r0⟩ := trodAll_cons hA
  obtain ⟨rfl, rfl, rfl⟩ := trodAll_nil r0
  obtain rfl : args = #[v0] := by cases args; simp_all
  obtain ⟨rfl, rfl⟩ := trodVars_none hV
  obtain ⟨n, rfl⟩ := okWide_int Tryz.underlying3 (hval 0 3 v0 (by rw [Tryz.params4]; rfl) rfl)
  refine (cnil_any n W).mono fun e W' ⟨he, hf⟩ => ?_
  subst he
  exact ⟨_, rfl, law_post (T := 4) hW' rfl (by rw [Tryz.params4]; decide) (by kernel_rfl) Tryz.underlying4 rfl rfl rfl hf.below_all⟩

/- the row's closed facts, each by itself: in one declaration the kernel runs out of memory -/
theorem cnil_c1 : (Rows.clusterNilRow.inPlace == Program.inPlace Tryz.pinned.checked.prog 4) = true := by kernel_rfl
theorem cnil_c2 : (Rows.clusterNilRow.unfollowed == Program.unfollowed Tryz.pinned.checked.prog 4) = true := by kernel_rfl
theorem cnil_c3 : (Rows.clusterNilRow.recurses == Program.recurses Tryz.pinned.checked.prog 4) = true := by kernel_rfl
theorem cnil_c4 : (Rows.clusterNilRow.named == Program.varsNamed Tryz.pinned.checked.prog 4) = true := by kernel_rfl
theorem cnil_facts : joinedFacts Tryz.pinned.checked.prog 4 Tryz.f4 Rows.clusterNilSpec Rows.clusterNilRow = true := by
  unfold joinedFacts
  rw [cnil_c1, cnil_c2, cnil_c3, cnil_c4]
  kernel_rfl
theorem cnil_at : Program.funcNamed Tryz.pinned.checked.prog Rows.clusterNilRow.func = some 4 := by kernel_rfl
theorem cnil_inst : Func.isInstance Tryz.pinned.checked.prog Tryz.f4 Rows.clusterNilRow.origin Rows.clusterNilRow.targs := of_decide_eq_true (by kernel_rfl)
theorem cnil_wrap : Func.isWrapper Tryz.pinned.checked.prog Tryz.f4 Rows.clusterNilRow.wrapper Rows.clusterNilRow.mainSum := by
  unfold Func.isWrapper
  first | (rw [if_pos (by decide +kernel)]; kernel_rfl) | (rw [if_neg (by decide +kernel)]; exact ⟨rfl, rfl⟩)

/-- The statement. -/
theorem clusterNil : Rows.ClusterNilSaid :=
  OpenClaim.holds_of_wide 4 Tryz.f4 rfl rfl rfl rfl rfl rfl rfl ⟨rfl, rfl, rfl, rfl, rfl⟩ rfl rfl rfl rfl rfl cnil_at Tryz.func4 cnil_facts cnil_inst cnil_wrap
    (fun os started H enc _ => cnil_lifted os started H enc)
#print axioms clusterNil
end Go.Proofs.YtmakanmjdfpcmaaGreat
