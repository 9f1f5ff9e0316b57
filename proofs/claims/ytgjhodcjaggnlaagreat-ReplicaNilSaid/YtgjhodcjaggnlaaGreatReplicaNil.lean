/- ReplicaNil: a nil replica, and one of a nil store, does nothing: for every message the law returns true, and the message reads behind the call as before. -/
import Derived.Test.YtgjhodcjaggnlaaGreatReplicaE
import Derived.Test.YtgjhodcjaggnlaaGreatEnd
namespace Go.Proofs.YtgjhodcjaggnlaaGreat
open Go.ChangeShapes Go.WideShapes Go.ChangeAt Go.RowKit

set_option maxHeartbeats 400000 in
theorem sameE (k f t o c h : Int) (n m : ByteArray) (w : World) :
    Calls Tryz.prog 44 #[.agg #[.int .i64 k, .int .i64 f, .int .i64 t, .int .i64 o, .string n, .int .i64 c, .int .i64 h, .string m, .slice none 0 0], .agg #[.int .i64 k, .int .i64 f, .int .i64 t, .int .i64 o, .string n, .int .i64 c, .int .i64 h, .string m, .slice none 0 0]] w fun e w' =>
      e = .returned (.bool true) ∧ Frm nothing w w' := by
  go_enter Tryz.func44, Tryz.ntmps44
  go_wp2
  refine wp_loop_rounds 1 ?_
  rw [rounds_succ]
  go_wp2
  go_ret
  exact ⟨rfl, ((Frm.refl _ _).alloc _).alloc _⟩

set_option maxHeartbeats 1000000 in
theorem rawake (w : World) : Calls Tryz.prog 13 #[] w fun e w' => e = .returned (.bool true) ∧ Frm nothing w w' := by
  go_enter Tryz.func13, Tryz.ntmps13
  go_wp2_with (first
    | (go_at_call 17; refine (dnew_any _ _ (by omega) (by omega)).mono ?_; rintro e w1 ⟨d, rfl, hdl, hd, hf1⟩; have HD := hid hd; have HF1 := hid hf1; clear hd hf1)
    | (go_at_call 18; refine (sopenE d _ HD.out).mono ?_; rintro e w2 ⟨s, rfl, hsl, hs, hf2⟩; have HS := hid hs; have HF2 := hid hf2; clear hs hf2)
    | (go_at_call 12; refine (rnew_ok _ _ _ (by omega) (by omega)).mono ?_; rintro e w3 ⟨r, rfl, hrl, hr, hf3⟩; have HR := hid hr; have HF3 := hid hf3; clear hr hf3)
    | (go_at_call 11; refine (handle_askE r s d 0 _ _ _ _ _ _ _ _ HR.out (HS.out.still HF3.out) (by decide)).mono ?_; rintro e w4 ⟨b, rfl, hbl, hf4, hb⟩; have HF4 := hid hf4; have HB := hid hb; have c0 := cell_at (i := 0) hb; have c1 := cell_at (i := 1) hb; have c2 := cell_at (i := 2) hb; have c3 := cell_at (i := 3) hb; have c4 := cell_at (i := 4) hb; have c5 := cell_at (i := 5) hb; have c6 := cell_at (i := 6) hb; have c7 := cell_at (i := 7) hb; have c8 := cell_at (i := 8) hb; clear hf4 hb)
    | (go_at_call 44; refine (sameE _ _ _ _ _ _ _ _ _).mono ?_; rintro e w5 ⟨rfl, hf5⟩; have HF5 := hid hf5; clear hf5))
  go_ret
  exact ⟨rfl, (((HF1.out.trans HF2.out fun _ _ _ h => h).trans HF3.out fun _ _ _ h => h).trans HF4.out fun _ _ _ h => h).trans HF5.out fun _ _ _ h => h⟩

set_option maxHeartbeats 1000000 in
theorem rnil_any (v0 v1 v2 v3 v4 v5 v6 v7 v8 : Value) (w : World) : Calls Tryz.prog 3 #[.agg #[v0, v1, v2, v3, v4, v5, v6, v7, v8]] w fun e w' => e = .returned (.bool true) ∧ Frm nothing w w' := by
  go_enter Tryz.func3, Tryz.ntmps3
  go_wp2_with (first
    | (go_at_call 11; refine (handle_nil _ _).mono ?_; rintro e w1 ⟨rfl, hf1⟩; have HF1 := hid hf1; clear hf1)
    | (go_at_call 12; refine (rnew_nil _ _).mono ?_; rintro e w2 ⟨rfl, rfl⟩)
    | (go_at_call 13; refine (rawake _).mono ?_; rintro e w3 ⟨rfl, hf3⟩; have HF3 := hid hf3; clear hf3))
  go_ret
  exact ⟨rfl, (((Frm.refl _ _).alloc _).trans HF1.out fun _ _ _ h => h).trans HF3.out fun _ _ _ h => h⟩

theorem nine {α : Type} {l : List α} (h : l.length = 9) : ∃ a b c d e f g i j, l = [a, b, c, d, e, f, g, i, j] := by
  match l, h with
  | [a, b, c, d, e, f, g, i, j], _ => exact ⟨a, b, c, d, e, f, g, i, j, rfl⟩

set_option maxRecDepth 100000 in
theorem rnil_lifted (os : Os) (started : os.Started) (H : Type) (enc : TypeId × Value → H) :
    ReturnsInHanded {} Tryz.checked os 3 .any (Rows.replicaNilSpec.pre6 enc Tryz.prog Tryz.f3 Rows.replicaNilRow.domain false) (Rows.replicaNilSpec.post enc Tryz.prog Tryz.f3 false true false false) := by
  refine returnsInHanded_of_change (C := Tryz.checked) Tryz.ownNone started (by kernel_rfl) Tryz.func3
    (ChangeSpec.witness6 (enc := enc) (C := Tryz.checked) false ⟨#[], #[.agg #[.int .i64 0, .int .i64 0, .int .i64 0, .int .i64 0, .string .empty, .int .i64 0, .int .i64 0, .string .empty, .slice none 0 0]], []⟩ 8 (by kernel_rfl) (by kernel_rfl) (by kernel_rfl) (by kernel_rfl)) ?_
  intro W base args ds gs before hval hW hcnd _
  have hW' := hW
  obtain ⟨p, q, hA0, hV, rfl, hfz, hnd⟩ := hW
  have hA : DataW.TrodAll enc Tryz.prog W 0 (fun _ => true) true Tryz.f3.params.toList args.toList ds p := hA0
  rw [Tryz.params3] at hA
  obtain ⟨v0, vs0, d0, ds0, p0, q0, hargs, rfl, rfl, h0, r0⟩ := trodAll_cons hA
  obtain ⟨rfl, rfl, rfl⟩ := trodAll_nil r0
  obtain rfl : args = #[v0] := by cases args; simp_all
  obtain ⟨rfl, rfl⟩ := trodVars_none hV
  obtain ⟨cs, rfl, hsz⟩ := okWide_struct Tryz.underlying26 (hval 0 26 v0 (by rw [Tryz.params3]; rfl) rfl)
  have h9 : cs.size = 9 := hsz.trans (by kernel_rfl)
  obtain ⟨l⟩ := cs
  obtain ⟨v0, v1, v2, v3, v4, v5, v6, v7, v8, rfl⟩ := nine h9
  refine (rnil_any v0 v1 v2 v3 v4 v5 v6 v7 v8 W).mono fun e W' ⟨he, hf⟩ => ?_
  subst he
  exact ⟨_, rfl, law_post (T := 4) hW' rfl (by rw [Tryz.params3]; decide) (by kernel_rfl) Tryz.underlying4 rfl rfl rfl hf.below_all⟩

/-- The statement. -/
theorem replicaNil : Rows.ReplicaNilSaid :=
  OpenClaim.holds_of_wide 3 Tryz.f3 rfl rfl rfl rfl rfl rfl rfl ⟨rfl, rfl, rfl, rfl, rfl⟩ rfl rfl rfl rfl rfl (by kernel_rfl) Tryz.func3 (by kernel_rfl)
    (of_decide_eq_true (by kernel_rfl)) (by unfold Func.isWrapper; first | (rw [if_pos (by decide +kernel)]; kernel_rfl) | (rw [if_neg (by decide +kernel)]; exact ⟨rfl, rfl⟩))
    (fun os started H enc _ => rnil_lifted os started H enc)
#print axioms replicaNil
end Go.Proofs.YtgjhodcjaggnlaaGreat
