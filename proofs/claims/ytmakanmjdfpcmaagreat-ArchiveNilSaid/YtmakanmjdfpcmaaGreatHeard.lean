/- A map[int]bool used as a set: lookup, store of true, len. -/
import Derived.Test.YtmakanmjdfpcmaaGreatProg
import Derived.Test.YtmakanmjdfpcmaaGreatK
import Derived.Maps.OwnSet
namespace Go.Proofs.YtmakanmjdfpcmaaGreat
open Go.RowKit Go.Maps Go.MapKept Go.ChangeMaps Go.WideMaps

theorem plain_bool_inv {P : Program} {e : TypeId} (he : P.underlying e = some .bool) {v : Value} {b : Bool} {ps : List MemPlace} (h : plainElem (H := Unit) P e v = some (.lit (.bool b), ps)) : v = .bool b := by
  unfold plainElem at h
  rw [he] at h
  cases v <;> simp at h
  rename_i x
  rw [h.1]
theorem zeroBool (w : World) : (zeroValue 4).run Tryz.prog w = .ok (.bool false) w := by kernel_rfl

/-- block hb is a map that says true of the numbers of H, and of no others -/
def Heard (w : World) (hb : Nat) (H : List Int) : Prop := ∃ (n : Nat) (D : DataW Unit), w.ownsMap Tryz.prog 3 (plainElem Tryz.prog 4) hb n D ∧ n ≤ H.length ∧ Maps.size D = H.length ∧
  (∀ i z, i ∈ H → D.atKey (.int .i64 i) z = .lit (.bool true)) ∧ (∀ i z, i ∉ H → D.atKey (.int .i64 i) z = z)
theorem Heard.new {w : World} {hb : Nat} (h : w.heap[hb]? = some (.map #[] 0)) : Heard w hb [] := by
  refine ⟨0, .map [], ⟨#[], 0, h, ⟨by simp, stamped_empty 0, by simp⟩, Nat.le_refl _, rfl⟩, Nat.le_refl _, rfl, fun i z hi => (by simp at hi), fun i z _ => ?_⟩
  simp [DataW.atKey]
theorem Heard.frm {w w' : World} {hb : Nat} {H : List Int} {P : Nat → Obj → Prop} (h : Heard w hb H) (hf : Frm P w w') (hP : ∀ es c, ¬ P hb (.map es c)) : Heard w' hb H := by
  obtain ⟨n, D, ⟨es, c, hb0, r⟩, r2⟩ := h
  exact ⟨n, D, ⟨es, c, hf.block _ _ hb0 (hP _ _), r⟩, r2⟩
theorem Heard.lt {w : World} {hb : Nat} {H : List Int} (h : Heard w hb H) : hb < w.heap.size := by
  obtain ⟨n, D, ⟨es, c, hb0, r⟩, r2⟩ := h
  exact heap_lt hb0
theorem Heard.drew {w : World} {hb : Nat} {H : List Int} (h : Heard w hb H) : Heard w.drew hb H := h
theorem Heard.drewN {w : World} {hb : Nat} {H : List Int} (h : Heard w hb H) (k : Nat) : Heard (w.drewN k) hb H := h
theorem Heard.look {w : World} {hb : Nat} {H : List Int} (h : Heard w hb H) (i : Int) (hw : (Lit.int .i64 i).wf = true) :
    (Instr.lookup 145 (.map (some hb)) (.int .i64 i) false).run Tryz.prog w = .ok (.bool (decide (i ∈ H))) w := by
  obtain ⟨n, D, ho, _, _, h1, h2⟩ := h
  obtain ⟨v, ps, hr, hv⟩ := ho.lookup (int_keyed Tryz.underlying3) Tryz.underlying145 (zeroBool w) (plainElem_bool Tryz.underlying4 false) (keyOf_int_mk Tryz.underlying3 hw)
  by_cases hi : i ∈ H
  · rw [h1 i _ hi] at hv
    rw [hr, plain_bool_inv Tryz.underlying4 hv]; simp [hi]
  · rw [h2 i _ hi] at hv
    rw [hr, plain_bool_inv Tryz.underlying4 hv]; simp [hi]
theorem Heard.len {w : World} {hb : Nat} {H : List Int} (h : Heard w hb H) (ty : TypeId) : (Builtin.len_ #[145] ty #[.map (some hb)]).run Tryz.prog w = .ok (.int .i64 (H.length : Nat)) w := by
  obtain ⟨n, D, ho, _, hs, _⟩ := h
  rw [← hs]
  exact ho.len Tryz.underlying145 ty
theorem frm_turned {w w' : World} {b : Nat} (h : w.mapTurned w' b) : Frm (only b) w w' :=
  (Frm.refl _ w).grown h.grown fun k o e _ => by simpa using e.symm
theorem Heard.store {w : World} {hb : Nat} {H : List Int} (h : Heard w hb H) (i : Int) (hw : (Lit.int .i64 i).wf = true) (hi : i ∉ H) (hl : H.length ≤ 1000) :
    ∃ w', (Instr.mapUpdate 145 (.map (some hb)) (.int .i64 i) (.bool true)).run Tryz.prog w = .ok () w' ∧ Heard w' hb (i :: H) ∧ Frm (only hb) w w' := by
  obtain ⟨n, D, ho, hn, hs, h1, h2⟩ := h
  obtain ⟨w', hr, ho', ht⟩ := ho.store (int_keyed Tryz.underlying3) Tryz.underlying145 (by unfold maxLen; omega) (keyOf_int_mk Tryz.underlying3 hw) (plainElem_bool Tryz.underlying4 true)
  have hk : WideAt.IsKeyLit (.int .i64 i) := by simp [WideAt.IsKeyLit]
  refine ⟨w', hr, ⟨n + 1, _, ho', by simp; omega, ?_, fun j z hj => ?_, fun j z hj => ?_⟩, frm_turned ht⟩
  · have h3 : Maps.has D (.int .i64 i) = false := Maps.has_false_of_atKey fun z => h2 i z hi
    rw [Maps.size_put (ho.tidy (int_keyed Tryz.underlying3)), h3]
    simp [hs]
  · by_cases e : j = i
    · subst e; exact Maps.atKey_put_same ho.isMap hk _ _
    · rw [Maps.atKey_put_other (by simpa using e)]
      exact h1 j z (by simpa [e] using hj)
  · have e : j ≠ i := fun e => hj (by simp [e])
    rw [Maps.atKey_put_other (by simpa using e)]
    exact h2 j z fun hj2 => hj (by simp [hj2])
end Go.Proofs.YtmakanmjdfpcmaaGreat
