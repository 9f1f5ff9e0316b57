/- The last step of a law's row: behind a call that answers true and leaves all that was there alone, the arguments read as before. -/
import Derived.Test.YtmakanmjdfpcmaaGreatRows
import Derived.Test.YtmakanmjdfpcmaaGreatK
import Derived.ProofKit
import Derived.OpenShut
import Derived.ReadAgain
namespace Go.Proofs.YtmakanmjdfpcmaaGreat
open Go.ChangeShapes Go.WideShapes Go.ChangeAt Go.RowKit

theorem Tryz.rowsLaid : laidOutB Tryz.prog = true := by kernel_rfl
theorem Tryz.rowsMaps : mapsRowed Tryz.prog = true := by kernel_rfl
theorem Tryz.rowsFull : ∀ t e, t < Tryz.prog.types.size → Tryz.prog.underlying t = some (.slice e) → 0 < Tryz.prog.cellsOf e := slices_full_of _ (by kernel_rfl)
theorem Tryz.ownNone : ownKnob Tryz.prog.godebug = none := by kernel_rfl

theorem same_below {w w' : World} {B : Nat} (hb : Below B w w') (p : MemPlace) (h : p.block < B) : w.sameAt w' p := by
  cases p with
  | cell b off => exact hb.cell (p := ⟨b, off, none⟩) h
  | map b => exact hb.block b h
theorem carry_all {H : Type} {enc : TypeId × Value → H} {P : Program} {w w' : World} {base : Nat} {sp : Nat → Bool} {held : Bool} : ∀ {ts : List TypeId} {vs : List Value} {ds : List (DataW H)} {ps : List MemPlace},
    DataW.TrodAll enc P w base sp held ts vs ds ps → (∀ p ∈ ps, w.sameAt w' p) → DataW.TrodAll enc P w' base sp held ts vs ds ps
  | [], [], [], _, h, _ => h
  | _ :: _, _ :: _, _ :: _, _, ⟨p, q, ⟨n, h1⟩, h2, e⟩, hs =>
    ⟨p, q, ⟨n, DataW.trod_carry n _ _ _ h1 (fun x hx => hs x (by rw [e]; exact List.mem_append_left _ hx))⟩, carry_all h2 (fun x hx => hs x (by rw [e]; exact List.mem_append_right _ hx)), e⟩

/-- the post of a law -/
theorem law_post {H : Type} {enc : TypeId × Value → H} {f : Func} {T : TypeId} {s : ChangeSpec} {W W' : World} {args : Array Value} {ds gs : List (DataW H)} {before : List MemPlace}
    (hW : DataW.Whole enc Tryz.prog f.params.toList s.vars false W args.toList ds gs before) (hv : s.vars = []) (hts : ∀ t ∈ f.params.toList, t < Tryz.prog.types.size)
    (hr : f.resultTypes = #[T]) (hT : Tryz.prog.underlying T = some .bool)
    (h1 : (s.fn H (ds ++ gs)).results = [.lit (.bool true)]) (h2 : (s.fn H (ds ++ gs)).args = ds) (h3 : (s.fn H (ds ++ gs)).vars = [])
    (hb : Below W.heap.size W W') : s.post enc Tryz.prog f false true false false W args (.bool true) W' := by
  have hW' := hW
  obtain ⟨p, q, hA, hV, rfl, hz, _⟩ := hW
  rw [hv] at hV
  obtain ⟨rfl, rfl⟩ := trodVars_none hV
  have hlt : ∀ x ∈ p, x.block < W.heap.size := fun x hx => DataW.TrodAll.lt hA x hx
  refine ⟨ds, [], p ++ [], [], p, [], hW', ?_, ?_, ?_, World.keptBut_mono (fun x hx => ⟨hx, .inr (.inl (by simpa using hx))⟩) (hb.frame (· ∈ p ++ [])), fun h => by cases h⟩
  · rw [h1, hr]
    exact trodAll_mk1 (shut_bool hT true)
  · rw [h2]
    exact carry_all (DataW.TrodAll.respare (kids_rows Tryz.rowsLaid Tryz.rowsMaps) Tryz.rowsFull hts hA (fun x hx => by simpa using hlt x hx)) fun x hx => same_below hb x (hlt x hx)
  · rw [hv, h3]; rfl
theorem Frm.below_all {w w' : World} (h : Frm nothing w w') : Below w.heap.size w w' := h.below (Nat.le_refl _) fun _ _ _ h => h
end Go.Proofs.YtmakanmjdfpcmaaGreat
