/- ended: an operation that ended with ErrNone. -/
import Derived.Test.YtmakanmjdfpcmaaGreatCluRun
namespace Go.Proofs.YtmakanmjdfpcmaaGreat
open Go.RowKit

theorem own_set {w : World} {B : Nat} {e : TypeId} {size g n cap : Nat} {xs : List Value} (h : w.ownsRow B e size (.slice (some ⟨g, 0, none⟩) n cap) n xs) (j : Nat) (hj : j < xs.length) (v : Value) : (w.setCell ⟨g, j, none⟩ v).ownsRow B e size (.slice (some ⟨g, 0, none⟩) n cap) n (xs.set j v) := by
  refine ⟨by rw [List.length_set]; exact h.1, ?_⟩
  rcases h.2 with ⟨h0, _⟩ | ⟨g', cap', cur, h3, h4, h5, h6, h7, h8, h9⟩
  · cases h0
  · cases h3
    refine .inr ⟨g, cap, cur.setIfInBounds j v, rfl, h4, heap_set h5, h6, h7, by simpa using h8, ?_⟩
    rw [Array.toList_setIfInBounds, List.take_set, h9]
theorem own_free {w : World} {B : Nat} {e : TypeId} {size g n cap : Nat} {xs : List Value} (h : w.ownsRow B e size (.slice (some ⟨g, 0, none⟩) n cap) n xs) (j : Nat) : w.frozen? ⟨g, j, none⟩ = false := by
  rcases h.2 with ⟨h0, _⟩ | ⟨g', cap', cur, h3, h4, h5, h6⟩
  · cases h0
  · cases h3; exact free_at h5 j

set_option maxHeartbeats 4000000 in
set_option maxRecDepth 100000 in
theorem ended_ok (B c u k ge cap m e0 : Nat) (xs : List Value) (sv uv nv : Value) (clock : Nat) (cs : Array Value) (w : World) (hc : Clu w c sv uv nv clock (.slice (some ⟨ge, 0, none⟩) m cap)) (hu : w.heap[u]? = some (.cells #[.pointer (some ⟨k, 0, none⟩), .int .i64 e0] 85 (0, 0)))
    (he : w.ownsRow B 87 10 (.slice (some ⟨ge, 0, none⟩) m cap) m xs) (hm : e0 < m) (hm2 : m ≤ 1000) (hk : Cli w k cs) (hp : cs[3]? = some (.int .i64 0)) (hend : cs[24]? = some (.int .i64 41)) :
    Calls Tryz.prog 65 #[.pointer (some ⟨c, 0, none⟩), .pointer (some ⟨u, 0, none⟩)] w fun e w' => e = .returned (.tuple #[]) ∧
      w'.ownsRow B 87 10 (.slice (some ⟨ge, 0, none⟩) m cap) m ((xs.set (e0 * 10 + 6) (.int .i64 clock)).set (e0 * 10 + 9) (.int .i64 41)) ∧ Frm (only ge) w w' := by
  have HR := hid (cresult_none k cs w.drew hk hp hend)
  have HC := hid hc
  have HU := hid hu
  have HE := hid he
  have c3 := cell_at (i := 3) hc
  have c4 := cell_at (i := 4) hc
  have u0 := cell_at (i := 0) hu
  have u1 := cell_at (i := 1) hu
  clear hc hu he hk
  go_enter Tryz.func65, Tryz.ntmps65
  go_wp2_with fail
  go_region
  go_wp2_with fail
  refine HR.out.mono ?_
  rintro e w1 ⟨rfl, hf0⟩
  have hf1 : Frm nothing w w1 := (Frm.refl _ _).drew.trans hf0 fun _ _ _ h => h
  have hc1 := hf1.keep (Clu.block HC.out) fun h => h
  have he1 := ownRow_frm HE.out hf1 fun _ _ h => h
  clear c3 c4 u0 u1
  have c3 := cell_at (i := 3) hc1
  have hcl := heap_lt hc1
  have hgl := own_lt he1
  have hge : ge ≠ c := by
    have := ownRow_ne he1 hc1 (by decide)
    simpa [Value.ownBlock] using this
  have f6 := own_free he1 (e0 * 10 + 6)
  have f9 := own_free he1 (e0 * 10 + 9)
  have hlx : xs.length = m * 10 := he1.1
  obtain ⟨v6, hv6⟩ : ∃ v, xs[e0 * 10 + 6]? = some v := ⟨_, List.getElem?_eq_getElem (by omega)⟩
  obtain ⟨v9, hv9⟩ : ∃ v, xs[e0 * 10 + 9]? = some v := ⟨_, List.getElem?_eq_getElem (by omega)⟩
  have r6 := row_cellN he1 _ _ hv6
  have r9 := row_cellN he1 _ _ hv9
  have HLX := hid hlx
  clear hv6 hv9 hlx
  have HE1 := hid he1
  have HF1 := hid hf1
  clear he1 hc1 hf1 hf0
  go_wp2_with fail
  go_end0
  have hl := HLX.out
  refine ⟨rfl, (own_set (own_set HE1.out _ (by omega) _) _ (by rw [List.length_set]; omega) _).alloc _, ?_⟩
  exact (((HF1.out.mono fun _ _ _ h => h.elim).setCell _ _ fun _ _ => rfl).setCell _ _ fun _ _ => rfl).alloc _

end Go.Proofs.YtmakanmjdfpcmaaGreat
