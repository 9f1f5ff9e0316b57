/- Events: a copy of the row. -/
import Derived.Test.YtmakanmjdfpcmaaGreatCluGet
namespace Go.Proofs.YtmakanmjdfpcmaaGreat
open Go.RowKit

theorem src_own {P : Program} {w : World} {B size g n cap : Nat} {xs : List Value} {tx e' T : TypeId} (hk : P.underlying tx = some (.slice e')) (h : w.ownsRow B T size (.slice (some ⟨g, 0, none⟩) n cap) n xs) (h1 : ∀ v ∈ xs, v.oneCell' = true) : Src P size tx (.slice (some ⟨g, 0, none⟩) n cap) n xs w := by
  refine Src.ofSlice w hk ⟨g, 0, none⟩ n cap _ (by rw [h.1]) (fun j u hj => ?_) h1
  have h2 := row_cellN h j u hj
  by_cases h0 : j = 0
  · subst h0; simpa [Addr.add] using h2
  · simpa [Addr.add, h0] using h2

set_option maxHeartbeats 2000000 in
theorem clone_ev (g0 m cap0 : Nat) (xs : List Value) (w : World) (h : w.ownsRow 0 87 10 (.slice (some ⟨g0, 0, none⟩) m cap0) m xs) (h0 : 0 < m) (hm : m ≤ 1000) (hone : ∀ v ∈ xs, v.oneCell' = true) :
    Calls Tryz.prog 55 #[.slice (some ⟨g0, 0, none⟩) m cap0] w fun e w' => ∃ g cap, e = .returned (.slice (some ⟨g, 0, none⟩) m cap) ∧ w'.ownsRow 0 87 10 (.slice (some ⟨g, 0, none⟩) m cap) m xs ∧ Frm nothing w w' := by
  obtain ⟨i0, hi, hz0, hz1, hz2⟩ := info_parts Tryz.infoEv
  have hnil := fun w => Lib.run_eql_slice_nil (P := Tryz.prog) w 45 87 (some ⟨g0, 0, none⟩) m cap0 0 0 Tryz.underlying45
  have HO : Hid ((w.alloc (.cells #[] 87)).ownsRow w.heap.size 87 10 (.slice (some ⟨w.heap.size, 0, none⟩) 0 0) 0 []) := World.ownsRow_lit w #[] 0 (Nat.le_refl _) (by unfold maxLen; omega) rfl
  have HS : Hid (Src Tryz.prog 10 45 (.slice (some ⟨g0, 0, none⟩) m cap0) m xs (w.alloc (.cells #[] 87))) := src_own Tryz.underlying45 (h.alloc _) hone
  have K1 : Hid (0 + m ≤ maxLen) := by show _ ≤ maxLen; unfold maxLen; omega
  have K2 : Hid ((0 + m) * 96 ≤ 140737488355328) := by show _ ≤ _; omega
  have K3 : Hid (w.heap.size ≤ (w.alloc (.cells #[] 87)).heap.size) := by show _ ≤ _; simp
  clear h
  go_enter Tryz.func55, Tryz.ntmps55
  go_wp2_with (at_builtin; refine wpList_append_src rfl _ _ 45 45 rfl w.heap.size 87 i0 (.agg (evC 0 ⟨#[]⟩ 0 0 0)) 10 96 Tryz.underlying45 hi hz0 hz1 hz2 rfl (.slice (some ⟨w.heap.size, 0, none⟩) 0 0) 0 [] rfl HO.out _ m xs rfl HS.out h0 K1.out K2.out K3.out ?_; intro g cap w2 hown2 hgrow hgg; have HO2 := hid hown2; have HG2 := hid hgrow; clear hown2 hgrow hgg)
  go_ret
  have h1 := HO2.out
  simp only [Nat.zero_add, List.nil_append] at h1
  refine ⟨g, cap, by simp, own_base h1, ?_⟩
  exact ((Frm.refl _ _).alloc _).grown HG2.out fun k o hk ho => by
      simp [Value.ownBlock] at hk
      subst hk
      exact absurd (heap_lt ho) (by omega)
theorem events_ok (c g0 m cap0 : Nat) (xs : List Value) (sv uv nv : Value) (clock : Nat) (w : World) (hc : Clu w c sv uv nv clock (.slice (some ⟨g0, 0, none⟩) m cap0)) (h : w.ownsRow 0 87 10 (.slice (some ⟨g0, 0, none⟩) m cap0) m xs) (h0 : 0 < m) (hm : m ≤ 1000) (hone : ∀ v ∈ xs, v.oneCell' = true) :
    Calls Tryz.prog 16 #[.pointer (some ⟨c, 0, none⟩)] w fun e w' => ∃ g cap, e = .returned (.slice (some ⟨g, 0, none⟩) m cap) ∧ w'.ownsRow 0 87 10 (.slice (some ⟨g, 0, none⟩) m cap) m xs ∧ Frm nothing w w' := by
  have HC := hid (clone_ev g0 m cap0 xs w h h0 hm hone)
  have c4 := cell_at (i := 4) hc
  clear hc h
  go_enter Tryz.func16, Tryz.ntmps16
  go_wp2_with fail
  refine HC.out.mono ?_
  rintro e w1 ⟨g, cap, rfl, ho, hf⟩
  go_wp2
  go_ret
  exact ⟨g, cap, rfl, ho, hf⟩
end Go.Proofs.YtmakanmjdfpcmaaGreat
