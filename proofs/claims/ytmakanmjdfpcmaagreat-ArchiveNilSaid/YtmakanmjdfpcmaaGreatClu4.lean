/- cluster's take. -/
import Derived.Test.YtmakanmjdfpcmaaGreatClu3
namespace Go.Proofs.YtmakanmjdfpcmaaGreat
open Go.RowKit

theorem Frm.trans2 {P Q : Nat → Obj → Prop} {a w w' : World} (h1 : Frm P a w) (h2 : Frm Q w w') (hq : ∀ k o, a.heap[k]? = some o → Q k o → P k o) : Frm P a w' :=
  ⟨h2.os.trans h1.os, h2.tape.trans h1.tape, h2.output.trans h1.output, Nat.le_trans h1.size h2.size,
    fun k o hk hp => h2.block k o (h1.block k o hk hp) (fun hc => hp (hq k o hk hc))⟩
theorem ownRow_keep {w w' : World} {B : Nat} {e : TypeId} {size : Nat} {v : Value} {n : Nat} {xs : List Value} {P : Nat → Obj → Prop} (h : w.ownsRow B e size v n xs) (hf : Frm P w w') (hP : ∀ k o, v.ownBlock = some k → w.heap[k]? = some o → ¬ P k o) : w'.ownsRow B e size v n xs := by
  refine ⟨h.1, ?_⟩
  rcases h.2 with h0 | ⟨g, cap, cur, h3, h4, h5, h6⟩
  · exact .inl h0
  · exact .inr ⟨g, cap, cur, h3, h4, hf.block _ _ h5 (hP _ _ (by rw [h3]; rfl) h5), h6⟩
theorem row_cell {w : World} {B : Nat} {e : TypeId} {g n cap : Nat} {xs : List Value} (h : w.ownsRow B e 1 (.slice (some ⟨g, 0, none⟩) n cap) n xs) (j : Nat) (v : Value) (hj : xs[j]? = some v) : w.cell? ⟨g, j, none⟩ = some v := by
  have h1 := h.cells (g := g) rfl j v hj
  by_cases h0 : j = 0
  · subst h0; simpa [Addr.add] using h1
  · simpa [Addr.add, h0] using h1

set_option maxHeartbeats 2000000 in
set_option maxRecDepth 100000 in
theorem takes_ok (B c g cap i : Nat) (net : List Msg) (sv uv ev : Value) (clock : Nat) (w : World) (hc : Clu w c sv uv (.slice (some ⟨g, 0, none⟩) net.length cap) clock ev)
    (hn : w.ownsRow B 9 1 (.slice (some ⟨g, 0, none⟩) net.length cap) net.length (netC net)) (hi : i < net.length) (hl : net.length ≤ 400) (hcl : clock ≤ 50000) :
    Calls Tryz.prog 62 #[.pointer (some ⟨c, 0, none⟩), .int .i64 i] w fun e w' => e = .returned (.tuple #[.string net[i].enc, .int .i64 0]) ∧ Clu w' c sv uv (.slice (some ⟨g, 0, none⟩) (net.length - 1) cap) (clock + 1) ev ∧
      w'.ownsRow B 9 1 (.slice (some ⟨g, 0, none⟩) (net.length - 1) cap) (net.length - 1) (netC (net.eraseIdx i)) ∧ Frm (sfrm B c) w w' := by
  have HC := hid hc
  have HN := hid hn
  have HNT := hid (net_ok c net.length cap (some ⟨g, 0, none⟩) sv uv ev clock w hc (by omega))
  have HT : Hid (∀ many, (i : Int) < many → Calls Tryz.prog 47 #[.pointer (some ⟨c, 0, none⟩), .int .i64 many, .slice (some ⟨w.heap.size, 0, none⟩) 1 1] (w.alloc (.cells #[.int .i64 i] 3)) fun e w' => e = .returned (.int .i64 0) ∧ Clu w' c sv uv (.slice (some ⟨g, 0, none⟩) net.length cap) (clock + 1) ev ∧ Frm (only c) (w.alloc (.cells #[.int .i64 i] 3)) w') :=
    fun many hm => tick_ok c w.heap.size sv uv _ ev clock many i _ (heap_old hc) (heap_new w _) (by omega) hm hcl
  clear hc hn
  go_enter Tryz.func62, Tryz.ntmps62
  go_wp2_with fail
  refine HNT.out.mono ?_
  rintro e w' ⟨rfl, rfl⟩
  go_wp2_with fail
  refine (HT.out _ (by omega)).mono ?_
  rintro e w1 ⟨rfl, hc1, hf1⟩
  have hgc : g ≠ c := by
    have := ownRow_ne HN.out HC.out (by decide)
    simpa [Value.ownBlock] using this
  have hn1 := ownRow_keep (HN.out.alloc (.cells #[.int .i64 i] 3)) hf1 (fun k o hk _ hp => by
    simp [Value.ownBlock] at hk
    subst hk
    exact hgc hp)
  have HC1 := hid hc1
  have HF1 := hid (((Frm.refl (sfrm B c) w).alloc (.cells #[.int .i64 i] 3)).trans hf1 fun _ _ _ h => .inl h)
  have hgB : B ≤ g := own_ge hn1 rfl
  have HD := hid (delete_net g cap i net w1 (own_base hn1) hi (by omega))
  have c2 := cell_at (i := 2) hc1
  have hrow := row_cell hn1 i (.string net[i].enc) (by simp [netC, hi])
  obtain ⟨E, hE⟩ : ∃ E, E = net[i].enc := ⟨_, rfl⟩
  rw [← hE] at hrow
  have HE := hid hE
  clear hE
  clear hf1 hc1 hn1
  go_wp2_with fail
  rw [show ((i : Int) + 1) = ((i + 1 : Nat) : Int) from by omega]
  refine HD.out.mono ?_
  rintro e w2 ⟨rfl, hn2, hf2⟩
  have hc2 := hf2.keep HC1.out (fun hp => hgc hp.symm)
  clear c2 hrow
  have c2 := cell_at (i := 2) hc2
  have f2 := free_at hc2 2
  have HC2 := hid hc2
  have HN2 := hid (own_rebase hn2 hgB)
  have HF2 := hid hf2
  clear hc2 hn2 hf2
  go_wp2
  go_ret2
  refine ⟨ret_str2 HE.out, heap_set HC2.out, ownsRow_setCell_other HN2.out (a := ⟨c, 2, none⟩) (by simp [Value.ownBlock]; exact hgc) _, ?_⟩
  refine Frm.setCell ?_ _ _ fun _ _ => .inl rfl
  have hty : ∀ k o, w.heap[k]? = some o → only g k o → Obj.ty o = some 9 := by
    intro k o ho hp
    have hp' : k = g := hp
    subst hp'
    exact ownRow_ty HN.out rfl ho
  have hgk : ∀ (k : Nat) (o : Obj), only g k o → B ≤ k := by
    intro k o hp
    have hp' : k = g := hp
    rw [hp']; exact hgB
  exact Frm.trans2 HF1.out HF2.out fun k o ho hp => .inr ⟨hgk k o hp, hty k o ho hp⟩
end Go.Proofs.YtmakanmjdfpcmaaGreat
