/- cluster's begins. -/
import Derived.Test.YtmakanmjdfpcmaaGreatClu4
import Derived.Deep.RegionLaw
namespace Go.Proofs.YtmakanmjdfpcmaaGreat
open Go.RowKit

/-- an event of client 0 that gets -/
abbrev evC (op : Nat) (n : ByteArray) (b e err : Nat) : Array Value := #[.int .i64 0, .int .i64 op, .bool false, .string n, .string ⟨#[]⟩, .int .i64 b, .int .i64 e, .int .i64 0, .int .i64 0, .int .i64 err]
theorem Tryz.infoEv : (Tryz.prog.info? 87).map (fun i => (i.zero, i.size, i.bytes)) = some (some (.agg (evC 0 ⟨#[]⟩ 0 0 0)), 10, 96) := by kernel_rfl
/-- what begins may change -/
abbrev gfrm (B c u : Nat) : Nat → Obj → Prop := fun q o => q = c ∨ q = u ∨ (B ≤ q ∧ Obj.ty o = some 9) ∨ (B ≤ q ∧ Obj.ty o = some 87)

theorem own_some {w : World} {B : Nat} {e : TypeId} {size n : Nat} {v : Value} {xs : List Value} (h : w.ownsRow B e size v n xs) (hn : 0 < n) : ∃ g cap, v = .slice (some ⟨g, 0, none⟩) n cap := by
  rcases h.2 with ⟨_, h0⟩ | ⟨g, cap, cur, rfl, _⟩
  · omega
  · exact ⟨g, cap, rfl⟩
theorem cells10 {w : World} {b : Nat} {x0 x1 x2 x3 x4 x5 x6 x7 x8 x9 : Value} {T : TypeId} (h : w.heap[b]? = some (.cells #[x0, x1, x2, x3, x4, x5, x6, x7, x8, x9] T (0, 0))) :
    w.cell? ⟨b, 0, none⟩ = some x0 ∧ w.cell? ⟨b, 1, none⟩ = some x1 ∧ w.cell? ⟨b, 2, none⟩ = some x2 ∧ w.cell? ⟨b, 3, none⟩ = some x3 ∧ w.cell? ⟨b, 4, none⟩ = some x4 ∧ w.cell? ⟨b, 5, none⟩ = some x5 ∧ w.cell? ⟨b, 6, none⟩ = some x6 ∧ w.cell? ⟨b, 7, none⟩ = some x7 ∧ w.cell? ⟨b, 8, none⟩ = some x8 ∧ w.cell? ⟨b, 9, none⟩ = some x9 ∧
    w.frozen? ⟨b, 0, none⟩ = false ∧ w.frozen? ⟨b, 1, none⟩ = false ∧ w.frozen? ⟨b, 2, none⟩ = false ∧ w.frozen? ⟨b, 3, none⟩ = false ∧ w.frozen? ⟨b, 4, none⟩ = false ∧ w.frozen? ⟨b, 5, none⟩ = false ∧ w.frozen? ⟨b, 6, none⟩ = false ∧ w.frozen? ⟨b, 7, none⟩ = false ∧ w.frozen? ⟨b, 8, none⟩ = false ∧ w.frozen? ⟨b, 9, none⟩ = false :=
  ⟨cell_at h, cell_at h, cell_at h, cell_at h, cell_at h, cell_at h, cell_at h, cell_at h, cell_at h, cell_at h, free_at h 0, free_at h 1, free_at h 2, free_at h 3, free_at h 4, free_at h 5, free_at h 6, free_at h 7, free_at h 8, free_at h 9⟩
theorem src_row {P : Program} {w : World} {nb size : Nat} {cs : Array Value} {tx e' T : TypeId} {f : Nat × Nat} (hk : P.underlying tx = some (.slice e')) (h : w.heap[nb]? = some (.cells cs T f)) (hs : cs.size = size) (h1 : ∀ v ∈ cs.toList, v.oneCell' = true) : Src P size tx (.slice (some ⟨nb, 0, none⟩) 1 1) 1 cs.toList w := by
  refine Src.ofSlice w hk ⟨nb, 0, none⟩ 1 1 _ (by simp [hs]) (fun j u hj => ?_) h1
  have h1 : w.cell? ⟨nb, j, none⟩ = some u := by rw [cell_at h]; simpa using hj
  by_cases h0 : j = 0
  · subst h0; simpa [Addr.add] using h1
  · simpa [Addr.add, h0] using h1
theorem row_cellN {w : World} {B : Nat} {e : TypeId} {size g n cap : Nat} {xs : List Value} (h : w.ownsRow B e size (.slice (some ⟨g, 0, none⟩) n cap) n xs) (j : Nat) (v : Value) (hj : xs[j]? = some v) : w.cell? ⟨g, j, none⟩ = some v := by
  have h1 := h.cells (g := g) rfl j v hj
  by_cases h0 : j = 0
  · subst h0; simpa [Addr.add] using h1
  · simpa [Addr.add, h0] using h1
set_option maxHeartbeats 4000000 in
set_option maxRecDepth 100000 in
theorem begins_ok (B c u g cap m e0 : Nat) (kp : Option Addr) (L net : List Msg) (xs : List Value) (sv uv nv ev : Value) (clock : Nat) (n : ByteArray) (w : World) (hc : Clu w c sv uv nv clock ev) (hu : w.ownsRow 0 83 1 uv 1 [.pointer (some ⟨u, 0, none⟩)])
    (hus : w.heap[u]? = some (.cells #[.pointer kp, .int .i64 e0] 85 (0, 0))) (he : w.ownsRow B 87 10 ev m xs)
    (hn : w.ownsRow B 9 1 nv net.length (netC net)) (hL : w.ownsRow 0 117 9 (.slice (some ⟨g, 0, none⟩) L.length cap) L.length (msgsC L)) (h0 : 0 < L.length) (hok : ∀ q ∈ L, q.Ok) (hlen : net.length + L.length < 400) (hm : m ≤ 10000) (hcl : clock ≤ 50000) (hB : B ≤ c) :
    Calls Tryz.prog 50 #[.pointer (some ⟨c, 0, none⟩), .int .i64 0, .agg (evC 0 n 0 0 0), .slice (some ⟨g, 0, none⟩) L.length cap] w fun e w' => e = .returned (.tuple #[]) ∧ ∃ nv' ev', Clu w' c sv uv nv' clock ev' ∧
      w'.heap[u]? = some (.cells #[.pointer kp, .int .i64 m] 85 (0, 0)) ∧ w'.ownsRow B 87 10 ev' (m + 1) (xs ++ (evC (L[0]'h0).o n clock 0 0).toList) ∧ w'.ownsRow B 9 1 nv' (net ++ L).length (netC (net ++ L)) ∧ Frm (gfrm B c u) w w' := by
  obtain ⟨i0, hi, hz0, hz1, hz2⟩ := info_parts Tryz.infoEv
  obtain ⟨gu, ucap, rfl⟩ := own_some hu (by omega)
  have hgul := (hu.lt gu rfl).2
  have uc := row_cellN hu 0 (.pointer (some ⟨u, 0, none⟩)) rfl
  have hgl := (hL.lt g rfl).2
  have g3 : w.cell? ⟨g, 3, none⟩ = some (.int .i64 (L[0]'h0).o) := row_cellN hL 3 _ (by have := msgsC_get L 0 3 h0 (by omega); simpa using this)
  obtain ⟨lop, hlop⟩ : ∃ x, x = (L[0]'h0).o := ⟨_, rfl⟩
  rw [← hlop] at g3 ⊢
  clear hlop
  obtain ⟨eo, ecap, rfl⟩ := ownRow_form he
  have HC := hid hc
  have HU := hid hu
  have HUS := hid hus
  have HE := hid he
  have HN := hid hn
  have HL := hid hL
  have HOK := hid hok
  have hcl2 := heap_lt hc
  have hul := heap_lt hus
  have c1 := cell_at (i := 1) hc
  have c3 := cell_at (i := 3) hc
  have c4 := cell_at (i := 4) hc
  have f4 := free_at hc 4
  have u1 := cell_at (i := 1) hus
  have fu1 := free_at hus 1
  clear hc hu hus he hn hL hok
  go_enter Tryz.func50, Tryz.ntmps50
  go_wp2_with fail
  go_region
  go_wp2_with fail
  go_region
  go_wp2_with fail
  refine abs_world ?_
  intro W hW
  have hfW : Frm (only u) w W := by
    rw [hW]
    repeat (first | with_reducible exact Frm.refl _ _ | with_reducible apply Frm.drew | with_reducible apply Frm.alloc | with_reducible (refine Frm.setCell ?_ _ _ fun _ _ => rfl))
  have huW : W.heap[u]? = some (.cells #[.pointer kp, .int .i64 m] 85 (0, 0)) := by
    rw [hW]; exact heap_old (heap_set HUS.out)
  have heW : W.heap[w.heap.size]? = some (.cells (evC lop n clock 0 0) 87 (0, 0)) := by
    rw [hW]; exact heap_at (by simp)
  clear hW
  have hcu : c ≠ u := ne_of_ty HC.out HUS.out (by decide)
  have hcW : Clu W c _ _ _ _ _ := hfW.keep HC.out (fun hp => hcu hp)
  have hEW := ownRow_keep HE.out hfW (fun k o hk ho hp => by
    have h1 := ownRow_ty HE.out hk ho
    have h2 : k = u := hp
    subst h2
    rw [HUS.out] at ho
    cases ho
    simp [Obj.ty] at h1)
  obtain ⟨d0, d1, d2, d3, d4, d5, d6, d7, d8, d9, _⟩ := cells10 heW
  have k4 := cell_at (i := 4) hcW
  have fk4 := free_at hcW 4
  have hcl3 := heap_lt hcW
  have hel := heap_lt heW
  have HNE := hid (ownRow_ne hEW hcW (by decide))
  have HFW := hid hfW
  have HUW := hid huW
  have HCW := hid hcW
  have HEW := hid hEW
  have K1 : Hid (m + 1 ≤ maxLen) := by show _ ≤ maxLen; unfold maxLen; omega
  have K2 : Hid ((m + 1) * 96 ≤ 140737488355328) := by show _ ≤ _; omega
  have K3 : Hid (∀ o, B ≤ (W.alloc o).drew.heap.size) := fun o => by show B ≤ (W.alloc o).heap.size; simp; omega
  clear c1 c3 c4 f4 u1 fu1 uc g3 hfW huW heW hcW hEW
  go_region_law ((refine step_append_src rfl (.tmp 41) (.tmp 43) 45 45 rfl B 87 i0 (.agg (evC 0 ⟨#[]⟩ 0 0 0)) 10 96 Tryz.underlying45 hi hz0 hz1 hz2 rfl (.slice eo m ecap) m xs rfl (HEW.out.alloc _) _ 1 (evC lop n clock 0 0).toList rfl (src_row Tryz.underlying45 (heap_new W _) rfl (by simp [Value.oneCell'])) (by omega) K1.out K2.out (K3.out _) ?_; intro g2 cap2 w2 hown2 hgrow hgg; have hc2 := kept_grown hgrow (heap_old HCW.out) HNE.out; have e4 := cell_at (i := 4) hc2; have fe4 := free_at hc2 4; have HC2 := hid hc2; have HO2 := hid hown2; have HG2 := hid hgrow; clear hc2 hown2 hgrow hgg))
  all_goals
    go_wp2_with fail
    have hF2 : Frm (fun q o => q = c ∨ (B ≤ q ∧ Obj.ty o = some 87)) W (w2.setCell ⟨c, 4, none⟩ (.slice (some ⟨g2, 0, none⟩) (m + 1) cap2)) :=
      Frm.setCell (Frm.grown (((Frm.refl _ W).alloc _).drew) HG2.out fun k o hk ho => .inr ⟨own_ge HEW.out hk.symm, ownRow_ty HEW.out hk ho⟩) _ _ fun _ _ => .inl rfl
    have hF : Frm (fun q o => q = c ∨ q = u ∨ (B ≤ q ∧ Obj.ty o = some 87)) w (w2.setCell ⟨c, 4, none⟩ (.slice (some ⟨g2, 0, none⟩) (m + 1) cap2)) :=
      Frm.trans (HFW.out.mono fun _ _ _ h => .inr (.inl h)) hF2 fun q o _ h => by rcases h with h | h; exact .inl h; exact .inr (.inr h)
    have hc3 : Clu (w2.setCell ⟨c, 4, none⟩ (.slice (some ⟨g2, 0, none⟩) (m + 1) cap2)) c _ _ _ _ _ := heap_set HC2.out
    have hn3 := ownRow_keep HN.out hF (fun k o hk ho hp => by
      have h1 := ownRow_ty HN.out hk ho
      rcases hp with hp | hp | hp
      · subst hp; rw [HC.out] at ho; cases ho; simp [Obj.ty] at h1
      · subst hp; rw [HUS.out] at ho; cases ho; simp [Obj.ty] at h1
      · rw [h1] at hp; simp at hp)
    have hL3 := ownRow_keep HL.out hF (fun k o hk ho hp => by
      have h1 := ownRow_ty HL.out hk ho
      rcases hp with hp | hp | hp
      · subst hp; rw [HC.out] at ho; cases ho; simp [Obj.ty] at h1
      · subst hp; rw [HUS.out] at ho; cases ho; simp [Obj.ty] at h1
      · rw [h1] at hp; simp at hp)
    have hu3 := hF2.keep HUW.out (fun hp => by rcases hp with hp | hp; exact hcu hp.symm; simp [Obj.ty] at hp)
    have he3 := ownsRow_setCell_other HO2.out (a := ⟨c, 4, none⟩) (ownRow_ne HO2.out HC2.out (by decide)) (.slice (some ⟨g2, 0, none⟩) (m + 1) cap2)
    refine (send_ok B c g cap L net _ _ _ _ clock _ hc3 hn3 hL3 HOK.out hlen hB).mono ?_
    rintro e w4 ⟨rfl, nv', hc4, hn4, hf4⟩
    have HA := hid (And.intro hc4 (And.intro (hf4.keep hu3 (fun hp => by rcases hp with hp | hp; exact hcu hp.symm; simp [Obj.ty] at hp)) (And.intro (ownRow_keep he3 hf4 (fun k o hk ho hp => by
      have h1 := ownRow_ty he3 hk ho
      rcases hp with hp | hp
      · subst hp; rw [hc3] at ho; cases ho; simp [Obj.ty] at h1
      · rw [h1] at hp; simp at hp)) (And.intro hn4 (Frm.trans (P := gfrm B c u) (hF.mono fun q o _ h => by rcases h with h | h | h; exact .inl h; exact .inr (.inl h); exact .inr (.inr (.inr h))) hf4 fun q o _ h => by rcases h with h | h; exact .inl h; exact .inr (.inr (.inl h)))))))
    clear hc4 hn4 hf4 hF2 hF hc3 hn3 hL3 hu3 he3
    go_wp2
    go_end0
    exact ⟨rfl, nv', _, HA.out⟩
end Go.Proofs.YtmakanmjdfpcmaaGreat
