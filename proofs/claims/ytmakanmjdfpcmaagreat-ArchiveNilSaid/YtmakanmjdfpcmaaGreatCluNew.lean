/- cluster.New(1, 1). -/
import Derived.Test.YtmakanmjdfpcmaaGreatSite
import Derived.Test.YtmakanmjdfpcmaaGreatClu5
namespace Go.Proofs.YtmakanmjdfpcmaaGreat
open Go.RowKit

theorem Tryz.infoPS : (Tryz.prog.info? 75).map (fun i => (i.zero, i.size, i.bytes)) = some (some (.pointer none), 1, 8) := by kernel_rfl
theorem Tryz.infoPU : (Tryz.prog.info? 83).map (fun i => (i.zero, i.size, i.bytes)) = some (some (.pointer none), 1, 8) := by kernel_rfl
def ptr (x : Nat) : Value := .pointer (some ⟨x, 0, none⟩)
theorem EDiskN.only {w w' : World} {d a x : Nat} {cs : Array Value} (h : EDiskN w d a) (hx : w.heap[x]? = some (.cells cs 79 (0, 0))) (hf : Frm (Go.Proofs.YtmakanmjdfpcmaaGreat.only x) w w') : EDiskN w' d a := by
  obtain ⟨mb, lim, st, h1, h2, h3⟩ := h
  refine ⟨mb, lim, st, hf.block _ _ h1 fun hp => ?_, hf.block _ _ h2 fun hp => ?_, h3⟩
  · have hp' : d = x := hp
    subst hp'; rw [hx] at h1; simp at h1
  · have hp' : mb = x := hp
    subst hp'; rw [hx] at h2; simp at h2
/-- what a round of New may change -/
abbrev nfrm (B c : Nat) : Nat → Obj → Prop := fun q o => q = c ∨ (B ≤ q ∧ Obj.ty o = some 75)
theorem nfrm_free {B c a : Nat} {w : World} {cs : Array Value} (hc : w.heap[c]? = some (.cells cs 71 (0, 0))) : SiteFree a (fun q o => w.heap[q]? = some o ∧ nfrm B c q o) := by
  refine ⟨fun k c' hp => ?_, fun k c' hp => ?_, fun k c' hp => ?_, fun k c' hp => ?_, fun k es n _ hp => ?_⟩ <;>
  · obtain ⟨h1, h2⟩ := hp
    rcases h2 with h2 | h2
    · subst h2; rw [hc] at h1; simp at h1
    · simp [Obj.ty] at h2
/-- a frame says nothing of what is not there -/
theorem Frm.there {P : Nat → Obj → Prop} {w w' : World} (h : Frm P w w') : Frm (fun q o => w.heap[q]? = some o ∧ P q o) w w' :=
  ⟨h.os, h.tape, h.output, h.size, fun k o hk hp => h.block k o hk fun hq => hp ⟨hk, hq⟩⟩

/-- the sites made so far -/
structure Made (w wr : World) (c j : Nat) (sv : Value) (X : List Nat) : Prop where
  len : X.length = j
  clu : Clu wr c sv (.slice none 0 0) (.slice none 0 0) 0 (.slice none 0 0)
  own : wr.ownsRow w.heap.size 75 1 sv j (X.map ptr)
  up : ∀ (q : Nat) (h : q < X.length), SiteUp wr X[q] q wr.heap.size
  nodup : X.Nodup
  lt : ∀ x ∈ X, x < wr.heap.size
  frm : Frm nothing w wr
  cw : w.heap.size ≤ c
  ge : ∀ x ∈ X, w.heap.size ≤ x

theorem Made.next {w wr w' : World} {c j x : Nat} {sv sv' : Value} {X : List Nat} (h : Made w wr c j sv X) (hc : Clu w' c sv' (.slice none 0 0) (.slice none 0 0) 0 (.slice none 0 0)) (ho : w'.ownsRow w.heap.size 75 1 sv' (j + 1) (X.map ptr ++ [ptr x]))
    (hx : wr.heap.size ≤ x) (hxl : x < w'.heap.size) (hu : SiteUp w' x j w'.heap.size) (hf : Frm (nfrm w.heap.size c) wr w') : Made w w' c (j + 1) sv' (X ++ [x]) := by
  have hl := h.len
  have hf2 : Frm nothing w w' := h.frm.trans2 hf fun k o hk hp => by
    rcases hp with hp | hp
    · have := heap_lt hk; have := h.cw; omega
    · have := heap_lt hk; omega
  refine ⟨by simp [hl], hc, by simpa using ho, fun q hq => ?_, ?_, ?_, hf2, h.cw, fun y hy => ?_⟩
  · by_cases hq2 : q < X.length
    · rw [List.getElem_append_left hq2]
      have h1 := (h.up q hq2)
      obtain ⟨d, s, r, g1, g2, g3, g4⟩ := h1
      have hs := hf.size
      have hfree := nfrm_free (B := w.heap.size) (a := w'.heap.size) (w := wr) h.clu
      refine ⟨d, s, r, hf.there.block _ _ g1 fun hp => ?_, (g2.later hs).frm hf.there hfree, (g3.later hs).frm hf.there hfree, hf.there.block _ _ g4 fun hp => ?_⟩
      · obtain ⟨p1, p2⟩ := hp
        rcases p2 with p2 | p2
        · rw [p2] at p1; unfold Clu at *; have := h.clu; unfold Clu at this; rw [this] at p1; simp at p1
        · simp [Obj.ty] at p2
      · obtain ⟨p1, p2⟩ := hp
        rcases p2 with p2 | p2
        · rw [p2] at p1; have := h.clu; unfold Clu at this; rw [this] at p1; simp at p1
        · simp [Obj.ty] at p2
    · have e : q = X.length := by simp at hq; omega
      subst e
      rw [List.getElem_append_right (Nat.le_refl _)]
      simp only [Nat.sub_self, List.getElem_cons_zero]
      rw [hl]; exact hu
  · rw [List.nodup_append]
    refine ⟨h.nodup, by simp, fun y hy z hz => ?_⟩
    simp at hz
    subst hz
    have := h.lt y hy
    omega
  · intro y hy
    simp at hy
    rcases hy with hy | hy
    · have := h.lt y hy; have := hf.size; omega
    · subst hy; exact hxl
  · simp at hy
    rcases hy with hy | hy
    · exact h.ge y hy
    · subst hy; have := h.frm.size; omega

set_option maxHeartbeats 4000000 in
set_option maxRecDepth 100000 in
theorem new_ok2 (w : World) :
    Calls Tryz.prog 6 #[.int .i64 1, .int .i64 1] w fun e w' => ∃ (c : Nat) (sv uv : Value) (X : List Nat) (u k : Nat), e = .returned (.tuple #[ptr c, .int .i64 0]) ∧ w.heap.size ≤ c ∧ w.heap.size ≤ u ∧ w.heap.size ≤ k ∧ Clu w' c sv uv (.slice none 0 0) 0 (.slice none 0 0) ∧ w'.ownsRow 0 75 1 sv 3 (X.map ptr) ∧ X.length = 3 ∧ X.Nodup ∧
      (∀ (q : Nat) (h : q < X.length), SiteUp w' X[q] q w'.heap.size) ∧ w'.ownsRow 0 83 1 uv 1 [ptr u] ∧ w'.heap[u]? = some (.cells #[ptr k, .int .i64 0] 85 (0, 0)) ∧ Cli w' k (cli 3 3 0 0 (.map none) 0 0 0 0 ⟨#[]⟩ ⟨#[]⟩ 41) ∧ Frm nothing w w' ∧ ∀ x ∈ X, w.heap.size ≤ x := by
  obtain ⟨i0, hi, hz0, hz1, hz2⟩ := info_parts Tryz.infoPS
  obtain ⟨j0, hj, hy0, hy1, hy2⟩ := info_parts Tryz.infoPU
  go_enter Tryz.func6, Tryz.ntmps6
  go_wp2
  go_loopg [36] 3 (fun g i wr => ∃ (j : Nat) (sv : Value) (X : List Nat), j + g = 3 ∧ i = .int .i64 j ∧ Made w wr w.heap.size j sv X)
  case atStart => exact ⟨0, .slice none 0 0, [], by omega, rfl, ⟨rfl, heap_new w _, ⟨rfl, .inl ⟨rfl, rfl⟩⟩, fun q h => absurd h (by simp), List.nodup_nil, fun x hx => by simp at hx, (Frm.refl _ _).alloc _, Nat.le_refl _, fun x hx => by simp at hx⟩⟩
  case round =>
    obtain ⟨j, sv, X, hjg, rfl, hM⟩ := hrel
    have HJ := hid hjg
    have HM := hid hM
    have hj3 : j ≤ 3 := by omega
    clear hjg hM
    by_cases hlt : j < 3
    · go_wp2_with fail
      refine (dnewN _ _ (by omega) (by omega)).mono ?_
      rintro e w1 ⟨d, rfl, hd, hdN, hf1⟩
      go_wp2_with fail
      have HD := hid (And.intro hd (And.intro hdN hf1))
      have hx1 := heap_new w1 (.cells #[ptr d, .pointer none, .pointer none] 79 (0, 0))
      have HE : Hid (EDisk (w1.alloc (.cells #[ptr d, .pointer none, .pointer none] 79 (0, 0))) d) := by
        obtain ⟨mb, lim, st, g1, g2, _⟩ := hdN (w1.heap.size) (Nat.le_refl _)
        exact ⟨mb, lim, st, heap_old g1, heap_old g2⟩
      clear hd hdN hf1
      refine (open_ok w1.heap.size d j none none _ hx1 HE.out (by omega)).mono ?_
      rintro e w2 ⟨rfl, ⟨s, r, hx2, hs2, hr2⟩, hf2⟩
      have hcw1 := HD.out.2.2.keep HM.out.clu (fun h => h)
      have hcne : w.heap.size ≠ w1.heap.size := by have := heap_lt hcw1; omega
      have HC2 : Hid (Clu w2 w.heap.size sv (.slice none 0 0) (.slice none 0 0) 0 (.slice none 0 0)) := hf2.keep (heap_old hcw1) (fun h => hcne h)
      have HO2 : Hid (w2.ownsRow w.heap.size 75 1 sv j (X.map ptr)) := ownRow_keep ((ownRow_frm HM.out.own HD.out.2.2 (fun _ _ h => h)).alloc _) hf2 (fun k o hk ho hp => by
        have h1 : k = w1.heap.size := hp
        subst h1
        have h2 := ownRow_ty ((ownRow_frm HM.out.own HD.out.2.2 (fun _ _ h => h)).alloc (.cells #[ptr d, .pointer none, .pointer none] 79 (0, 0))) hk ho
        rw [hx1] at ho
        cases ho
        simp [Obj.ty] at h2)
      have HS2 := hid (And.intro hx2 (And.intro hs2 (And.intro hr2 hf2)))
      clear hx1 hx2 hs2 hr2 hf2
      have c0 := cell_at (i := 0) HC2.out
      have f0 := free_at HC2.out 0
      have hcl := heap_lt HC2.out
      have HNE := hid (ownRow_ne HO2.out HC2.out (by decide))
      have K1 : Hid (j < maxLen) := by show j < maxLen; unfold maxLen; omega
      have K2 : Hid ((j + 1) * 8 ≤ 140737488355328) := by show _ ≤ _; omega
      have K3 : Hid (∀ o, w.heap.size ≤ (w2.alloc o).heap.size) := fun o => by simp; omega
      go_wp2_with (at_builtin; refine wpList_append_one rfl _ _ 68 rfl w.heap.size 75 i0 (.pointer none) 8 Tryz.underlying68 hi hz0 hz1 hz2 rfl sv j (X.map ptr) rfl w2.heap.size rfl (ptr w1.heap.size) (HO2.out.alloc _) (cell_at (heap_new w2 _)) rfl K1.out K2.out (K3.out _) ?_; intro g2 cap2 w3 hown3 hgrow hgg; have hc3 := kept_grown hgrow (heap_old HC2.out) HNE.out; have e0 := cell_at (i := 0) hc3; have ef0 := free_at hc3 0; have HC3 := hid hc3; have HO3 := hid hown3; have HG3 := hid hgrow; clear hc3 hown3 hgrow hgg)
      go_roundg (3 - (j + 1))
      case measure => have := HJ.out; omega
      case rel =>
        refine ⟨j + 1, .slice (some ⟨g2, 0, none⟩) (j + 1) cap2, X ++ [w1.heap.size], by have := HJ.out; omega, by go_num, ?_⟩
        obtain ⟨hx2, hs2, hr2, hf2⟩ := HS2.out
        obtain ⟨hd, hdN, hf1⟩ := HD.out
        have hsz1 := hf1.size
        have hF0 : Frm nothing wr (w1.alloc (.cells #[ptr d, .pointer none, .pointer none] 79 (0, 0))) := hf1.alloc _
        have hF2 : Frm nothing wr w2 := hF0.trans hf2 fun k _ hk hp => by have h1 : k = w1.heap.size := hp; omega
        have hT : ∀ {P : Nat → Obj → Prop} {a : World}, Frm P a w2 → (∀ k o, a.heap[k]? = some o → ¬ P k o → w2.heap[k]? = some o) → (∀ k o, nfrm w.heap.size w.heap.size k o → P k o) → Frm P a (w3.setCell ⟨w.heap.size, 0, none⟩ (.slice (some ⟨g2, 0, none⟩) (j + 1) cap2)) := by
          intro P a hP hk hn
          refine Frm.setCell ?_ _ _ fun _ _ => hn _ _ (.inl rfl)
          refine Frm.grown (a := a) (hP.alloc _) HG3.out fun k o hb ho => ?_
          by_cases hs : P k o
          · exact hs
          · exact hn _ _ (.inr ⟨own_ge HO2.out hb.symm, ownRow_ty HO2.out hb (hk _ _ ho hs)⟩)
        have hFw : Frm (nfrm w.heap.size w.heap.size) wr (w3.setCell ⟨w.heap.size, 0, none⟩ (.slice (some ⟨g2, 0, none⟩) (j + 1) cap2)) := hT (hF2.mono fun _ _ _ h => h.elim) (fun k o h1 h2 => hF2.keep h1 (fun h => h)) (fun _ _ h => h)
        have hF4 : Frm (nfrm w.heap.size w.heap.size) w2 (w3.setCell ⟨w.heap.size, 0, none⟩ (.slice (some ⟨g2, 0, none⟩) (j + 1) cap2)) := hT (Frm.refl _ _) (fun k o h1 _ => h1) (fun _ _ h => h)
        have hsz4 := hF4.size
        have hne3 := ownRow_ne HO3.out HC3.out (by decide)
        have hxl := heap_lt hx2
        refine HM.out.next (heap_set HC3.out) (ownsRow_setCell_other HO3.out (a := ⟨w.heap.size, 0, none⟩) hne3 _) hsz1 (by omega) ?_ hFw
        have hfree := nfrm_free (B := w.heap.size) (a := (w3.setCell ⟨w.heap.size, 0, none⟩ (.slice (some ⟨g2, 0, none⟩) (j + 1) cap2)).heap.size) HC2.out
        have hup2 : SiteUp w2 w1.heap.size j (w3.setCell ⟨w.heap.size, 0, none⟩ (.slice (some ⟨g2, 0, none⟩) (j + 1) cap2)).heap.size :=
          ⟨d, s, r, hx2, EDiskN.only ((hdN _ (by have := hf2.size; simp at this; omega)).frm ((Frm.refl nothing w1).alloc _) ⟨fun _ _ h => h, fun _ _ h => h, fun _ _ h => h, fun _ _ h => h, fun _ _ _ _ h => h⟩) (heap_new w1 _) hf2, (hs2 0 (by simp)).later hsz4, hr2⟩
        refine hup2.frm hF4.there hfree fun cs hp => ?_
        obtain ⟨p1, p2⟩ := hp
        rcases p2 with p2 | p2
        · rw [p2] at hx2; have := HC2.out; unfold Clu at this; rw [this] at hx2; simp at hx2
        · simp [Obj.ty] at p2
    · have hj0 : j = 3 := by omega
      subst hj0
      clear hlt
      obtain ⟨ao, cp, rfl⟩ := ownRow_form HM.out.own
      have c0 := cell_at (i := 0) HM.out.clu
      go_wp2_with fail
      refine wp_loop_rounds 2 ?_
      rw [rounds_succ]
      go_wp2_with fail
      refine (cnew_ok 3 3 _ (by omega) (by omega) (by decide) (by omega) (by omega)).mono ?_
      rintro e w1 ⟨k, rfl, hkl, hk, hf1⟩
      have HK := hid (And.intro hkl (And.intro hk hf1))
      have HC1 : Hid (Clu w1 w.heap.size (.slice ao 3 cp) (.slice none 0 0) (.slice none 0 0) 0 (.slice none 0 0)) := hf1.keep HM.out.clu (fun h => h)
      have HO1 : Hid (w1.ownsRow 0 83 1 (.slice none 0 0) 0 []) := ⟨rfl, .inl ⟨rfl, rfl⟩⟩
      have hcl := heap_lt HC1.out
      clear hkl hk hf1 c0
      have c1 := cell_at (i := 1) HC1.out
      have f1 := free_at HC1.out 1
      have HNE : Hid ((Value.slice none 0 0).ownBlock ≠ some w.heap.size) := by simp [Hid, Value.ownBlock]
      have K1 : Hid (0 < maxLen) := by show 0 < maxLen; unfold maxLen; omega
      have K2 : Hid ((0 + 1) * 8 ≤ 140737488355328) := by show _ ≤ _; omega
      have K3 : Hid (∀ o o', 0 ≤ ((w1.alloc o).alloc o').heap.size) := fun o o' => Nat.zero_le _
      go_wp2_with (at_builtin; refine wpList_append_one rfl _ _ 69 rfl 0 83 j0 (.pointer none) 8 Tryz.underlying69 hj hy0 hy1 hy2 rfl (.slice none 0 0) 0 [] rfl (w1.heap.size + 1) rfl (ptr w1.heap.size) ((HO1.out.alloc _).alloc _) (cell_at (heap_new2 w1 _ _)) rfl K1.out K2.out (K3.out _ _) ?_; intro g2 cap2 w3 hown3 hgrow hgg; have hc3 := kept_grown hgrow (heap_old (heap_old HC1.out)) HNE.out; have e1 := cell_at (i := 1) hc3; have ef1 := free_at hc3 1; have HC3 := hid hc3; have HO3 := hid hown3; have HG3 := hid hgrow; clear hc3 hown3 hgrow hgg)
      rw [rounds_succ]
      go_wp2
      go_ret2
      obtain ⟨hkl, hk, hf1⟩ := HK.out
      have hF3 : Frm nothing w1 w3 := Frm.grown (((Frm.refl _ _).alloc _).alloc _) HG3.out fun k o hb _ => by simp [Value.ownBlock] at hb
      have hF4 : Frm (only w.heap.size) w1 (w3.setCell ⟨w.heap.size, 1, none⟩ (.slice (some ⟨g2, 0, none⟩) 1 cap2)) := Frm.setCell (hF3.mono fun _ _ _ h => h.elim) _ _ fun _ _ => rfl
      have hF5 : Frm (only w.heap.size) wr (w3.setCell ⟨w.heap.size, 1, none⟩ (.slice (some ⟨g2, 0, none⟩) 1 cap2)) := Frm.trans2 (hf1.mono fun _ _ _ h => h.elim) hF4 fun _ _ _ h => h
      have hcl1 := heap_lt HC1.out
      have hu3 : w3.heap[w1.heap.size]? = some (.cells #[ptr k, .int .i64 0] 85 (0, 0)) := HG3.out.block _ (by simp; omega) (by simp [Value.ownBlock]) |>.trans (heap_old (heap_new w1 _))
      refine ⟨w.heap.size, .slice ao 3 cp, .slice (some ⟨g2, 0, none⟩) 1 cap2, X, w1.heap.size, k, rfl, Nat.le_refl _, by have := HM.out.frm.size; have := hf1.size; omega, by have := HM.out.frm.size; omega, heap_set HC3.out, ?_, HM.out.len, HM.out.nodup, fun q hq => ?_, ?_, ?_, ?_, ?_, HM.out.ge⟩
      · exact own_base <| ownsRow_setCell_other (ownRow_frm (ownRow_frm HM.out.own hf1 (fun _ _ h => h)) hF3 (fun _ _ h => h)) (a := ⟨w.heap.size, 1, none⟩) (ownRow_ne HM.out.own HM.out.clu (by decide)) _
      · refine SiteUp.frm (P := fun q o => wr.heap[q]? = some o ∧ only w.heap.size q o) ?_ hF5.there ⟨?_, ?_, ?_, ?_, ?_⟩ fun cs hp => ?_
        · obtain ⟨d, s, r, g1, g2, g3, g4⟩ := HM.out.up q hq
          exact ⟨d, s, r, g1, g2.later hF5.size, g3.later hF5.size, g4⟩
        all_goals first | (intro k' cs' hp; have h1 : k' = w.heap.size := hp.2; have h2 := hp.1; subst h1; have h3 := HM.out.clu; unfold Clu at h3; rw [h3] at h2; simp at h2) | (intro k' es n _ hp; have h1 : k' = w.heap.size := hp.2; have h2 := hp.1; subst h1; have h3 := HM.out.clu; unfold Clu at h3; rw [h3] at h2; simp at h2) | (have h1 : X[q] = w.heap.size := hp.2; have h2 := hp.1; rw [h1] at h2; have h3 := HM.out.clu; unfold Clu at h3; rw [h3] at h2; simp at h2)
      · exact ownsRow_setCell_other HO3.out (a := ⟨w.heap.size, 1, none⟩) (ownRow_ne HO3.out HC3.out (by decide)) _
      · rw [heap_set_ne (by omega)]; exact hu3
      · have hkc : k ≠ w.heap.size := by have := heap_lt HM.out.clu; omega
        unfold Cli at *
        rw [heap_set_ne hkc]
        exact hF3.keep hk (fun h => h)
      · exact HM.out.frm.trans2 hF5 fun q o hq hp => by have h1 : q = w.heap.size := hp; have := heap_lt hq; omega
theorem new_ok (w : World) :
    Calls Tryz.prog 6 #[.int .i64 1, .int .i64 1] w fun e w' => ∃ (c : Nat) (sv uv : Value) (X : List Nat) (u k : Nat), e = .returned (.tuple #[ptr c, .int .i64 0]) ∧ w.heap.size ≤ c ∧ w.heap.size ≤ u ∧ w.heap.size ≤ k ∧ Clu w' c sv uv (.slice none 0 0) 0 (.slice none 0 0) ∧ w'.ownsRow 0 75 1 sv 3 (X.map ptr) ∧ X.length = 3 ∧ X.Nodup ∧
      (∀ (q : Nat) (h : q < X.length), SiteUp w' X[q] q w'.heap.size) ∧ w'.ownsRow 0 83 1 uv 1 [ptr u] ∧ w'.heap[u]? = some (.cells #[ptr k, .int .i64 0] 85 (0, 0)) ∧ Cli w' k (cli 3 3 0 0 (.map none) 0 0 0 0 ⟨#[]⟩ ⟨#[]⟩ 41) ∧ Frm nothing w w' :=
  (new_ok2 w).mono fun e w' ⟨c, sv, uv, X, u, k, h0, h1, h2, h3, h4, h5, h6, h7, h8, h9, h10, h11, h12, _⟩ => ⟨c, sv, uv, X, u, k, h0, h1, h2, h3, h4, h5, h6, h7, h8, h9, h10, h11, h12⟩
end Go.Proofs.YtmakanmjdfpcmaaGreat
