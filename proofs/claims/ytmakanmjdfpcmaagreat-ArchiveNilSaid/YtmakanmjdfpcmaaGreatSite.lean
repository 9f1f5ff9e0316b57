/- cluster's sites on empty disks: open, fell. -/
import Derived.Test.YtmakanmjdfpcmaaGreatReplicaE
namespace Go.Proofs.YtmakanmjdfpcmaaGreat
open Go.RowKit

/-- an empty disk, whose map is not block a -/
def EDiskN (w : World) (d a : Nat) : Prop := ∃ (mb : Nat) (lim st : Int), w.heap[d]? = some (.cells #[.map (some mb), .int .i64 lim, .int .i64 0, .bool false, .int .i64 st] 140 (0, 0)) ∧ w.heap[mb]? = some (.map #[] 0) ∧ mb ≠ a
def EStoreN (w : World) (s d a : Nat) : Prop := ∃ l b1 b2 : Nat, w.heap[s]? = some (.cells #[.pointer (some ⟨l, 0, none⟩), .map (some b1), .map (some b2), .bool false] 181 (0, 0)) ∧
  w.heap[b1]? = some (.map #[] 0) ∧ w.heap[b2]? = some (.map #[] 0) ∧ ELog w l d ∧ b1 ≠ a ∧ b2 ≠ a
theorem EDiskN.toE {w : World} {d a : Nat} (h : EDiskN w d a) : EDisk w d := by
  obtain ⟨mb, lim, st, h1, h2, _⟩ := h
  exact ⟨mb, lim, st, h1, h2⟩
theorem EStoreN.toE {w : World} {s d a : Nat} (h : EStoreN w s d a) : EStore w s d := by
  obtain ⟨l, b1, b2, h1, h2, h3, h4, _⟩ := h
  exact ⟨l, b1, b2, h1, h2, h3, h4⟩
/-- what may change beside the sites: no block of theirs -/
structure SiteFree (a : Nat) (P : Nat → Obj → Prop) : Prop where
  disk : ∀ k c, ¬ P k (.cells c 140 (0, 0))
  store : ∀ k c, ¬ P k (.cells c 181 (0, 0))
  log : ∀ k c, ¬ P k (.cells c 249 (0, 0))
  rep : ∀ k c, ¬ P k (.cells c 190 (0, 0))
  map : ∀ k es n, k ≠ a → ¬ P k (.map es n)
theorem EDiskN.frm {w w' : World} {d a : Nat} {P : Nat → Obj → Prop} (h : EDiskN w d a) (hf : Frm P w w') (hP : SiteFree a P) : EDiskN w' d a := by
  obtain ⟨mb, lim, st, h1, h2, h3⟩ := h
  exact ⟨mb, lim, st, hf.block _ _ h1 (hP.disk _ _), hf.block _ _ h2 (hP.map _ _ _ h3), h3⟩
theorem EStoreN.frm {w w' : World} {s d a : Nat} {P : Nat → Obj → Prop} (h : EStoreN w s d a) (hf : Frm P w w') (hP : SiteFree a P) : EStoreN w' s d a := by
  obtain ⟨l, b1, b2, h1, h2, h3, h4, h5, h6⟩ := h
  exact ⟨l, b1, b2, hf.block _ _ h1 (hP.store _ _), hf.block _ _ h2 (hP.map _ _ _ h5), hf.block _ _ h3 (hP.map _ _ _ h6), hf.block _ _ h4 (hP.log _ _), h5, h6⟩
theorem EDiskN.later {w : World} {d a b : Nat} (h : EDiskN w d a) (hb : w.heap.size ≤ b) : EDiskN w d b := by
  obtain ⟨mb, lim, st, h1, h2, h3⟩ := h
  exact ⟨mb, lim, st, h1, h2, by have := heap_lt h2; omega⟩
theorem EStoreN.later {w : World} {s d a b : Nat} (h : EStoreN w s d a) (hb : w.heap.size ≤ b) : EStoreN w s d b := by
  obtain ⟨l, b1, b2, h1, h2, h3, h4, h5, h6⟩ := h
  exact ⟨l, b1, b2, h1, h2, h3, h4, by have := heap_lt h2; omega, by have := heap_lt h3; omega⟩

theorem EDisk.only {w w' : World} {d x : Nat} {cs : Array Value} (h : EDisk w d) (hx : w.heap[x]? = some (.cells cs 79 (0, 0))) (hf : Frm (only x) w w') : EDisk w' d := by
  obtain ⟨mb, lim, st, h1, h2⟩ := h
  refine ⟨mb, lim, st, hf.block _ _ h1 fun hp => ?_, hf.block _ _ h2 fun hp => ?_⟩
  · have hp' : d = x := hp
    subst hp'; rw [hx] at h1; simp at h1
  · have hp' : mb = x := hp
    subst hp'; rw [hx] at h2; simp at h2
theorem EStoreN.only {w w' : World} {s d a x : Nat} {cs : Array Value} (h : EStoreN w s d a) (hx : w.heap[x]? = some (.cells cs 79 (0, 0))) (hf : Frm (only x) w w') : EStoreN w' s d a := by
  obtain ⟨l, b1, b2, h1, h2, h3, h4, h5, h6⟩ := h
  refine ⟨l, b1, b2, hf.block _ _ h1 fun hp => ?_, hf.block _ _ h2 fun hp => ?_, hf.block _ _ h3 fun hp => ?_, hf.block _ _ h4 fun hp => ?_, h5, h6⟩
  · have hp' : s = x := hp
    subst hp'; rw [hx] at h1; simp at h1
  · have hp' : b1 = x := hp
    subst hp'; rw [hx] at h2; simp at h2
  · have hp' : b2 = x := hp
    subst hp'; rw [hx] at h3; simp at h3
  · have hp' : l = x := hp
    subst hp'; unfold ELog at h4; rw [hx] at h4; simp at h4
theorem dnewN (n : Int) (w : World) (h1 : 1 ≤ n) (h2 : n ≤ 16777216) :
    Calls Tryz.prog 38 #[.int .i64 n] w fun e w' => ∃ d, e = .returned (.tuple #[.pointer (some ⟨d, 0, none⟩), .int .i64 0]) ∧ w.heap.size ≤ d ∧ (∀ a, w'.heap.size ≤ a → EDiskN w' d a) ∧ Frm nothing w w' := by
  refine (dnew_any n w h1 h2).mono ?_
  rintro e w' ⟨d, rfl, hd, ⟨mb, lim, st, h3, h4⟩, hf⟩
  exact ⟨d, rfl, hd, fun a ha => ⟨mb, lim, st, h3, h4, by have := heap_lt h4; omega⟩, hf⟩

theorem sopenN (d : Nat) (w : World) (hd : EDisk w d) :
    Calls Tryz.prog 80 #[.pointer (some ⟨d, 0, none⟩)] w fun e w' => ∃ s, e = .returned (.tuple #[.pointer (some ⟨s, 0, none⟩), .int .i64 0]) ∧ w.heap.size ≤ s ∧ (∀ a, a < w.heap.size → EStoreN w' s d a) ∧ Frm nothing w w' := by
  have HD := hid hd
  have hmm := @run_makeMap Tryz.prog
  clear hd
  go_enter Tryz.func80, Tryz.ntmps80
  go_wp2_with (first | (go_at_call 123; refine (slopenE d _ HD.out).mono ?_; rintro e w1 ⟨l, rfl, hle, hl, hf⟩; have HL := hid (And.intro hle (And.intro hl hf)); clear hle hl hf))
  refine wp_loop_rounds 1 ?_
  rw [rounds_succ]
  go_wp2
  go_ret2
  obtain ⟨hle, hl, hf⟩ := HL.out
  have hs := hf.size
  refine ⟨_, rfl, ?_, fun a ha => ⟨l, _, _, heap_new3 w1 _ _ _, heap_old (heap_old (heap_new w1 _)), heap_old (heap_new2 w1 _ _), ?_, by omega, by omega⟩, ((hf.alloc _).alloc _).alloc _⟩
  · first | omega | (simp; omega)
  · exact heap_old (heap_old (heap_old hl))

/-- a site whose replica is up -/
def SiteUp (w : World) (x i a : Nat) : Prop := ∃ d s r : Nat, w.heap[x]? = some (.cells #[.pointer (some ⟨d, 0, none⟩), .pointer (some ⟨s, 0, none⟩), .pointer (some ⟨r, 0, none⟩)] 79 (0, 0)) ∧
  EDiskN w d a ∧ EStoreN w s d a ∧ w.heap[r]? = some (.cells #[.int .i64 i, .pointer (some ⟨s, 0, none⟩)] 190 (0, 0))
/-- .. that is down -/
def SiteDown (w : World) (x a : Nat) : Prop := ∃ (d : Nat) (sp : Option Addr), w.heap[x]? = some (.cells #[.pointer (some ⟨d, 0, none⟩), .pointer sp, .pointer none] 79 (0, 0)) ∧ EDiskN w d a
def SiteAt (w : World) (x i a : Nat) (up : Bool) : Prop := if up = true then SiteUp w x i a else SiteDown w x a
theorem SiteUp.frm {w w' : World} {x i a : Nat} {P : Nat → Obj → Prop} (h : SiteUp w x i a) (hf : Frm P w w') (hP : SiteFree a P) (hx : ∀ c, ¬ P x (.cells c 79 (0, 0))) : SiteUp w' x i a := by
  obtain ⟨d, s, r, h1, h2, h3, h4⟩ := h
  exact ⟨d, s, r, hf.block _ _ h1 (hx _), h2.frm hf hP, h3.frm hf hP, hf.block _ _ h4 (hP.rep _ _)⟩
theorem SiteDown.frm {w w' : World} {x a : Nat} {P : Nat → Obj → Prop} (h : SiteDown w x a) (hf : Frm P w w') (hP : SiteFree a P) (hx : ∀ c, ¬ P x (.cells c 79 (0, 0))) : SiteDown w' x a := by
  obtain ⟨d, sp, h1, h2⟩ := h
  exact ⟨d, sp, hf.block _ _ h1 (hx _), h2.frm hf hP⟩
theorem SiteAt.frm {w w' : World} {x i a : Nat} {up : Bool} {P : Nat → Obj → Prop} (h : SiteAt w x i a up) (hf : Frm P w w') (hP : SiteFree a P) (hx : ∀ c, ¬ P x (.cells c 79 (0, 0))) : SiteAt w' x i a up := by
  unfold SiteAt at h ⊢
  split
  · rw [if_pos ‹_›] at h; exact h.frm hf hP hx
  · rw [if_neg ‹_›] at h; exact h.frm hf hP hx
theorem SiteAt.later {w : World} {x i a b : Nat} {up : Bool} (h : SiteAt w x i a up) (hb : w.heap.size ≤ b) : SiteAt w x i b up := by
  unfold SiteAt at h ⊢
  split
  · rw [if_pos ‹_›] at h
    obtain ⟨d, s, r, h1, h2, h3, h4⟩ := h
    exact ⟨d, s, r, h1, h2.later hb, h3.later hb, h4⟩
  · rw [if_neg ‹_›] at h
    obtain ⟨d, sp, h1, h2⟩ := h
    exact ⟨d, sp, h1, h2.later hb⟩

theorem fell_ok (x d : Nat) (sp rp : Value) (w : World) (hx : w.heap[x]? = some (.cells #[.pointer (some ⟨d, 0, none⟩), sp, rp] 79 (0, 0))) (hd : EDisk w d) :
    Calls Tryz.prog 58 #[.pointer (some ⟨x, 0, none⟩)] w fun e w' => e = .returned (.tuple #[]) ∧ w = w' := by
  have c0 := cell_at (i := 0) hx
  have HD := hid (ddead_any d w hd)
  clear hx hd
  go_enter Tryz.func58, Tryz.ntmps58
  go_wp2_with (go_at_call 98; refine HD.out.mono ?_; rintro e w' ⟨rfl, rfl⟩)
  go_end0
  exact ⟨rfl, rfl⟩

set_option maxHeartbeats 1000000 in
theorem open_ok (x d i : Nat) (sp rp : Option Addr) (w : World) (hx : w.heap[x]? = some (.cells #[.pointer (some ⟨d, 0, none⟩), .pointer sp, .pointer rp] 79 (0, 0))) (hd : EDisk w d) (hi : i < 1024) :
    Calls Tryz.prog 39 #[.pointer (some ⟨x, 0, none⟩), .int .i64 i] w fun e w' => e = .returned (.int .i64 0) ∧ (∃ s r, w'.heap[x]? = some (.cells #[.pointer (some ⟨d, 0, none⟩), .pointer (some ⟨s, 0, none⟩), .pointer (some ⟨r, 0, none⟩)] 79 (0, 0)) ∧
      (∀ a, a < w.heap.size → EStoreN w' s d a) ∧ w'.heap[r]? = some (.cells #[.int .i64 i, .pointer (some ⟨s, 0, none⟩)] 190 (0, 0))) ∧ Frm (only x) w w' := by
  have HX := hid hx
  have hxl := heap_lt hx
  have HS : Hid (∀ w', Frm (only x) w w' → Calls Tryz.prog 80 #[.pointer (some ⟨d, 0, none⟩)] w' fun e w'' => ∃ s, e = .returned (.tuple #[.pointer (some ⟨s, 0, none⟩), .int .i64 0]) ∧ w'.heap.size ≤ s ∧ (∀ a, a < w'.heap.size → EStoreN w'' s d a) ∧ Frm nothing w' w'') :=
    fun w' hf => sopenN d w' (hd.only hx hf)
  have c0 := cell_at (i := 0) hx
  have c1 := cell_at (i := 1) hx
  have c2 := cell_at (i := 2) hx
  have f1 := free_at hx 1
  have f2 := free_at hx 2
  clear hx hd
  go_enter Tryz.func39, Tryz.ntmps39
  go_wp2_with fail
  refine (HS.out _ ((Frm.refl _ _).setCell _ _ fun _ _ => rfl)).mono ?_
  rintro e w1 ⟨s, rfl, _, hs, hf1⟩
  have hx1 := hf1.keep (heap_set (i := 2) (v := .pointer none) HX.out) (fun h => h)
  have HF1 := hid (((Frm.refl (only x) w).setCell ⟨x, 2, none⟩ (.pointer none) fun _ _ => rfl).trans hf1 fun _ _ _ h => h.elim)
  have HX1 := hid hx1
  have HS1 := hid hs
  have d0 := cell_at (i := 0) hx1
  have d1 := cell_at (i := 1) hx1
  have d2 := cell_at (i := 2) hx1
  have g1 := free_at hx1 1
  have g2 := free_at hx1 2
  have hxl1 := heap_lt hx1
  clear hx1 hs hf1 c0 c1 c2 f1 f2
  go_wp2_with (go_at_call 81; refine (rnew_ok _ _ _ (by omega) (by omega)).mono ?_; rintro e w3 ⟨r, rfl, hrl, hr, hf3⟩; have hx3 := hf3.keep (heap_set (i := 1) (v := .pointer (some ⟨s, 0, none⟩)) HX1.out) (fun h => h); have e0 := cell_at (i := 0) hx3; have e1 := cell_at (i := 1) hx3; have e2 := cell_at (i := 2) hx3; have k2 := free_at hx3 2; have HX3 := hid hx3; have HR := hid hr; have HF3 := hid hf3; have HRL := hid hrl; clear hx3 hr hf3 hrl)
  go_ret
  have hne : r ≠ x := by have h1 := HRL.out; have h2 := heap_lt HX1.out; simp at h1; omega
  have hF : Frm (only x) w1 (w3.setCell ⟨x, 2, none⟩ (.pointer (some ⟨r, 0, none⟩))) := (((Frm.refl (only x) w1).setCell _ _ fun _ _ => rfl).trans HF3.out fun _ _ _ h => h.elim).setCell _ _ fun _ _ => rfl
  refine ⟨rfl, ⟨s, r, heap_set HX3.out, fun a ha => ?_, ?_⟩, HF1.out.trans hF fun _ _ _ h => h⟩
  · exact (HS1.out a (by simpa using ha)).only HX1.out hF
  · rw [heap_set_ne hne]; exact HR.out
end Go.Proofs.YtmakanmjdfpcmaaGreat
