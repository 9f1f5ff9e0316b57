/- cluster: Down, Start, Resend, Result, Get while an operation goes on. -/
import Derived.Test.YtmakanmjdfpcmaaGreatArc1
namespace Go.Proofs.YtmakanmjdfpcmaaGreat
open Go.RowKit

theorem setCell_same {w : World} {b i : Nat} {cs : Array Value} {T : TypeId} {f : Nat × Nat} {v : Value} (h : w.heap[b]? = some (.cells cs T f)) (hv : cs[i]? = some v) : (w.setCell ⟨b, i, none⟩ v).heap[b]? = some (.cells cs T f) := by
  have h3 : cs.setIfInBounds i v = cs := by
    apply Array.ext
    · exact Array.size_setIfInBounds
    · intro j h1 h2
      rw [Array.getElem_setIfInBounds]
      split
      · rename_i e
        subst e
        rw [Array.getElem?_eq_getElem h2] at hv
        exact (Option.some.inj hv).symm
      · rfl
  rw [heap_set h, h3]
theorem Frm.same_cell {P : Nat → Obj → Prop} {a w : World} {b i : Nat} {cs : Array Value} {T : TypeId} {f : Nat × Nat} {v : Value} (hf : Frm P a w) (h : w.heap[b]? = some (.cells cs T f)) (hv : cs[i]? = some v) : Frm P a (w.setCell ⟨b, i, none⟩ v) :=
  ⟨hf.os, hf.tape, hf.output, by have := hf.size; simpa [World.setCell] using this, fun k o hk hp => by
    have h1 := hf.block k o hk hp
    by_cases e : k = b
    · subst e; rw [h] at h1; cases h1; exact setCell_same h hv
    · rw [heap_set_ne e]; exact h1⟩

set_option maxHeartbeats 1000000 in
theorem crashE (d : Nat) (w : World) (hd : EDisk w d) :
    Calls Tryz.prog 68 #[.pointer (some ⟨d, 0, none⟩), .slice none 0 0] w fun e w' => e = .returned (.tuple #[]) ∧ Frm nothing w w' := by
  have HD := hid hd
  have HF := hid (filesE d w hd)
  clear hd
  go_enter Tryz.func68, Tryz.ntmps68
  go_wp2_with fail
  refine HF.out.mono ?_
  rintro e w1 ⟨rfl, hf1⟩
  have HF1 := hid hf1
  obtain ⟨mb, lim, st, hb, hm⟩ := HD.out.still hf1
  have hb1 := hb
  have HB := hid hb
  obtain ⟨c0, c1, c2, c3, c4, f0, f1, f2, f3, f4⟩ := cells5 hb1
  clear hf1 hb hm hb1
  go_wp2_with fail
  refine wp_loop_rounds 1 ?_
  rw [rounds_succ]
  go_wp2
  go_end0
  have hB := HB.out
  refine ⟨rfl, ?_⟩
  first
    | exact (HF1.out.same_cell hB rfl).same_cell (setCell_same hB rfl) rfl
    | exact ((HF1.out.drew.same_cell hB rfl).same_cell (setCell_same hB rfl) rfl)

theorem CS.ticked {w w' : World} {B c : Nat} {sv uv nv : Value} {clock clock' : Nat} {ev : Value} {X : List Nat} {up : Nat → Bool} {a u k e0 : Nat} {net : List Msg} {m : Nat} {xs : List Value} {cs : Array Value} {H : List Int}
    (h : CS w B c sv uv nv clock ev X up a u k e0 net m xs cs (some H)) (hc : Clu w' c sv uv nv clock' ev) (hf : Frm (only c) w w') : CS w' B c sv uv nv clock' ev X up a u k e0 net m xs cs (some H) :=
  h.sent (hf.mono fun _ _ _ h => .inl h) hc (ownRow_frm h.net hf.there fun q b => one_not (Clu.block h.clu) _ _ _ (by decide))
theorem one_notm {w : World} {b : Nat} {cs : Array Value} {T : TypeId} (h : w.heap[b]? = some (.cells cs T (0, 0))) : ∀ q es n, ¬ (w.heap[q]? = some (.map es n) ∧ only b q (.map es n)) := by
  intro q es n hp
  obtain ⟨p1, p2⟩ := hp
  have p3 : q = b := p2
  subst p3
  rw [h] at p1; cases p1
theorem CS.site {w w' : World} {B c : Nat} {sv uv nv : Value} {clock : Nat} {ev : Value} {X : List Nat} {up : Nat → Bool} {a u k e0 : Nat} {net : List Msg} {m : Nat} {xs : List Value} {cs : Array Value} {H : List Int}
    (h : CS w B c sv uv nv clock ev X up a u k e0 net m xs cs (some H)) (i x : Nat) (hxi : X[i]? = some x) (b : Bool) {cs0 : Array Value} (hx : w.heap[x]? = some (.cells cs0 79 (0, 0))) (hf : Frm (only x) w w') (hat : SiteAt w' x i a b) :
    CS w' B c sv uv nv clock ev X (fun q => if q = i then b else up q) a u k e0 net m xs cs (some H) := by
  have hft := hf.there
  have hno := one_not hx
  refine ⟨h.base, hft.keep (Clu.block h.clu) (hno _ _ _ (by decide)), ownRow_frm h.sites hft fun q b => hno _ _ _ (by decide), h.len, h.nodup, fun q hq => ?_, ownRow_frm h.users hft fun q b => hno _ _ _ (by decide), hft.keep h.user (hno _ _ _ (by decide)), ownRow_frm h.evs hft fun q b => hno _ _ _ (by decide), ownRow_frm h.net hft fun q b => hno _ _ _ (by decide), ?_, ?_⟩
  · by_cases e : q = i
    · subst e
      have e2 : X[q] = x := by rw [List.getElem?_eq_getElem hq] at hxi; simpa using hxi
      simp only [if_true]
      rw [e2]; exact hat
    · simp only [if_neg e]
      refine SiteAt.frm (h.ats q hq) hft ⟨fun q b => hno _ _ _ (by decide), fun q b => hno _ _ _ (by decide), fun q b => hno _ _ _ (by decide), fun q b => hno _ _ _ (by decide), fun q es n _ => one_notm hx q es n⟩ fun b hp => ?_
      have p3 : X[q] = x := hp.2
      obtain ⟨hil, hie⟩ := List.getElem?_eq_some_iff.1 hxi
      have hpw := List.pairwise_iff_getElem.1 h.nodup
      rcases Nat.lt_trichotomy q i with hlt | heq | hgt
      · exact hpw q i hq hil hlt (p3.trans hie.symm)
      · exact e heq
      · exact hpw i q hil hq hgt (hie.trans p3.symm)
  · have hk := h.cli
    unfold Cli at hk ⊢
    exact hft.keep hk (hno _ _ _ (by decide))
  · rintro L ⟨rfl⟩
    exact (h.heard _ rfl).frm hft fun es n => one_notm hx a es n

theorem cgetb (k : Nat) (cs : Array Value) (n : ByteArray) (w : World) (hk : Cli w k cs) (hp : cs[3]? = some (.int .i64 1)) :
    Calls Tryz.prog 51 #[.pointer (some ⟨k, 0, none⟩), .string n] w fun e w' => e = .returned (.tuple #[.slice none 0 0, .int .i64 61]) ∧ w = w' := by
  have HF := hid (free_busy k cs n w hk hp)
  clear hk hp
  go_enter Tryz.func51, Tryz.ntmps51
  go_wp2_with fail
  refine HF.out.mono ?_
  rintro e w' ⟨rfl, rfl⟩
  go_wp2
  go_ret2
  exact ⟨rfl, rfl⟩

/-- what Down and Start change -/
abbrev dfrm (c x : Nat) : Nat → Obj → Prop := fun q _ => q = c ∨ q = x
set_option maxHeartbeats 4000000 in
set_option maxRecDepth 100000 in
theorem down_ok {w : World} {B c : Nat} {sv uv nv : Value} {clock : Nat} {ev : Value} {X : List Nat} {up : Nat → Bool} {a u k e0 : Nat} {net : List Msg} {m : Nat} {xs : List Value} {cs : Array Value} {H : List Int}
    (h : CS w B c sv uv nv clock ev X up a u k e0 net m xs cs (some H)) (i x : Nat) (hi : i < 3) (hxi : X[i]? = some x) (hup : up i = true) (hcl : clock ≤ 50000) :
    Calls Tryz.prog 24 #[.pointer (some ⟨c, 0, none⟩), .int .i64 i] w fun e w' => e = .returned (.int .i64 0) ∧ CS w' B c sv uv nv (clock + 1) ev X (fun q => if q = i then false else up q) a u k e0 net m xs cs (some H) ∧ Frm (dfrm c x) w w' := by
  have HH := hid h
  obtain ⟨gs, scap, rfl⟩ := own_some h.sites (by omega)
  have HP := hid (places_ok c 3 scap (some ⟨gs, 0, none⟩) uv nv ev clock w h.clu (by omega))
  have HT : Hid (Calls Tryz.prog 47 #[.pointer (some ⟨c, 0, none⟩), .int .i64 3, .slice (some ⟨w.heap.size, 0, none⟩) 1 1] (w.alloc (.cells #[.int .i64 i] 3)) fun e w' => e = .returned (.int .i64 0) ∧ Clu w' c (.slice (some ⟨gs, 0, none⟩) 3 scap) uv nv (clock + 1) ev ∧ Frm (only c) (w.alloc (.cells #[.int .i64 i] 3)) w') :=
    tick_ok c w.heap.size _ _ _ ev clock 3 i _ (heap_old h.clu) (heap_new w _) (by omega) (by omega) (by omega)
  have HX := hid hxi
  have HU := hid hup
  clear h hxi hup
  go_enter Tryz.func24, Tryz.ntmps24
  go_wp2_with fail
  refine HP.out.mono ?_
  rintro e w' ⟨rfl, rfl⟩
  go_wp2_with fail
  refine HT.out.mono ?_
  rintro e w1 ⟨rfl, hc1, hf1⟩
  have hF1 : Frm (only c) w w1 := ((Frm.refl _ _).alloc _).trans hf1 fun _ _ _ h => h
  have HS1 := hid (HH.out.ticked hc1 hF1)
  have HF1 := hid hF1
  clear hc1 hf1 hF1
  obtain ⟨hil, hie⟩ := List.getElem?_eq_some_iff.1 HX.out
  have hat := HS1.out.ats i hil
  unfold SiteAt at hat
  rw [if_pos HU.out] at hat
  obtain ⟨d, s, r, hx, hd, hs, hr⟩ := hat
  rw [hie] at hx
  have c0 := cell_at (i := 0) HS1.out.clu
  have hrow := row_cell HS1.out.sites i (.pointer (some ⟨x, 0, none⟩)) (by simp [HX.out, ptr])
  have f2 := free_at hx 2
  have x2 := cell_at (i := 2) hx
  have hcl := heap_lt HS1.out.clu
  have hxl := heap_lt hx
  have hgl := own_lt HS1.out.sites
  have HD := hid (And.intro hx hd)
  have HIE := hid hie
  clear hx hd hs hr hie
  go_wp2
  go_ret
  obtain ⟨hx, hd⟩ := HD.out
  have hF2 : Frm (only x) w1 (w1.setCell ⟨x, 2, none⟩ (.pointer none)) := (Frm.refl _ _).setCell _ _ fun _ _ => rfl
  refine ⟨rfl, HS1.out.site i x HX.out false hx hF2 ?_, ?_⟩
  · unfold SiteAt
    rw [if_neg (by simp)]
    exact ⟨d, _, heap_set hx, hd.only hx hF2⟩
  · exact (HF1.out.mono fun _ _ _ h => .inl h).trans hF2 fun _ _ _ h => .inr h

set_option maxHeartbeats 4000000 in
set_option maxRecDepth 100000 in
theorem start_ok {w : World} {B c : Nat} {sv uv nv : Value} {clock : Nat} {ev : Value} {X : List Nat} {up : Nat → Bool} {a u k e0 : Nat} {net : List Msg} {m : Nat} {xs : List Value} {cs : Array Value} {H : List Int}
    (h : CS w B c sv uv nv clock ev X up a u k e0 net m xs cs (some H)) (i x : Nat) (hi : i < 3) (hxi : X[i]? = some x) (hup : up i = false) (hcl : clock ≤ 50000) :
    Calls Tryz.prog 26 #[.pointer (some ⟨c, 0, none⟩), .int .i64 i, .slice none 0 0] w fun e w' => e = .returned (.int .i64 0) ∧ CS w' B c sv uv nv (clock + 1) ev X (fun q => if q = i then true else up q) a u k e0 net m xs cs (some H) ∧ Frm (dfrm c x) w w' := by
  have HH := hid h
  obtain ⟨gs, scap, rfl⟩ := own_some h.sites (by omega)
  have HP := hid (places_ok c 3 scap (some ⟨gs, 0, none⟩) uv nv ev clock w h.clu (by omega))
  have HT : Hid (Calls Tryz.prog 47 #[.pointer (some ⟨c, 0, none⟩), .int .i64 3, .slice (some ⟨w.heap.size, 0, none⟩) 1 1] (w.alloc (.cells #[.int .i64 i] 3)) fun e w' => e = .returned (.int .i64 0) ∧ Clu w' c (.slice (some ⟨gs, 0, none⟩) 3 scap) uv nv (clock + 1) ev ∧ Frm (only c) (w.alloc (.cells #[.int .i64 i] 3)) w') :=
    tick_ok c w.heap.size _ _ _ ev clock 3 i _ (heap_old h.clu) (heap_new w _) (by omega) (by omega) (by omega)
  have HX := hid hxi
  have HU := hid hup
  clear h hxi hup
  go_enter Tryz.func26, Tryz.ntmps26
  go_wp2_with fail
  refine HP.out.mono ?_
  rintro e w' ⟨rfl, rfl⟩
  go_wp2_with fail
  refine HT.out.mono ?_
  rintro e w1 ⟨rfl, hc1, hf1⟩
  have hF1 : Frm (only c) w w1 := ((Frm.refl _ _).alloc _).trans hf1 fun _ _ _ h => h
  have HS1 := hid (HH.out.ticked hc1 hF1)
  have HF1 := hid hF1
  clear hc1 hf1 hF1
  obtain ⟨hil, hie⟩ := List.getElem?_eq_some_iff.1 HX.out
  have hat := HS1.out.ats i hil
  unfold SiteAt at hat
  rw [if_neg (by simp [HU.out])] at hat
  obtain ⟨d, sp, hx, hd⟩ := hat
  rw [hie] at hx
  have c0 := cell_at (i := 0) HS1.out.clu
  have hrow := row_cell HS1.out.sites i (.pointer (some ⟨x, 0, none⟩)) (by simp [HX.out, ptr])
  have x0 := cell_at (i := 0) hx
  have hcl := heap_lt HS1.out.clu
  have hxl := heap_lt hx
  have hgl := own_lt HS1.out.sites
  have HD := hid (And.intro hx hd)
  clear hx hd hie
  go_wp2_with fail
  refine (crashE d _ HD.out.2.toE).mono ?_
  rintro e w2 ⟨rfl, hf2⟩
  have HS2 := hid (HS1.out.same hf2)
  have HF2 := hid hf2
  have hx2 := hf2.keep HD.out.1 fun h => h
  have hd2 : EDiskN w2 d a := HD.out.2.frm hf2 ⟨fun _ _ h => h, fun _ _ h => h, fun _ _ h => h, fun _ _ h => h, fun _ _ _ _ h => h⟩
  have HD2 := hid (And.intro hx2 hd2)
  clear c0 hrow x0 hcl hxl hgl
  have c0 := cell_at (i := 0) HS2.out.clu
  have hrow := row_cell HS2.out.sites i (.pointer (some ⟨x, 0, none⟩)) (by simp [HX.out, ptr])
  have hcl := heap_lt HS2.out.clu
  have hxl := heap_lt hx2
  have hgl := own_lt HS2.out.sites
  clear hf2 hx2 hd2
  go_wp2_with fail
  refine (open_ok x d i sp none w2 HD2.out.1 HD2.out.2.toE (by omega)).mono ?_
  rintro e w3 ⟨rfl, ⟨s, r, hx3, hs3, hr3⟩, hf3⟩
  have HS3 : Hid (CS w3 B c (.slice (some ⟨gs, 0, none⟩) 3 scap) uv nv (clock + 1) ev X (fun q => if q = i then true else up q) a u k e0 net m xs cs (some H)) := by
    refine HS2.out.site i x HX.out true HD2.out.1 hf3 ?_
    unfold SiteAt
    rw [if_pos rfl]
    exact ⟨d, s, r, hx3, EDiskN.only HD2.out.2 HD2.out.1 hf3, hs3 a (HS2.out.heard _ rfl).lt, hr3⟩
  have HF3 := hid hf3
  clear hx3 hs3 hr3 hf3 c0 hrow hcl hxl hgl
  go_wp2
  go_ret
  refine ⟨rfl, HS3.out, ?_⟩
  exact ((HF1.out.mono fun _ _ _ h => .inl h).trans HF2.out fun _ _ _ h => h.elim).trans HF3.out fun _ _ _ h => .inr h

set_option maxHeartbeats 4000000 in
set_option maxRecDepth 100000 in
theorem clusget_busy {w : World} {B c : Nat} {sv uv nv : Value} {clock : Nat} {ev : Value} {X : List Nat} {up : Nat → Bool} {a u k e0 : Nat} {net : List Msg} {m : Nat} {xs : List Value} {cs : Array Value} {H : List Int} (n : ByteArray)
    (h : CS w B c sv uv nv clock ev X up a u k e0 net m xs cs (some H)) (hp : cs[3]? = some (.int .i64 1)) (hcl : clock ≤ 50000) :
    Calls Tryz.prog 13 #[.pointer (some ⟨c, 0, none⟩), .int .i64 0, .string n] w fun e w' => e = .returned (.int .i64 61) ∧ CS w' B c sv uv nv (clock + 1) ev X up a u k e0 net m xs cs (some H) ∧ Frm (only c) w w' := by
  have HH := hid h
  obtain ⟨gu, ucap, rfl⟩ := own_some h.users (by omega)
  have HP := hid (people_ok c 1 ucap (some ⟨gu, 0, none⟩) sv nv ev clock w h.clu (by omega))
  have HT : Hid (Calls Tryz.prog 47 #[.pointer (some ⟨c, 0, none⟩), .int .i64 1, .slice (some ⟨w.heap.size, 0, none⟩) 1 1] (w.alloc (.cells #[.int .i64 0] 3)) fun e w' => e = .returned (.int .i64 0) ∧ Clu w' c sv (.slice (some ⟨gu, 0, none⟩) 1 ucap) nv (clock + 1) ev ∧ Frm (only c) (w.alloc (.cells #[.int .i64 0] 3)) w') :=
    tick_ok c w.heap.size sv _ _ ev clock 1 0 _ (heap_old h.clu) (heap_new w _) (by omega) (by omega) (by omega)
  have HPH := hid hp
  clear h hp
  go_enter Tryz.func13, Tryz.ntmps13
  go_wp2_with fail
  refine HP.out.mono ?_
  rintro e w' ⟨rfl, rfl⟩
  go_wp2_with fail
  refine HT.out.mono ?_
  rintro e w1 ⟨rfl, hc1, hf1⟩
  have hF1 : Frm (only c) w w1 := ((Frm.refl _ _).alloc _).trans hf1 fun _ _ _ h => h
  have HS1 := hid (HH.out.ticked hc1 hF1)
  have HF1 := hid hF1
  clear hc1 hf1 hF1
  have c1 := cell_at (i := 1) HS1.out.clu
  have hrow := row_cell HS1.out.users 0 (.pointer (some ⟨u, 0, none⟩)) rfl
  have u0 := cell_at (i := 0) HS1.out.user
  have HFR := hid (free_busy k cs n w1 HS1.out.cli HPH.out)
  go_wp2_with fail
  refine (cgetb k cs n w1 HS1.out.cli HPH.out).mono ?_
  rintro e w2 ⟨rfl, rfl⟩
  go_wp2
  go_ret
  exact ⟨rfl, HS1.out, HF1.out⟩
end Go.Proofs.YtmakanmjdfpcmaaGreat
