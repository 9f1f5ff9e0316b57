/- A cluster at work, on empty disks: Deliver. -/
import Derived.Test.YtmakanmjdfpcmaaGreatCluNew
namespace Go.Proofs.YtmakanmjdfpcmaaGreat
open Go.RowKit

/-- what a cluster's steps change: never its sites. a: the block of those heard -/
abbrev wfrm (B a : Nat) : Nat → Obj → Prop := fun q o => q = a ∨ (B ≤ q ∧ (Obj.ty o = some 71 ∨ Obj.ty o = some 85 ∨ Obj.ty o = some 9 ∨ Obj.ty o = some 87 ∨ Obj.ty o = some 147))

structure CS (w : World) (B c : Nat) (sv uv nv : Value) (clock : Nat) (ev : Value) (X : List Nat) (up : Nat → Bool) (a u k e0 : Nat) (net : List Msg) (m : Nat) (xs : List Value) (cs : Array Value) (H : Option (List Int)) : Prop where
  base : B ≤ c ∧ B ≤ u ∧ B ≤ k
  clu : Clu w c sv uv nv clock ev
  sites : w.ownsRow 0 75 1 sv 3 (X.map ptr)
  len : X.length = 3
  nodup : X.Nodup
  ats : ∀ (q : Nat) (h : q < X.length), SiteAt w X[q] q a (up q)
  users : w.ownsRow 0 83 1 uv 1 [ptr u]
  user : w.heap[u]? = some (.cells #[ptr k, .int .i64 e0] 85 (0, 0))
  evs : w.ownsRow B 87 10 ev m xs
  net : w.ownsRow B 9 1 nv net.length (netC net)
  cli : Cli w k cs
  heard : ∀ L, H = some L → Heard w a L

theorem CS.step {w w' : World} {B c : Nat} {sv uv nv nv' : Value} {clock clock' : Nat} {ev ev' : Value} {X : List Nat} {up : Nat → Bool} {a u k e0 e0' : Nat} {net net' : List Msg} {m m' : Nat} {xs xs' : List Value} {cs cs' : Array Value} {H H' : Option (List Int)}
    (h : CS w B c sv uv nv clock ev X up a u k e0 net m xs cs H) (hf : Frm (wfrm B a) w w') (ha : ∀ b T f, w.heap[a]? ≠ some (.cells b T f)) (hclu : Clu w' c sv uv nv' clock' ev') (hu : w'.heap[u]? = some (.cells #[ptr k, .int .i64 e0'] 85 (0, 0)))
    (he : w'.ownsRow B 87 10 ev' m' xs') (hn : w'.ownsRow B 9 1 nv' net'.length (netC net')) (hc : Cli w' k cs') (hh : ∀ L, H' = some L → Heard w' a L) :
    CS w' B c sv uv nv' clock' ev' X up a u k e0' net' m' xs' cs' H' := by
  have hft := hf.there
  have hcell : ∀ q b T f, w.heap[q]? = some (.cells b T f) → q ≠ a := fun q b T f hq e => ha b T f (e ▸ hq)
  refine ⟨h.base, hclu, ?_, h.len, h.nodup, fun q hq => ?_, ?_, hu, he, hn, hc, hh⟩
  · refine ownRow_frm h.sites hft fun q b hp => ?_
    obtain ⟨h1, h2⟩ := hp
    have := hcell _ _ _ _ h1
    simp [wfrm, Obj.ty, this] at h2
  · refine SiteAt.frm (h.ats q hq) hft ⟨?_, ?_, ?_, ?_, ?_⟩ fun b hp => ?_
    · intro q b hp; obtain ⟨h1, h2⟩ := hp; have := hcell _ _ _ _ h1; simp [wfrm, Obj.ty, this] at h2
    · intro q b hp; obtain ⟨h1, h2⟩ := hp; have := hcell _ _ _ _ h1; simp [wfrm, Obj.ty, this] at h2
    · intro q b hp; obtain ⟨h1, h2⟩ := hp; have := hcell _ _ _ _ h1; simp [wfrm, Obj.ty, this] at h2
    · intro q b hp; obtain ⟨h1, h2⟩ := hp; have := hcell _ _ _ _ h1; simp [wfrm, Obj.ty, this] at h2
    · intro q es n hq hp; obtain ⟨h1, h2⟩ := hp; simp [wfrm, Obj.ty, hq] at h2
    · obtain ⟨h1, h2⟩ := hp; have := hcell _ _ _ _ h1; simp [wfrm, Obj.ty, this] at h2
  · refine ownRow_frm h.users hft fun q b hp => ?_
    obtain ⟨h1, h2⟩ := hp
    have := hcell _ _ _ _ h1
    simp [wfrm, Obj.ty, this] at h2
theorem Heard.na {w : World} {hb : Nat} {H : List Int} (h : Heard w hb H) : ∀ b T f, w.heap[hb]? ≠ some (.cells b T f) := by
  obtain ⟨n, D, ⟨es, c, hb0, r⟩, r2⟩ := h
  intro b T f e
  rw [hb0] at e
  cases e
/-- what send changes, in wfrm's words -/
theorem CS.toW {w w' : World} {B c : Nat} {sv uv nv : Value} {clock : Nat} {ev : Value} {X : List Nat} {up : Nat → Bool} {a u k e0 : Nat} {net : List Msg} {m : Nat} {xs : List Value} {cs : Array Value} {H : Option (List Int)}
    (h : CS w B c sv uv nv clock ev X up a u k e0 net m xs cs H) (hf : Frm (sfrm B c) w w') : Frm (wfrm B a) w w' :=
  hf.there.mono fun q o _ hp => by
    obtain ⟨h1, h2⟩ := hp
    rcases h2 with h2 | h2
    · subst h2
      have h3 := h.clu
      unfold Clu at h3
      rw [h3] at h1; cases h1
      exact .inr ⟨h.base.1, .inl rfl⟩
    · exact .inr ⟨h2.1, .inr (.inr (.inl h2.2))⟩
/-- a step that leaves all but the cluster and the net alone -/
theorem CS.sent {w w' : World} {B c : Nat} {sv uv nv nv' : Value} {clock clock' : Nat} {ev : Value} {X : List Nat} {up : Nat → Bool} {a u k e0 : Nat} {net net' : List Msg} {m : Nat} {xs : List Value} {cs : Array Value} {H : List Int}
    (h : CS w B c sv uv nv clock ev X up a u k e0 net m xs cs (some H)) (hf : Frm (sfrm B c) w w') (hclu : Clu w' c sv uv nv' clock' ev) (hn : w'.ownsRow B 9 1 nv' net'.length (netC net')) :
    CS w' B c sv uv nv' clock' ev X up a u k e0 net' m xs cs (some H) := by
  have hc := h.clu
  unfold Clu at hc
  have hft := hf.there
  have hno : ∀ q b T, T ≠ 71 → T ≠ 9 → ¬ (w.heap[q]? = some (.cells b T (0, 0)) ∧ sfrm B c q (.cells b T (0, 0))) := by
    intro q b T h1 h2 hp
    obtain ⟨p1, p2⟩ := hp
    rcases p2 with p2 | p2
    · subst p2; rw [hc] at p1; cases p1; exact h1 rfl
    · simp [Obj.ty] at p2; exact h2 p2.2
  refine h.step (h.toW hf) (h.heard _ rfl).na hclu (hft.keep h.user (hno _ _ _ (by decide) (by decide))) (ownRow_frm h.evs hft fun q b => hno _ _ _ (by decide) (by decide)) hn ?_ ?_
  · have := h.cli
    unfold Cli at this ⊢
    exact hft.keep this (hno _ _ _ (by decide) (by decide))
  · rintro L ⟨rfl⟩
    refine (h.heard _ rfl).frm hft fun es n hp => ?_
    obtain ⟨p1, p2⟩ := hp
    rcases p2 with p2 | p2
    · subst p2; rw [hc] at p1; cases p1
    · simp [Obj.ty] at p2
theorem own_one {w : World} {b size : Nat} {cs : Array Value} {T : TypeId} (h : w.heap[b]? = some (.cells cs T (0, 0))) (hs : cs.size = size) : w.ownsRow 0 T size (.slice (some ⟨b, 0, none⟩) 1 1) 1 cs.toList :=
  ⟨by simp [hs], .inr ⟨b, 1, cs, rfl, Nat.zero_le _, h, Nat.le_refl _, by unfold maxLen; omega, by omega, List.take_of_length_le (by simp [hs])⟩⟩
theorem own_lt {w : World} {B : Nat} {e : TypeId} {size g n cap : Nat} {xs : List Value} (h : w.ownsRow B e size (.slice (some ⟨g, 0, none⟩) n cap) n xs) : g < w.heap.size := by
  rcases h.2 with ⟨h0, _⟩ | ⟨g', cap', cur, h3, h4, h5, h6⟩
  · cases h0
  · cases h3; exact heap_lt h5
theorem Clu.block {w : World} {c : Nat} {sv uv nv ev : Value} {clock : Nat} (h : Clu w c sv uv nv clock ev) : w.heap[c]? = some (.cells #[sv, uv, nv, .int .i64 clock, ev] 71 (0, 0)) := h

set_option maxHeartbeats 4000000 in
set_option maxRecDepth 100000 in
theorem deliver_ask {w : World} {B c : Nat} {sv uv nv : Value} {clock : Nat} {ev : Value} {X : List Nat} {up : Nat → Bool} {a u k e0 : Nat} {net : List Msg} {m : Nat} {xs : List Value} {cs : Array Value} {H : List Int}
    (h : CS w B c sv uv nv clock ev X up a u k e0 net m xs cs (some H)) (i q o : Nat) (n : ByteArray) (hi : i < net.length) (hm : net[i] = ⟨1, 3, q, o, n⟩) (hq : q < 3) (hup : up q = true) (hok : (⟨1, 3, q, o, n⟩ : Msg).Ok) (hl : net.length ≤ 300) (hcl : clock ≤ 50000) :
    Calls Tryz.prog 21 #[.pointer (some ⟨c, 0, none⟩), .int .i64 i] w fun e w' => e = .returned (.int .i64 0) ∧ ∃ nv', CS w' B c sv uv nv' (clock + 1) ev X up a u k e0 (net.eraseIdx i ++ [⟨2, q, 3, o, n⟩]) m xs cs (some H) ∧ Frm (sfrm B c) w w' := by
  obtain ⟨g, cap, rfl⟩ := own_some h.net (by omega)
  have HT := hid (takes_ok B c g cap i net sv uv ev clock w h.clu h.net hi (by omega) hcl)
  have HH := hid h
  obtain ⟨gs, scap, rfl⟩ := own_some h.sites (by omega)
  obtain ⟨gu, ucap, rfl⟩ := own_some h.users (by omega)
  clear h
  go_enter Tryz.func21, Tryz.ntmps21
  go_wp2_with fail
  refine HT.out.mono ?_
  rintro e w1 ⟨rfl, hc1, hn1, hf1⟩
  rw [hm]
  go_wp2_with fail
  refine (decode_ok 1 3 q o n _ hok).mono ?_
  rintro e w2 ⟨rfl, hf2⟩
  have HF2 := hid (hf1.trans hf2 fun _ _ _ h => h.elim)
  have HS2 := hid (HH.out.sent HF2.out (hf2.keep (Clu.block hc1) fun h => h) (net' := net.eraseIdx i) (by rw [List.length_eraseIdx_of_lt hi]; exact ownRow_frm hn1 hf2 fun _ _ h => h))
  clear hc1 hn1 hf1 hf2
  have hat := HS2.out.ats q (by rw [HS2.out.len]; exact hq)
  unfold SiteAt at hat
  rw [if_pos hup] at hat
  obtain ⟨d, s, r, hx, hd, hs, hr⟩ := hat
  have c0 := cell_at (i := 0) HS2.out.clu
  have c1 := cell_at (i := 1) HS2.out.clu
  obtain ⟨x, hxe⟩ : ∃ x, x = X[q]'(by rw [HS2.out.len]; exact hq) := ⟨_, rfl⟩
  rw [← hxe] at hx
  have hql : q < X.length := by rw [HS2.out.len]; exact hq
  have hrow := row_cell HS2.out.sites q (.pointer (some ⟨x, 0, none⟩)) (by simp [hxe, hql, ptr])
  have x2 := cell_at (i := 2) hx
  have hcl := heap_lt HS2.out.clu
  have hxl := heap_lt hx
  have hgl := own_lt HS2.out.sites
  have HD := hid (And.intro hx (And.intro hd (And.intro hs hr)))
  clear hx hd hs hr hxe
  go_wp2_with fail
  go_region
  go_wp2_with fail
  go_region
  go_wp2_with fail
  have hns : n.size ≤ maxLen := by have h1 : n.size ≤ 32 := hok.n.2.1
                                   unfold maxLen; omega
  have HA : Hid (∀ w', Frm nothing w2 w' → Calls Tryz.prog 66 #[.pointer (some ⟨r, 0, none⟩), .agg #[.int .i64 1, .int .i64 3, .int .i64 q, .int .i64 o, .string n, .int .i64 0, .int .i64 0, .string ⟨#[]⟩, .slice none 0 0]] w' fun e w'' =>
      ∃ b, e = .returned (.tuple #[.slice (some ⟨b, 0, none⟩) 1 1, .int .i64 0]) ∧ w'.heap.size ≤ b ∧ Frm nothing w' w'' ∧
        w''.heap[b]? = some (.cells #[.int .i64 2, .int .i64 q, .int .i64 3, .int .i64 o, .string n, .int .i64 0, .int .i64 0, .string ⟨#[]⟩, .slice none 0 0] 117 (0, 0))) := by
    intro w' hf
    obtain ⟨_, _, hs, hr⟩ := HD.out
    exact handle_askE r s d q 3 o 0 0 n ⟨#[]⟩ (.slice none 0 0) w' (hf.keep hr fun h => h) (hs.frm hf ⟨fun _ _ h => h, fun _ _ h => h, fun _ _ h => h, fun _ _ h => h, fun _ _ _ _ h => h⟩).toE hns
  go_region_with (go_at_call 66; refine (HA.out _ (by with_reducible repeat (first | exact Frm.refl _ _ | apply Frm.drew | apply Frm.drewN | apply Frm.alloc))).mono ?_; rintro e w3 ⟨b, rfl, hbl, hf3, hb⟩; have HB := hid (And.intro hbl (And.intro hf3 hb)); clear hbl hf3 hb)
  all_goals
    obtain ⟨hbl, hf3, hb⟩ := HB.out
    have hfn : Frm nothing w2 w3 := Frm.trans (w := _) (by with_reducible repeat (first | exact Frm.refl _ _ | apply Frm.drew | apply Frm.drewN | apply Frm.alloc)) hf3 fun _ _ _ h => h
    have HF3 : Hid (Frm (sfrm B c) w w3) := HF2.out.trans hfn fun _ _ _ h => h.elim
    have hc3 := hfn.keep (Clu.block HS2.out.clu) fun h => h
    have HS3 := hid (HS2.out.sent (hfn.mono fun _ _ _ h => h.elim) hc3 (ownRow_frm HS2.out.net hfn fun _ _ h => h))
    have HSE := hid (send_ok B c b 1 [⟨2, q, 3, o, n⟩] (net.eraseIdx i) _ _ _ _ (clock + 1) w3 HS3.out.clu HS3.out.net (by simpa [msgsC] using own_one hb rfl) (by intro m hm; simp at hm; subst hm; exact ⟨by show 1 ≤ 2; omega, by show 2 ≤ 4; omega, by show q ≤ 1023; omega, by show 3 ≤ 1023; omega, hok.o, hok.n⟩) (by have := List.length_eraseIdx_of_lt hi; simp; omega) HH.out.base.1)
    have HFN := hid hfn
    clear hbl hf3 hb hfn hc3
    go_wp2_with fail
    refine HSE.out.mono ?_
    rintro e w4 ⟨rfl, nv', hc4, hn4, hf4⟩
    have HS4 := hid (HS3.out.sent hf4 hc4 hn4)
    have HF4 := hid (HF3.out.trans hf4 fun _ _ _ h => h)
    have hx4 : w4.heap[x]? = some (.cells #[.pointer (some ⟨d, 0, none⟩), .pointer (some ⟨s, 0, none⟩), .pointer (some ⟨r, 0, none⟩)] 79 (0, 0)) :=
      hf4.keep (HFN.out.keep HD.out.1 fun h => h) fun hp => by
        rcases hp with hp | hp
        · subst hp; have h1 := HS2.out.clu; unfold Clu at h1; rw [HD.out.1] at h1; cases h1
        · simp [Obj.ty] at hp
    have hd4 : EDisk w4 d := by
      obtain ⟨mb, lim, st, g1, g2, _⟩ := HD.out.2.1
      have hno : ∀ o : Obj, (∀ b f, o ≠ .cells b 71 f) → (∀ b f, o ≠ .cells b 9 f) → ∀ p, w2.heap[p]? = some o → w4.heap[p]? = some o := fun o h1 h2 p hp => hf4.keep (HFN.out.keep hp fun h => h) fun hq => by
        rcases hq with hq | hq
        · subst hq; have h3 := HS2.out.clu; unfold Clu at h3; rw [hp] at h3; cases h3; exact h1 _ _ rfl
        · cases o with
          | cells b T f => simp [Obj.ty] at hq; obtain ⟨_, rfl⟩ := hq; exact h2 _ _ rfl
          | _ => simp [Obj.ty] at hq
      exact ⟨mb, lim, st, hno _ (by simp) (by simp) _ g1, hno _ (by simp) (by simp) _ g2⟩
    have HFE := hid (fell_ok x d _ _ w4 hx4 hd4)
    clear hc4 hn4 hf4 hx4 hd4
    go_wp2_with fail
    refine HFE.out.mono ?_
    rintro e w' ⟨rfl, rfl⟩
    go_wp2_with fail
    go_ret
    exact ⟨rfl, nv', HS4.out, HF4.out⟩
end Go.Proofs.YtmakanmjdfpcmaaGreat
