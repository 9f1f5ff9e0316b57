/- Deliver: to a site that is down; a Tell that comes late; any message of an operation. -/
import Derived.Test.YtmakanmjdfpcmaaGreatCluGet
namespace Go.Proofs.YtmakanmjdfpcmaaGreat
open Go.RowKit

set_option maxHeartbeats 4000000 in
set_option maxRecDepth 100000 in
theorem deliver_down {w : World} {B c : Nat} {sv uv nv : Value} {clock : Nat} {ev : Value} {X : List Nat} {up : Nat → Bool} {a u k e0 : Nat} {net : List Msg} {m : Nat} {xs : List Value} {cs : Array Value} {H : List Int}
    (h : CS w B c sv uv nv clock ev X up a u k e0 net m xs cs (some H)) (i q o : Nat) (n : ByteArray) (hi : i < net.length) (hm : net[i] = ⟨1, 3, q, o, n⟩) (hq : q < 3) (hup : up q = false) (hok : (⟨1, 3, q, o, n⟩ : Msg).Ok) (hl : net.length ≤ 300) (hcl : clock ≤ 50000) :
    Calls Tryz.prog 21 #[.pointer (some ⟨c, 0, none⟩), .int .i64 i] w fun e w' => e = .returned (.int .i64 0) ∧ ∃ nv', CS w' B c sv uv nv' (clock + 1) ev X up a u k e0 (net.eraseIdx i) m xs cs (some H) ∧ Frm (sfrm B c) w w' := by
  obtain ⟨g, cap, rfl⟩ := own_some h.net (by omega)
  have HT := hid (takes_ok B c g cap i net sv uv ev clock w h.clu h.net hi (by omega) hcl)
  have HH := hid h
  obtain ⟨gs, scap, rfl⟩ := own_some h.sites (by omega)
  obtain ⟨gu, ucap, rfl⟩ := own_some h.users (by omega)
  clear h
  go_enter Tryz.func21, Tryz.ntmps21
  go_wp2_with fail
  refine HT.out.mono ?_
  rintro e w1 ⟨rfl, hc1, hn1, hf1⟩
  rw [hm]
  go_wp2_with fail
  refine (decode_ok 1 3 q o n _ hok).mono ?_
  rintro e w2 ⟨rfl, hf2⟩
  have HF2 := hid (hf1.trans hf2 fun _ _ _ h => h.elim)
  have HS2 := hid (HH.out.sent HF2.out (hf2.keep (Clu.block hc1) fun h => h) (net' := net.eraseIdx i) (by rw [List.length_eraseIdx_of_lt hi]; exact ownRow_frm hn1 hf2 fun _ _ h => h))
  clear hc1 hn1 hf1 hf2
  have hat := HS2.out.ats q (by rw [HS2.out.len]; exact hq)
  unfold SiteAt at hat
  rw [if_neg (by simp [hup])] at hat
  obtain ⟨d, sp, hx, hd⟩ := hat
  have c0 := cell_at (i := 0) HS2.out.clu
  have c1 := cell_at (i := 1) HS2.out.clu
  obtain ⟨x, hxe⟩ : ∃ x, x = X[q]'(by rw [HS2.out.len]; exact hq) := ⟨_, rfl⟩
  rw [← hxe] at hx
  have hql : q < X.length := by rw [HS2.out.len]; exact hq
  have hrow := row_cell HS2.out.sites q (.pointer (some ⟨x, 0, none⟩)) (by simp [hxe, hql, ptr])
  have x2 := cell_at (i := 2) hx
  have hcl := heap_lt HS2.out.clu
  have hxl := heap_lt hx
  have hgl := own_lt HS2.out.sites
  clear hx hd hxe
  go_wp2_with fail
  go_region
  go_wp2_with fail
  go_region
  go_wp2_with fail
  go_ret
  refine ⟨rfl, _, HS2.out.same ?_, HF2.out.trans (Q := nothing) ?_ fun _ _ _ h => h.elim⟩ <;> (with_reducible repeat (first | exact Frm.refl _ _ | apply Frm.drew | apply Frm.drewN | apply Frm.alloc))

set_option maxHeartbeats 4000000 in
set_option maxRecDepth 100000 in
theorem deliver_late {w : World} {B c : Nat} {sv uv nv : Value} {clock : Nat} {ev : Value} {X : List Nat} {up : Nat → Bool} {a u k e0 : Nat} {net : List Msg} {m : Nat} {xs : List Value} {cs : Array Value} {H : List Int} (i f o : Nat) (n : ByteArray)
    (h : CS w B c sv uv nv clock ev X up a u k e0 net m xs cs (some H)) (hp : cs[3]? = some (.int .i64 0)) (hi : i < net.length) (hm : net[i] = ⟨2, f, 3, o, n⟩) (hok : (⟨2, f, 3, o, n⟩ : Msg).Ok) (hl : net.length ≤ 300) (hcl : clock ≤ 50000) :
    Calls Tryz.prog 21 #[.pointer (some ⟨c, 0, none⟩), .int .i64 i] w fun e w' => e = .returned (.int .i64 0) ∧ ∃ nv', CS w' B c sv uv nv' (clock + 1) ev X up a u k e0 (net.eraseIdx i) m xs cs (some H) ∧ Frm (sfrm B c) w w' := by
  obtain ⟨g, cap, rfl⟩ := own_some h.net (by omega)
  have HT := hid (takes_ok B c g cap i net sv uv ev clock w h.clu h.net hi (by omega) hcl)
  have HH := hid h
  obtain ⟨gs, scap, rfl⟩ := own_some h.sites (by omega)
  obtain ⟨gu, ucap, rfl⟩ := own_some h.users (by omega)
  have HP := hid hp
  clear h hp
  go_enter Tryz.func21, Tryz.ntmps21
  go_wp2_with fail
  refine HT.out.mono ?_
  rintro e w1 ⟨rfl, hc1, hn1, hf1⟩
  rw [hm]
  go_wp2_with fail
  refine (decode_ok 2 f 3 o n _ hok).mono ?_
  rintro e w2 ⟨rfl, hf2⟩
  have HF2 := hid (hf1.trans hf2 fun _ _ _ h => h.elim)
  have HS2 := hid (HH.out.sent HF2.out (hf2.keep (Clu.block hc1) fun h => h) (net' := net.eraseIdx i) (by rw [List.length_eraseIdx_of_lt hi]; exact ownRow_frm hn1 hf2 fun _ _ h => h))
  clear hc1 hn1 hf1 hf2
  have c0 := cell_at (i := 0) HS2.out.clu
  have c1 := cell_at (i := 1) HS2.out.clu
  have hrow := row_cell HS2.out.users 0 (.pointer (some ⟨u, 0, none⟩)) rfl
  have u0 := cell_at (i := 0) HS2.out.user
  have hcl := heap_lt HS2.out.clu
  have hul := heap_lt HS2.out.user
  have hgl := own_lt HS2.out.users
  go_wp2_with fail
  go_region
  go_wp2_with fail
  have HA : Hid (∀ w', Frm nothing w2 w' → Calls Tryz.prog 64 #[.pointer (some ⟨k, 0, none⟩), msgV 2 f 3 o n] w' fun e w'' => e = .returned (.tuple #[.slice none 0 0, .bool false]) ∧ Frm nothing w' w'') := by
    intro w' hf'
    exact handle_idle k cs f 3 o n w' (hf'.keep HS2.out.cli fun h => h) HP.out
  go_region_with (go_at_call 64; refine (HA.out _ (by with_reducible repeat (first | exact Frm.refl _ _ | apply Frm.drew | apply Frm.drewN | apply Frm.alloc))).mono ?_; rintro e w3 ⟨rfl, h7⟩; have HB := hid h7; clear h7)
  all_goals
    have HF3 : Hid (Frm nothing w2 w3) := Frm.trans (w := _) (by with_reducible repeat (first | exact Frm.refl _ _ | apply Frm.drew | apply Frm.drewN | apply Frm.alloc)) HB.out fun _ _ _ h => h
    go_wp2_with fail
    refine (send_nil c _).mono ?_
    rintro e w4 ⟨rfl, hf4⟩
    have HF4 : Hid (Frm nothing w2 w4) := HF3.out.trans hf4 fun _ _ _ h => h
    clear hf4
    go_wp2_with fail
    go_ret
    exact ⟨rfl, _, HS2.out.same HF4.out, HF2.out.trans HF4.out fun _ _ _ h => h.elim⟩

/-- a message of the operation that goes on -/
inductive AM where
  | ask (q : Nat)
  | tell (f : Nat)
def AM.msg (o : Nat) (n : ByteArray) : AM → Msg
  | .ask q => ⟨1, 3, q, o, n⟩
  | .tell f => ⟨2, f, 3, o, n⟩
structure ASt where
  net : List AM
  H : List Int
  ph : Nat
/-- what becomes of an operation, the first message delivered -/
def ASt.step (up : Nat → Bool) (s : ASt) : Option ASt :=
  match s.net with
  | [] => none
  | .ask q :: r => if q < 3 ∧ r.length ≤ 200 then some ⟨if up q then r ++ [.tell q] else r, s.H, s.ph⟩ else none
  | .tell f :: r =>
    if f < 3 ∧ r.length ≤ 200 ∧ s.H.length ≤ 900 then
      if s.ph = 0 then some ⟨r, s.H, 0⟩
      else if s.ph = 1 ∧ (f : Int) ∉ s.H then some ⟨r, (f : Int) :: s.H, if (3 : Int) < 2 * ((s.H.length + 1 : Nat) : Int) then 0 else 1⟩ else none
    else none
def ASt.runs (up : Nat → Bool) : Nat → ASt → Option ASt
  | 0, s => if s.net.isEmpty then some s else none
  | g + 1, s => match s.step up with
    | none => none
    | some s' => ASt.runs up g s'

/-- a cluster in which one operation (or none) goes on -/
def AS (w : World) (B c : Nat) (sv uv : Value) (clock : Nat) (ev : Value) (X : List Nat) (up : Nat → Bool) (a u k e0 m o : Nat) (n wn : ByteArray) (s : ASt) : Prop :=
  ∃ (nv : Value) (xs : List Value) (nk nf nt no : Nat) (nn : ByteArray), CS w B c sv uv nv clock ev X up a u k e0 (s.net.map (AM.msg o n)) m xs (cli 3 3 o s.ph (.map (some a)) nk nf nt no nn wn 41) (some s.H)

theorem deliver_any {w : World} {B c : Nat} {sv uv : Value} {clock : Nat} {ev : Value} {X : List Nat} {up : Nat → Bool} {a u k e0 m o : Nat} {n wn : ByteArray} {s s' : ASt}
    (h : AS w B c sv uv clock ev X up a u k e0 m o n wn s) (hs : s.step up = some s') (ho1 : 1 ≤ o) (ho : o ≤ 60000) (hn : NameOk n) (hcl : clock ≤ 50000) (he : e0 < m) (hmm : m ≤ 1000) :
    Calls Tryz.prog 21 #[.pointer (some ⟨c, 0, none⟩), .int .i64 0] w fun e w' => e = .returned (.int .i64 0) ∧ AS w' B c sv uv (clock + 1) ev X up a u k e0 m o n wn s' ∧ Frm (wfrm B a) w w' := by
  obtain ⟨nv, xs, nk, nf, nt, no, nn, h⟩ := h
  obtain ⟨net, H, ph⟩ := s
  unfold ASt.step at hs
  cases net with
  | nil => cases hs
  | cons x r =>
    cases x with
    | ask q =>
      simp only at hs
      split at hs
      · rename_i hq
        cases hs
        have hok : (⟨1, 3, q, o, n⟩ : Msg).Ok := ⟨by show 1 ≤ 1; omega, by show 1 ≤ 4; omega, by show 3 ≤ 1023; omega, by show q ≤ 1023; omega, ho, hn⟩
        by_cases hu : up q = true
        · refine (deliver_ask h 0 q o n (by simp) rfl hq.1 hu hok (by simp; omega) hcl).mono ?_
          rintro e w' ⟨rfl, nv', hc, hf⟩
          refine ⟨rfl, ⟨nv', xs, nk, nf, nt, no, nn, ?_⟩, h.toW hf⟩
          simpa [hu, AM.msg] using hc
        · have hu' : up q = false := by simpa using hu
          refine (deliver_down h 0 q o n (by simp) rfl hq.1 hu' hok (by simp; omega) hcl).mono ?_
          rintro e w' ⟨rfl, nv', hc, hf⟩
          refine ⟨rfl, ⟨nv', xs, nk, nf, nt, no, nn, ?_⟩, h.toW hf⟩
          simpa [hu', AM.msg] using hc
      · cases hs
    | tell f =>
      simp only at hs
      split at hs
      · rename_i hq
        have hok : (⟨2, f, 3, o, n⟩ : Msg).Ok := ⟨by show 1 ≤ 2; omega, by show 2 ≤ 4; omega, by show f ≤ 1023; omega, by show 3 ≤ 1023; omega, ho, hn⟩
        split at hs
        · rename_i hp
          cases hs
          subst hp
          refine (deliver_late 0 f o n h rfl (by simp) rfl hok (by simp; omega) hcl).mono ?_
          rintro e w' ⟨rfl, nv', hc, hf⟩
          exact ⟨rfl, ⟨nv', xs, nk, nf, nt, no, nn, hc⟩, h.toW hf⟩
        · split at hs
          · rename_i hp
            cases hs
            obtain ⟨hp, hfH⟩ := hp
            subst hp
            refine (deliver_tell 0 f o n h (by simp) rfl hq.1 hfH hq.2.2 hok (by simp; omega) hcl he hmm).mono ?_
            rintro e w' ⟨rfl, last, nv', nk', nf', nt', no', nn', hlast, hc, hf⟩
            refine ⟨rfl, ⟨nv', if last = true then evEnd e0 xs (clock + 1) else xs, nk', nf', nt', no', nn', ?_⟩, hf⟩
            have h1 : (if last = true then 0 else 1) = (if (3 : Int) < 2 * ((H.length + 1 : Nat) : Int) then 0 else 1 : Nat) := by
              rw [hlast]; simp
            have h2 : (if last = true then 41 else 41 : Nat) = 41 := by split <;> rfl
            rw [h2, h1] at hc
            exact hc
          · cases hs
      · cases hs
end Go.Proofs.YtmakanmjdfpcmaaGreat
