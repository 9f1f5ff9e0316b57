/- Deliver: a Tell to the client. -/
import Derived.Test.YtmakanmjdfpcmaaGreatCluEnd
namespace Go.Proofs.YtmakanmjdfpcmaaGreat
open Go.RowKit

theorem send_nil (c : Nat) (w : World) : Calls Tryz.prog 60 #[.pointer (some ⟨c, 0, none⟩), .slice none 0 0] w fun e w' => e = .returned (.tuple #[]) ∧ Frm nothing w w' := by
  go_enter Tryz.func60, Tryz.ntmps60
  go_wp2
  refine wp_loop_rounds 1 ?_
  rw [rounds_succ]
  go_wp2
  go_end0
  exact ⟨rfl, by with_reducible repeat (first | exact Frm.refl _ _ | apply Frm.drew | apply Frm.drewN | apply Frm.alloc)⟩
theorem CS.same {w w' : World} {B c : Nat} {sv uv nv : Value} {clock : Nat} {ev : Value} {X : List Nat} {up : Nat → Bool} {a u k e0 : Nat} {net : List Msg} {m : Nat} {xs : List Value} {cs : Array Value} {H : List Int}
    (h : CS w B c sv uv nv clock ev X up a u k e0 net m xs cs (some H)) (hf : Frm nothing w w') : CS w' B c sv uv nv clock ev X up a u k e0 net m xs cs (some H) :=
  h.sent (hf.mono fun _ _ _ h => h.elim) (hf.keep (Clu.block h.clu) fun h => h) (ownRow_frm h.net hf fun _ _ h => h)
theorem CS.handled {w w' : World} {B c : Nat} {sv uv nv : Value} {clock : Nat} {ev : Value} {X : List Nat} {up : Nat → Bool} {a u k e0 : Nat} {net : List Msg} {m : Nat} {xs : List Value} {cs : Array Value} {H : List Int} {cs' : Array Value} {H' : List Int}
    (h : CS w B c sv uv nv clock ev X up a u k e0 net m xs cs (some H)) (hf : Frm (fun q _ => q = k ∨ q = a) w w') (hc : Cli w' k cs') (hh : Heard w' a H') : CS w' B c sv uv nv clock ev X up a u k e0 net m xs cs' (some H') ∧ Frm (wfrm B a) w w' := by
  have hk := h.cli
  unfold Cli at hk
  have hna := (h.heard _ rfl).na
  have hft := hf.there
  have hno : ∀ q b T, T ≠ 147 → ¬ (w.heap[q]? = some (.cells b T (0, 0)) ∧ (q = k ∨ q = a)) := by
    intro q b T h1 hp
    obtain ⟨p1, p2⟩ := hp
    rcases p2 with p2 | p2
    · subst p2; rw [hk] at p1; cases p1; exact h1 rfl
    · subst p2; exact hna _ _ _ p1
  have hw : Frm (wfrm B a) w w' := hft.mono fun q o _ hp => by
    obtain ⟨p1, p2⟩ := hp
    rcases p2 with p2 | p2
    · subst p2; rw [hk] at p1; cases p1; exact .inr ⟨h.base.2.2, .inr (.inr (.inr (.inr rfl)))⟩
    · exact .inl p2
  refine ⟨h.step hw hna (hft.keep (Clu.block h.clu) (hno _ _ _ (by decide))) (hft.keep h.user (hno _ _ _ (by decide))) (ownRow_frm h.evs hft fun q b => hno _ _ _ (by decide)) (ownRow_frm h.net hft fun q b => hno _ _ _ (by decide)) hc ?_, hw⟩
  rintro L ⟨rfl⟩
  exact hh
theorem CS.ended {w w' : World} {B c : Nat} {sv uv nv : Value} {clock : Nat} {ge ecap : Nat} {X : List Nat} {up : Nat → Bool} {a u k e0 : Nat} {net : List Msg} {m : Nat} {xs xs' : List Value} {cs : Array Value} {H : List Int}
    (h : CS w B c sv uv nv clock (.slice (some ⟨ge, 0, none⟩) m ecap) X up a u k e0 net m xs cs (some H)) (hf : Frm (only ge) w w') (he : w'.ownsRow B 87 10 (.slice (some ⟨ge, 0, none⟩) m ecap) m xs') :
    CS w' B c sv uv nv clock (.slice (some ⟨ge, 0, none⟩) m ecap) X up a u k e0 net m xs' cs (some H) ∧ Frm (wfrm B a) w w' := by
  have hty : ∀ o, w.heap[ge]? = some o → Obj.ty o = some 87 := fun o ho => ownRow_ty h.evs rfl ho
  have hft := hf.there
  have hno : ∀ q b T, T ≠ 87 → ¬ (w.heap[q]? = some (.cells b T (0, 0)) ∧ only ge q (.cells b T (0, 0))) := by
    intro q b T h1 hp
    obtain ⟨p1, p2⟩ := hp
    have p3 : q = ge := p2
    subst p3
    have := hty _ p1
    simp [Obj.ty] at this
    exact h1 this
  have hw : Frm (wfrm B a) w w' := hft.mono fun q o _ hp => by
    obtain ⟨p1, p2⟩ := hp
    have p3 : q = ge := p2
    subst p3
    exact .inr ⟨own_ge h.evs rfl, .inr (.inr (.inr (.inl (hty _ p1))))⟩
  refine ⟨h.step hw (h.heard _ rfl).na (hft.keep (Clu.block h.clu) (hno _ _ _ (by decide))) (hft.keep h.user (hno _ _ _ (by decide))) he (ownRow_frm h.net hft fun q b => hno _ _ _ (by decide)) ?_ ?_, hw⟩
  · have hk := h.cli
    unfold Cli at hk ⊢
    exact hft.keep hk (hno _ _ _ (by decide))
  · rintro L ⟨rfl⟩
    refine (h.heard _ rfl).frm hft fun es n hp => ?_
    obtain ⟨p1, p2⟩ := hp
    have p3 : a = ge := p2
    subst p3
    have := hty _ p1
    simp [Obj.ty] at this
/-- an event's row behind ended -/
def evEnd (e0 : Nat) (xs : List Value) (clock : Nat) : List Value := (xs.set (e0 * 10 + 6) (.int .i64 clock)).set (e0 * 10 + 9) (.int .i64 41)

set_option maxHeartbeats 4000000 in
set_option maxRecDepth 100000 in
theorem deliver_tell {w : World} {B c : Nat} {sv uv nv : Value} {clock : Nat} {ev : Value} {X : List Nat} {up : Nat → Bool} {a u k e0 : Nat} {net : List Msg} {m : Nat} {xs : List Value} {nk nf nt no en : Nat} {nn wn : ByteArray} {H : List Int} (i f o : Nat) (n : ByteArray)
    (h : CS w B c sv uv nv clock ev X up a u k e0 net m xs (cli 3 3 o 1 (.map (some a)) nk nf nt no nn wn en) (some H)) (hi : i < net.length) (hm : net[i] = ⟨2, f, 3, o, n⟩) (hf : f < 3) (hfH : (f : Int) ∉ H) (hH : H.length ≤ 900) (hok : (⟨2, f, 3, o, n⟩ : Msg).Ok) (hl : net.length ≤ 300) (hcl : clock ≤ 50000) (he : e0 < m) (hmm : m ≤ 1000) :
    Calls Tryz.prog 21 #[.pointer (some ⟨c, 0, none⟩), .int .i64 i] w fun e w' => e = .returned (.int .i64 0) ∧ ∃ last nv' nk' nf' nt' no' nn', last = decide ((3 : Int) < 2 * ((H.length + 1 : Nat) : Int)) ∧
      CS w' B c sv uv nv' (clock + 1) ev X up a u k e0 (net.eraseIdx i) m (if last = true then evEnd e0 xs (clock + 1) else xs) (cli 3 3 o (if last = true then 0 else 1) (.map (some a)) nk' nf' nt' no' nn' wn (if last = true then 41 else en)) (some ((f : Int) :: H)) ∧ Frm (wfrm B a) w w' := by
  obtain ⟨g, cap, rfl⟩ := own_some h.net (by omega)
  have HT := hid (takes_ok B c g cap i net sv uv ev clock w h.clu h.net hi (by omega) hcl)
  have HH := hid h
  obtain ⟨gs, scap, rfl⟩ := own_some h.sites (by omega)
  obtain ⟨gu, ucap, rfl⟩ := own_some h.users (by omega)
  obtain ⟨ge, ecap, rfl⟩ := own_some h.evs (by omega)
  clear h
  go_enter Tryz.func21, Tryz.ntmps21
  go_wp2_with fail
  refine HT.out.mono ?_
  rintro e w1 ⟨rfl, hc1, hn1, hf1⟩
  rw [hm]
  go_wp2_with fail
  refine (decode_ok 2 f 3 o n _ hok).mono ?_
  rintro e w2 ⟨rfl, hf2⟩
  have HF2 := hid (hf1.trans hf2 fun _ _ _ h => h.elim)
  have HS2 := hid (HH.out.sent HF2.out (hf2.keep (Clu.block hc1) fun h => h) (net' := net.eraseIdx i) (by rw [List.length_eraseIdx_of_lt hi]; exact ownRow_frm hn1 hf2 fun _ _ h => h))
  clear hc1 hn1 hf1 hf2
  have c0 := cell_at (i := 0) HS2.out.clu
  have c1 := cell_at (i := 1) HS2.out.clu
  have hrow := row_cell HS2.out.users 0 (.pointer (some ⟨u, 0, none⟩)) rfl
  have u0 := cell_at (i := 0) HS2.out.user
  have hcl := heap_lt HS2.out.clu
  have hul := heap_lt HS2.out.user
  have hgl := own_lt HS2.out.users
  go_wp2_with fail
  go_region
  go_wp2_with fail
  have HA : Hid (∀ w', Frm nothing w2 w' → Calls Tryz.prog 64 #[.pointer (some ⟨k, 0, none⟩), msgV 2 f 3 o n] w' fun e w'' => ∃ last nk nf nt no ph en' nn, last = decide (((3 : Nat) : Int) < 2 * ((H.length + 1 : Nat) : Int)) ∧ e = .returned (.tuple #[.slice none 0 0, .bool last]) ∧ ph = (if last = true then 0 else 1) ∧ en' = (if last = true then 41 else en) ∧
      Cli w'' k (cli 3 3 o ph (.map (some a)) nk nf nt no nn wn en') ∧ Heard w'' a ((f : Int) :: H) ∧ Frm (fun q _ => q = k ∨ q = a) w' w'') := by
    intro w' hf'
    exact handle_tell k 3 3 o nk nf nt no en a f H nn wn n w' (hf'.keep HS2.out.cli fun h => h) ((HS2.out.heard _ rfl).frm hf' fun _ _ h => h) hH (by omega) hfH hf
  go_region_with (go_at_call 64; refine (HA.out _ (by with_reducible repeat (first | exact Frm.refl _ _ | apply Frm.drew | apply Frm.drewN | apply Frm.alloc))).mono ?_; rintro e w3 ⟨last, nk', nf', nt', no', ph, en', nn', h1, rfl, h3, h4, h5, h6, h7⟩; have HB := hid (And.intro h1 (And.intro h3 (And.intro h4 (And.intro h5 (And.intro h6 h7))))); clear h1 h3 h4 h5 h6 h7)
  all_goals
    obtain ⟨h1, h3, h4, h5, h6, h7⟩ := HB.out
    have hfn : Frm (fun q _ => q = k ∨ q = a) w2 w3 := Frm.trans (w := _) (by with_reducible repeat (first | exact Frm.refl _ _ | apply Frm.drew | apply Frm.drewN | apply Frm.alloc)) h7 fun _ _ _ h => h
    have HS3 := hid (HS2.out.handled hfn h5 h6)
    have HF3 : Hid (Frm (wfrm B a) w w3) := (HH.out.toW HF2.out).trans HS3.out.2 fun _ _ _ h => h
    have HL := hid h1
    subst h3 h4
    clear h1 h5 h6 h7 hfn
    go_wp2_with fail
    refine (send_nil c _).mono ?_
    rintro e w4 ⟨rfl, hf4⟩
    have HS4 := hid (HS3.out.1.same hf4)
    have HF4 : Hid (Frm (wfrm B a) w w4) := HF3.out.trans hf4 fun _ _ _ h => h.elim
    clear hf4
    cases last with
    | false =>
      go_wp2_with fail
      go_ret
      exact ⟨rfl, false, _, nk', nf', nt', no', nn', HL.out, HS4.out, HF4.out⟩
    | true =>
      have HEN := hid (ended_ok B c u k ge ecap m e0 xs _ _ _ (clock + 1) _ w4 HS4.out.clu HS4.out.user HS4.out.evs he hmm HS4.out.cli rfl rfl)
      go_wp2_with fail
      refine HEN.out.mono ?_
      rintro e w5 ⟨rfl, he5, hf5⟩
      have HS5 := hid (HS4.out.ended hf5 he5)
      have HF5 : Hid (Frm (wfrm B a) w w5) := HF4.out.trans HS5.out.2 fun _ _ _ h => h
      go_wp2_with fail
      go_ret
      exact ⟨rfl, true, _, nk', nf', nt', no', nn', HL.out, HS5.out.1, HF5.out⟩
end Go.Proofs.YtmakanmjdfpcmaaGreat
