/- archive: New, Get, Down, Start, Again, Put of no PNG. -/
import Derived.Test.YtmakanmjdfpcmaaGreatArc4
import Derived.Test.YtmakanmjdfpcmaaGreatCluAwake
namespace Go.Proofs.YtmakanmjdfpcmaaGreat
open Go.RowKit

/-- no operation goes on, nothing is on its way -/
def Idle (w : World) (B c : Nat) (sv uv : Value) (clock : Nat) (ev : Value) (X : List Nat) (up : Nat → Bool) (u k e0 m op : Nat) : Prop :=
  ∃ (nv : Value) (xs : List Value) (hm : Value) (nk nf nt no : Nat) (nn wn : ByteArray) (a : Nat) (H : Option (List Int)), CS w B c sv uv nv clock ev X up a u k e0 [] m xs (cli 3 3 op 0 hm nk nf nt no nn wn 41) H
theorem AS.idle {w : World} {B c : Nat} {sv uv : Value} {clock : Nat} {ev : Value} {X : List Nat} {up : Nat → Bool} {a u k e0 m o : Nat} {n wn : ByteArray} {s : ASt}
    (h : AS w B c sv uv clock ev X up a u k e0 m o n wn s) (h1 : s.net = []) (h2 : s.ph = 0) : Idle w B c sv uv clock ev X up u k e0 m o := by
  obtain ⟨nv, xs, nk, nf, nt, no, nn, h⟩ := h
  rw [h1, h2] at h
  exact ⟨nv, xs, _, nk, nf, nt, no, nn, wn, a, _, h⟩

theorem CS.still {w w' : World} {B c : Nat} {sv uv nv : Value} {clock : Nat} {ev : Value} {X : List Nat} {up : Nat → Bool} {a b u k e0 : Nat} {net : List Msg} {m : Nat} {xs : List Value} {cs : Array Value} {H : Option (List Int)}
    (h : CS w B c sv uv nv clock ev X up a u k e0 net m xs cs H) (hb : w.heap.size ≤ b) (hf : Frm nothing w w') : CS w' B c sv uv nv clock ev X up b u k e0 net m xs cs none :=
  (h.later hb).step (hf.mono fun _ _ _ h => h.elim) (fun c T f hq => by have := heap_lt hq; omega) (hf.keep (Clu.block h.clu) fun h => h) (hf.keep h.user fun h => h) (ownRow_frm h.evs hf fun _ _ h => h) (ownRow_frm h.net hf fun _ _ h => h) (by have hk := h.cli; unfold Cli at hk ⊢; exact hf.keep hk fun h => h) fun L hL => by cases hL

theorem anew_ok (w : World) :
    Calls Tryz.prog 79 #[.int .i64 1] w fun e w' => ∃ (z c : Nat) (sv uv : Value) (X : List Nat) (u k : Nat), e = .returned (.tuple #[.pointer (some ⟨z, 0, none⟩), .int .i64 0]) ∧ Arc w' z c ∧ w.heap.size ≤ z ∧ Idle w' w.heap.size c sv uv 0 (.slice none 0 0) X (fun _ => true) u k 0 0 0 ∧ X.length = 3 ∧ (∀ x ∈ X, w.heap.size ≤ x) ∧ Frm nothing w w' := by
  go_enter Tryz.func79, Tryz.ntmps79
  go_wp2_with fail
  refine (new_ok2 w).mono ?_
  rintro e w1 ⟨c, sv, uv, X, u, k, rfl, hc, hu, hk, hclu, hs, hl, hn, hup, hus, hu1, hcl, hf1, hge⟩
  have HS1 := hid (cs_new hc hu hk hclu hs hl hn hup hus hu1 hcl)
  have HF1 := hid hf1
  have HG := hid (And.intro hl hge)
  clear hc hu hk hclu hs hl hn hup hus hu1 hcl hf1 hge
  unfold ptr
  go_wp2_with fail
  go_ret2
  have hf2 : Frm nothing w1 (w1.alloc (.cells #[.pointer (some ⟨c, 0, none⟩), .int .i64 1] 127)) := (Frm.refl _ _).alloc _
  refine ⟨w1.heap.size, c, sv, uv, X, u, k, rfl, heap_new w1 _, HF1.out.size, ⟨.slice none 0 0, [], .map none, 0, 0, 0, 0, ⟨#[]⟩, ⟨#[]⟩, (w1.alloc (.cells #[.pointer (some ⟨c, 0, none⟩), .int .i64 1] 127)).heap.size, none, ?_⟩, HG.out.1, HG.out.2, HF1.out.alloc _⟩
  exact CS.still HS1.out (by simp) hf2

set_option maxHeartbeats 4000000 in
set_option maxRecDepth 100000 in
theorem aget_ok {w : World} {B c : Nat} {sv uv : Value} {clock : Nat} {ev : Value} {X : List Nat} {up : Nat → Bool} {u k e0 m op : Nat} {fin : ASt} (n : ByteArray) (z g : Nat)
    (h : Idle w B c sv uv clock ev X up u k e0 m op) (hz : Arc w z c) (hn : NameOk n) (hr : ASt.runs up g ⟨[.ask 0, .ask 1, .ask 2], [], 1⟩ = some fin) (hp : fin.ph = 0 ∨ fin.ph = 1) (hop : op ≤ 50000) (hcl : clock + g ≤ 30000) (hmm : m ≤ 900) :
    Calls Tryz.prog 28 #[.pointer (some ⟨z, 0, none⟩), .string n] w fun e w' => e = .returned (.tuple #[.string ⟨#[]⟩, .int .i64 (if fin.ph = 0 then 41 else 61)]) ∧ ∃ ev' a', w.heap.size ≤ a' ∧ AS w' B c sv uv (clock + 1 + g) ev' X up a' u k m (m + 1) (op + 1) n n fin ∧ Arc w' z c ∧ Frm (wfrm B a') w w' := by
  obtain ⟨nv, xs, hm, nk, nf, nt, no, nn, wn, a, H, h⟩ := h
  have HG := hid (get_ok n h hn hop (by simp) (by omega) (by omega))
  have HZ := hid hz
  have HR := hid hr
  have HP := hid hp
  have HN := hid hn
  have z0 := cell_at (i := 0) hz
  obtain ⟨E, hE⟩ : ∃ E : Int, E = (if fin.ph = 0 then 41 else 61) := ⟨_, rfl⟩
  rw [← hE]
  have HE := hid hE
  clear h hz hr hp hn hE
  go_enter Tryz.func28, Tryz.ntmps28
  go_wp2_with fail
  refine HG.out.mono ?_
  rintro e w1 ⟨rfl, nv', ev', hb, hbl, hs1, hf1⟩
  have hzl := heap_lt HZ.out
  have hz1 : Arc w1 z c := HZ.out.wfrm hf1 (by omega)
  have HS1 : Hid (AS w1 B c sv uv (clock + 1) ev' X up hb u k m (m + 1) (op + 1) n n ⟨[.ask 0, .ask 1, .ask 2], [], 1⟩) := ⟨nv', _, 0, 0, 0, 0, ⟨#[]⟩, hs1⟩
  have HF1 := hid hf1
  have HB := hid hbl
  have HZ1 := hid hz1
  clear hbl hs1 hf1 hz1 z0
  have HRUN := hid (run_ok z g HS1.out HZ1.out HR.out HP.out (by omega) (by omega) HN.out (by omega) (by omega) (by omega))
  have hE := HE.out
  rw [← hE] at HRUN
  have hEb : (E == 0) = false ∧ (E != 0) = true ∧ ¬ E = 0 := by
    rcases HP.out with h | h
    · rw [h] at hE; subst hE; decide
    · rw [h] at hE; subst hE; decide
  have hE1 := hEb.1
  have hE2 := hEb.2.1
  have hE3 := hEb.2.2
  clear hE hEb
  go_wp2_with fail
  refine HRUN.out.mono ?_
  rintro e w2 ⟨rfl, hs2, hz2, hf2⟩
  have H2 := hid (And.intro hs2 (And.intro hz2 hf2))
  clear hs2 hz2 hf2
  go_wp2_with fail
  go_ret2
  obtain ⟨hs2, hz2, hf2⟩ := H2.out
  exact ⟨rfl, ev', hb, HB.out, hs2, hz2, HF1.out.trans hf2 fun _ _ _ h => h⟩

set_option maxHeartbeats 4000000 in
set_option maxRecDepth 100000 in
theorem aget_busy {w : World} {B c : Nat} {sv uv : Value} {clock : Nat} {ev : Value} {X : List Nat} {up : Nat → Bool} {a u k e0 m o : Nat} {n wn : ByteArray} {s : ASt} (t : ByteArray) (z : Nat)
    (h : AS w B c sv uv clock ev X up a u k e0 m o n wn s) (hz : Arc w z c) (hp : s.ph = 1) (hcl : clock ≤ 30000) (hB : B ≤ c) :
    Calls Tryz.prog 28 #[.pointer (some ⟨z, 0, none⟩), .string t] w fun e w' => e = .returned (.tuple #[.string ⟨#[]⟩, .int .i64 61]) ∧ AS w' B c sv uv (clock + 1) ev X up a u k e0 m o n wn s ∧ Arc w' z c ∧ Frm (only c) w w' := by
  obtain ⟨nv, xs, nk, nf, nt, no, nn, h⟩ := h
  have HG := hid (clusget_busy t h (by rw [hp]; rfl) (by omega))
  have HZ := hid hz
  have HC := hid h.clu
  have z0 := cell_at (i := 0) hz
  clear h hz hp
  go_enter Tryz.func28, Tryz.ntmps28
  go_wp2_with fail
  refine HG.out.mono ?_
  rintro e w1 ⟨rfl, hs1, hf1⟩
  have HS1 := hid hs1
  have HF1 := hid hf1
  clear hs1 hf1
  go_wp2_with fail
  go_ret2
  refine ⟨rfl, ⟨nv, xs, nk, nf, nt, no, nn, HS1.out⟩, HZ.out.frm HF1.out fun hp => ?_, HF1.out⟩
  have hp' : z = c := hp
  have h1 := HZ.out
  have h2 := HC.out
  unfold Arc at h1
  unfold Clu at h2
  rw [hp', h2] at h1; cases h1

set_option maxHeartbeats 4000000 in
set_option maxRecDepth 100000 in
theorem adown_ok {w : World} {B c : Nat} {sv uv : Value} {clock : Nat} {ev : Value} {X : List Nat} {up : Nat → Bool} {a u k e0 m o : Nat} {n wn : ByteArray} {s : ASt} (z i x : Nat)
    (h : AS w B c sv uv clock ev X up a u k e0 m o n wn s) (hz : Arc w z c) (hi : i < 3) (hxi : X[i]? = some x) (hup : up i = true) (hcl : clock ≤ 30000) :
    Calls Tryz.prog 33 #[.pointer (some ⟨z, 0, none⟩), .int .i64 i] w fun e w' => e = .returned (.int .i64 0) ∧ AS w' B c sv uv (clock + 1) ev X (fun q => if q = i then false else up q) a u k e0 m o n wn s ∧ Arc w' z c ∧ Frm (dfrm c x) w w' := by
  obtain ⟨nv, xs, nk, nf, nt, no, nn, h⟩ := h
  have HG := hid (down_ok h i x hi hxi hup (by omega))
  have HZ := hid hz
  have HC := hid h.clu
  have HX : Hid (∃ cs : Array Value, w.heap[x]? = some (.cells cs 79 (0, 0))) := by
    obtain ⟨hil, hie⟩ := List.getElem?_eq_some_iff.1 hxi
    have hat := h.ats i hil
    unfold SiteAt at hat
    rw [if_pos hup] at hat
    obtain ⟨d, s, r, hx, _⟩ := hat
    rw [hie] at hx
    exact ⟨_, hx⟩
  have z0 := cell_at (i := 0) hz
  clear h hz hxi hup
  go_enter Tryz.func33, Tryz.ntmps33
  go_wp2_with fail
  refine HG.out.mono ?_
  rintro e w1 ⟨rfl, hs1, hf1⟩
  have HS1 := hid hs1
  have HF1 := hid hf1
  clear hs1 hf1
  go_wp2_with fail
  go_ret
  refine ⟨rfl, ⟨nv, xs, nk, nf, nt, no, nn, HS1.out⟩, HZ.out.frm HF1.out fun hp => ?_, HF1.out⟩
  have h1 := HZ.out
  unfold Arc at h1
  rcases hp with hp | hp
  · have h2 := HC.out
    unfold Clu at h2
    rw [hp, h2] at h1; cases h1
  · obtain ⟨cs, hx⟩ := HX.out
    rw [hp, hx] at h1; cases h1

set_option maxHeartbeats 4000000 in
set_option maxRecDepth 100000 in
theorem astart_ok {w : World} {B c : Nat} {sv uv : Value} {clock : Nat} {ev : Value} {X : List Nat} {up : Nat → Bool} {a u k e0 m o : Nat} {n wn : ByteArray} {s : ASt} (z i x : Nat)
    (h : AS w B c sv uv clock ev X up a u k e0 m o n wn s) (hz : Arc w z c) (hi : i < 3) (hxi : X[i]? = some x) (hup : up i = false) (hcl : clock ≤ 30000) :
    Calls Tryz.prog 35 #[.pointer (some ⟨z, 0, none⟩), .int .i64 i, .slice none 0 0] w fun e w' => e = .returned (.int .i64 0) ∧ AS w' B c sv uv (clock + 1) ev X (fun q => if q = i then true else up q) a u k e0 m o n wn s ∧ Arc w' z c ∧ Frm (dfrm c x) w w' := by
  obtain ⟨nv, xs, nk, nf, nt, no, nn, h⟩ := h
  have HG := hid (start_ok h i x hi hxi hup (by omega))
  have HZ := hid hz
  have HC := hid h.clu
  have HX : Hid (∃ cs : Array Value, w.heap[x]? = some (.cells cs 79 (0, 0))) := by
    obtain ⟨hil, hie⟩ := List.getElem?_eq_some_iff.1 hxi
    have hat := h.ats i hil
    unfold SiteAt at hat
    rw [if_neg (by simp [hup])] at hat
    obtain ⟨d, sp, hx, _⟩ := hat
    rw [hie] at hx
    exact ⟨_, hx⟩
  have z0 := cell_at (i := 0) hz
  clear h hz hxi hup
  go_enter Tryz.func35, Tryz.ntmps35
  go_wp2_with fail
  refine HG.out.mono ?_
  rintro e w1 ⟨rfl, hs1, hf1⟩
  have HS1 := hid hs1
  have HF1 := hid hf1
  clear hs1 hf1
  go_wp2_with fail
  go_ret
  refine ⟨rfl, ⟨nv, xs, nk, nf, nt, no, nn, HS1.out⟩, HZ.out.frm HF1.out fun hp => ?_, HF1.out⟩
  have h1 := HZ.out
  unfold Arc at h1
  rcases hp with hp | hp
  · have h2 := HC.out
    unfold Clu at h2
    rw [hp, h2] at h1; cases h1
  · obtain ⟨cs, hx⟩ := HX.out
    rw [hp, hx] at h1; cases h1

set_option maxHeartbeats 4000000 in
set_option maxRecDepth 100000 in
theorem aagain_ok {w : World} {B c : Nat} {sv uv : Value} {clock : Nat} {ev : Value} {X : List Nat} {up : Nat → Bool} {a u k e0 m o : Nat} {n : ByteArray} {s fin : ASt} (z g : Nat)
    (h : AS w B c sv uv clock ev X up a u k e0 m o n n s) (hz : Arc w z c) (hp1 : s.ph = 1) (hnet : s.net.length ≤ 300) (h0 : 0 < (asksL s.H 3).length) (hr : ASt.runs up g ⟨s.net ++ asksM s.H, s.H, 1⟩ = some fin) (hp : fin.ph = 0 ∨ fin.ph = 1) (ho1 : 1 ≤ o) (ho : o ≤ 60000) (hn : NameOk n) (hcl : clock + g ≤ 30000) (he : e0 < m) (hmm : m ≤ 900) :
    Calls Tryz.prog 32 #[.pointer (some ⟨z, 0, none⟩)] w fun e w' => e = .returned (.int .i64 (if fin.ph = 0 then 41 else 61)) ∧ AS w' B c sv uv (clock + 1 + g) ev X up a u k e0 m o n n fin ∧ Arc w' z c ∧ Frm (wfrm B a) w w' := by
  have HG := hid (resend_ok h hp1 hn ho1 ho hnet h0 (by omega))
  have HH := hid h
  have HZ := hid hz
  have HR := hid hr
  have HP := hid hp
  have HN := hid hn
  have z0 := cell_at (i := 0) hz
  obtain ⟨E, hE⟩ : ∃ E : Int, E = (if fin.ph = 0 then 41 else 61) := ⟨_, rfl⟩
  rw [← hE]
  have HE := hid hE
  clear h hz hr hp hn hp1 hnet h0 hE
  go_enter Tryz.func32, Tryz.ntmps32
  go_wp2_with fail
  refine HG.out.mono ?_
  rintro e w1 ⟨rfl, hs1, hf1⟩
  have HF1 : Hid (Frm (wfrm B a) w w1) := by
    obtain ⟨nv, xs, nk, nf, nt, no, nn, h⟩ := HH.out
    exact h.toW hf1
  have HZ1 : Hid (Arc w1 z c) := HZ.out.wfrm HF1.out (HZ.out.ne HH.out.heard)
  have HRUN := hid (run_ok z g hs1 HZ1.out HR.out HP.out ho1 ho HN.out (by omega) he (by omega))
  rw [← HE.out] at HRUN
  clear hs1 hf1
  go_wp2_with fail
  refine HRUN.out.mono ?_
  rintro e w2 ⟨rfl, hs2, hz2, hf2⟩
  have H2 := hid (And.intro hs2 (And.intro hz2 hf2))
  clear hs2 hz2 hf2
  go_wp2_with fail
  go_ret
  obtain ⟨hs2, hz2, hf2⟩ := H2.out
  exact ⟨rfl, hs2, hz2, HF1.out.trans hf2 fun _ _ _ h => h⟩
end Go.Proofs.YtmakanmjdfpcmaaGreat
