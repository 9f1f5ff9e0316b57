/- cluster: Resend, Result; client.Get while an operation goes on; archive's run. -/
import Derived.Test.YtmakanmjdfpcmaaGreatArc2
namespace Go.Proofs.YtmakanmjdfpcmaaGreat
open Go.RowKit

theorem AS.site {w w' : World} {B c : Nat} {sv uv : Value} {clock : Nat} {ev : Value} {X : List Nat} {up : Nat → Bool} {a u k e0 m o : Nat} {n wn : ByteArray} {s : ASt} {b : Bool} {i : Nat}
    (h : ∃ (nv : Value) (xs : List Value) (nk nf nt no : Nat) (nn : ByteArray), CS w B c sv uv nv clock ev X (fun q => if q = i then b else up q) a u k e0 (s.net.map (AM.msg o n)) m xs (cli 3 3 o s.ph (.map (some a)) nk nf nt no nn wn 41) (some s.H)) :
    AS w B c sv uv clock ev X (fun q => if q = i then b else up q) a u k e0 m o n wn s := h
def asksM (H : List Int) : List AM := (asksL H 3).map AM.ask
theorem asksM_msgs (H : List Int) (o : Nat) (n : ByteArray) : msgsC ((asksM H).map (AM.msg o n)) = asksC 3 o n (asksL H 3) := by
  simp [asksM, msgsC, asksC, List.flatMap_map, AM.msg, Function.comp_def]

set_option maxHeartbeats 4000000 in
set_option maxRecDepth 100000 in
theorem resend_ok {w : World} {B c : Nat} {sv uv : Value} {clock : Nat} {ev : Value} {X : List Nat} {up : Nat → Bool} {a u k e0 m o : Nat} {n : ByteArray} {s : ASt}
    (h : AS w B c sv uv clock ev X up a u k e0 m o n n s) (hp : s.ph = 1) (hn : NameOk n) (ho1 : 1 ≤ o) (ho : o ≤ 60000) (hs : s.net.length ≤ 300) (h0 : 0 < (asksL s.H 3).length) (hcl : clock ≤ 50000) :
    Calls Tryz.prog 19 #[.pointer (some ⟨c, 0, none⟩), .int .i64 0] w fun e w' => e = .returned (.int .i64 0) ∧ AS w' B c sv uv (clock + 1) ev X up a u k e0 m o n n ⟨s.net ++ asksM s.H, s.H, 1⟩ ∧ Frm (sfrm B c) w w' := by
  obtain ⟨nv, xs, nk, nf, nt, no, nn, h⟩ := h
  rw [hp] at h
  have HH := hid h
  obtain ⟨gu, ucap, rfl⟩ := own_some h.users (by omega)
  have HP := hid (people_ok c 1 ucap (some ⟨gu, 0, none⟩) sv nv ev clock w h.clu (by omega))
  have HT : Hid (Calls Tryz.prog 47 #[.pointer (some ⟨c, 0, none⟩), .int .i64 1, .slice (some ⟨w.heap.size, 0, none⟩) 1 1] (w.alloc (.cells #[.int .i64 0] 3)) fun e w' => e = .returned (.int .i64 0) ∧ Clu w' c sv (.slice (some ⟨gu, 0, none⟩) 1 ucap) nv (clock + 1) ev ∧ Frm (only c) (w.alloc (.cells #[.int .i64 0] 3)) w') :=
    tick_ok c w.heap.size sv _ _ ev clock 1 0 _ (heap_old h.clu) (heap_new w _) (by omega) (by omega) (by omega)
  have HPH := hid hp
  have HB := hid (And.intro ho1 (And.intro ho (And.intro hs h0)))
  clear h hp ho1 ho hs h0
  go_enter Tryz.func19, Tryz.ntmps19
  go_wp2_with fail
  refine HP.out.mono ?_
  rintro e w' ⟨rfl, rfl⟩
  go_wp2_with fail
  refine HT.out.mono ?_
  rintro e w1 ⟨rfl, hc1, hf1⟩
  have hF1 : Frm (only c) w w1 := ((Frm.refl _ _).alloc _).trans hf1 fun _ _ _ h => h
  have HS1 := hid (HH.out.ticked hc1 hF1)
  have HF1 := hid hF1
  clear hc1 hf1 hF1
  have c1 := cell_at (i := 1) HS1.out.clu
  have hrow := row_cell HS1.out.users 0 (.pointer (some ⟨u, 0, none⟩)) rfl
  have u0 := cell_at (i := 0) HS1.out.user
  have hcl := heap_lt HS1.out.clu
  have hul := heap_lt HS1.out.user
  have hgl := own_lt HS1.out.users
  have HR := hid (resend_asks k 3 3 o nk nf nt no 41 a s.H nn n w1 HS1.out.cli (HS1.out.heard _ rfl) (by omega))
  go_wp2_with fail
  refine HR.out.mono ?_
  rintro e w2 ⟨v, rfl, ho2, hf2⟩
  have HS2 := hid (HS1.out.same hf2)
  have HF2 := hid hf2
  obtain ⟨g, cap, rfl⟩ := own_some (own_base ho2) HB.out.2.2.2
  have hl : (asksL s.H 3).length = ((asksM s.H).map (AM.msg o n)).length := by simp [asksM]
  have HSE := hid (send_ok B c g cap ((asksM s.H).map (AM.msg o n)) (s.net.map (AM.msg o n)) _ _ _ _ (clock + 1) w2 HS2.out.clu HS2.out.net (by rw [asksM_msgs, ← hl]; exact own_base ho2) (by
    intro q hq
    simp [asksM] at hq
    obtain ⟨j, hj, rfl⟩ := hq
    have hj3 : j < 3 := by simp [asksL] at hj; exact hj.1
    exact ⟨by show 1 ≤ 1; omega, by show 1 ≤ 4; omega, by show 3 ≤ 1023; omega, by show j ≤ 1023; omega, HB.out.2.1, hn⟩) (by
    have h1 := asksL_len s.H 3
    have h2 := HB.out.2.2.1
    simp [asksM]; omega) HH.out.base.1)
  rw [← hl] at HSE
  clear ho2 hf2 hl c1 hrow u0 hcl hul hgl
  go_wp2_with fail
  refine HSE.out.mono ?_
  rintro e w4 ⟨rfl, nv', hc4, hn4, hf4⟩
  have HS4 := hid (HS2.out.sent (net' := s.net.map (AM.msg o n) ++ (asksM s.H).map (AM.msg o n)) hf4 hc4 hn4)
  have HF4 := hid hf4
  clear hc4 hn4 hf4
  go_wp2_with fail
  go_ret
  refine ⟨rfl, ⟨nv', xs, nk, nf, nt, no, nn, ?_⟩, ((HF1.out.mono fun _ _ _ h => .inl h).trans HF2.out fun _ _ _ h => h.elim).trans HF4.out fun _ _ _ h => h⟩
  have := HS4.out
  rw [← List.map_append] at this
  exact this

set_option maxHeartbeats 4000000 in
set_option maxRecDepth 100000 in
theorem result_ok {w : World} {B c : Nat} {sv uv : Value} {clock : Nat} {ev : Value} {X : List Nat} {up : Nat → Bool} {a u k e0 m o : Nat} {n wn : ByteArray} {s : ASt}
    (h : AS w B c sv uv clock ev X up a u k e0 m o n wn s) (hp : s.ph = 0 ∨ s.ph = 1) :
    Calls Tryz.prog 14 #[.pointer (some ⟨c, 0, none⟩), .int .i64 0] w fun e w' => e = .returned (.tuple #[.agg #[.int .i64 0, .int .i64 0], .string ⟨#[]⟩, .slice none 0 0, .int .i64 (if s.ph = 0 then 41 else 61)]) ∧ Frm nothing w w' := by
  obtain ⟨nv, xs, nk, nf, nt, no, nn, h⟩ := h
  obtain ⟨gu, ucap, rfl⟩ := own_some h.users (by omega)
  have HR : Hid (∀ w', Frm nothing w w' → Calls Tryz.prog 52 #[.pointer (some ⟨k, 0, none⟩)] w' fun e w'' => e = .returned (.tuple #[.agg #[.int .i64 0, .int .i64 0], .string ⟨#[]⟩, .slice none 0 0, .int .i64 (if s.ph = 0 then 41 else 61)]) ∧ Frm nothing w' w'') := by
    intro w' hf
    rcases hp with hp | hp
    · rw [if_pos hp]; exact cresult_none k _ w' (hf.keep h.cli fun h => h) (by rw [hp]; rfl) rfl
    · rw [if_neg (by omega)]; exact cresult_busy k _ w' (hf.keep h.cli fun h => h) (by rw [hp]; rfl)
  obtain ⟨E, hE⟩ : ∃ E : Int, E = (if s.ph = 0 then 41 else 61) := ⟨_, rfl⟩
  rw [← hE] at HR ⊢
  have c1 := cell_at (i := 1) h.clu
  have hrow := row_cell h.users 0 (.pointer (some ⟨u, 0, none⟩)) rfl
  have u0 := cell_at (i := 0) h.user
  have hcl := heap_lt h.clu
  have hul := heap_lt h.user
  have hgl := own_lt h.users
  clear h hp hE
  go_enter Tryz.func14, Tryz.ntmps14
  go_wp2_with fail
  refine (HR.out _ (by with_reducible repeat (first | exact Frm.refl _ _ | apply Frm.drew | apply Frm.drewN | apply Frm.alloc))).mono ?_
  rintro e w1 ⟨rfl, hf1⟩
  have HF1 : Hid (Frm nothing w w1) := Frm.trans (w := _) (by with_reducible repeat (first | exact Frm.refl _ _ | apply Frm.drew | apply Frm.drewN | apply Frm.alloc)) hf1 fun _ _ _ h => h
  have hb1 := hf1.keep (k := w.heap.size) (o := .cells #[.int .i64 0, .int .i64 0] 40 (0, 0)) (heap_new w _) (fun h => h)
  have v0 := cell_at (i := 0) hb1
  have v1 := cell_at (i := 1) hb1
  have g0 := free_at hb1 0
  have g1 := free_at hb1 1
  have HB1 := hid hb1
  clear hf1 hb1
  go_wp2_with fail
  have hs0 := setCell_same (i := 0) (v := .int .i64 0) HB1.out rfl
  have hs1 := setCell_same (i := 1) (v := .int .i64 0) hs0 rfl
  have q0 := cell_at (i := 0) hs0
  have q1 := cell_at (i := 1) hs1
  have q2 := cell_at (i := 0) hs1
  have hsl := heap_lt HB1.out
  refine bodyPost_ret (v := .tuple #[.agg #[.int .i64 0, .int .i64 0], .string ⟨#[]⟩, .slice none 0 0, .int .i64 E]) (by simp [results, Tryz.results14, go_sem, q0, q1, q2, hsl]) rfl ?_
  refine ⟨rfl, ?_⟩
  have hn : ∀ o, w.heap[w.heap.size]? = some o → nothing w.heap.size o := fun o ho => absurd (heap_lt ho) (Nat.lt_irrefl _)
  with_reducible repeat (first | exact HF1.out | refine Frm.setCell ?_ _ _ hn | apply Frm.drew | apply Frm.drewN | apply Frm.alloc)
end Go.Proofs.YtmakanmjdfpcmaaGreat
