/- vitrinelaw25.awake; ArchiveNil: the walk. -/
import Derived.Test.YtmakanmjdfpcmaaGreatArc6
namespace Go.Proofs.YtmakanmjdfpcmaaGreat
open Go.RowKit

theorem Idle.still {w w' : World} {B c : Nat} {sv uv : Value} {clock : Nat} {ev : Value} {X : List Nat} {up : Nat → Bool} {u k e0 m op : Nat} (h : Idle w B c sv uv clock ev X up u k e0 m op) (hf : Frm nothing w w') : Idle w' B c sv uv clock ev X up u k e0 m op := by
  obtain ⟨nv, xs, hm, nk, nf, nt, no, nn, wn, a, H, h⟩ := h
  exact ⟨nv, xs, hm, nk, nf, nt, no, nn, wn, w'.heap.size, none, h.still hf.size hf⟩
theorem AS.baseC {w : World} {B c : Nat} {sv uv : Value} {clock : Nat} {ev : Value} {X : List Nat} {up : Nat → Bool} {a u k e0 m o : Nat} {n wn : ByteArray} {s : ASt}
    (h : AS w B c sv uv clock ev X up a u k e0 m o n wn s) : B ≤ c := by
  obtain ⟨nv, xs, nk, nf, nt, no, nn, h⟩ := h
  exact h.base.1
abbrev nb : ByteArray := ⟨#[98]⟩
def asks012 : ASt := ⟨[.ask 0, .ask 1, .ask 2], [], 1⟩
def upA : Nat → Bool := fun q => if q = 2 then false else if q = 0 then false else true
def upB : Nat → Bool := fun q => if q = 0 then true else if q = 2 then false else if q = 0 then false else true
theorem run1 : ASt.runs (fun _ => true) 6 ⟨[.ask 0, .ask 1, .ask 2], [], 1⟩ = some ⟨[], [1, 0], 0⟩ := by rfl
theorem run2 : ASt.runs (fun q => if q = 2 then false else (fun q => if q = 0 then false else (fun _ => true) q) q) 4 ⟨[.ask 0, .ask 1, .ask 2], [], 1⟩ = some ⟨[], [1], 1⟩ := by rfl
theorem run3 : ASt.runs (fun q => if q = 0 then true else (fun q => if q = 2 then false else (fun q => if q = 0 then false else (fun _ => true) q) q) q) 3 ⟨[] ++ asksM [1], [1], 1⟩ = some ⟨[], [0, 1], 0⟩ := by rfl

set_option maxHeartbeats 4000000 in
set_option maxRecDepth 100000 in
theorem aawake (w : World) : Calls Tryz.prog 37 #[] w fun e w' => e = .returned (.bool true) ∧ Frm nothing w w' := by
  go_enter Tryz.func37, Tryz.ntmps37
  go_wp2_with fail
  refine (anew_ok w).mono ?_
  rintro e w1 ⟨z, c, sv, uv, X, u, k, rfl, hz1, hzl, hi1, hX, hge, hf1⟩
  obtain ⟨x0, x1, x2, rfl⟩ : ∃ x0 x1 x2, X = [x0, x1, x2] := by
    match X, hX with
    | [x0, x1, x2], _ => exact ⟨x0, x1, x2, rfl⟩
  have hx0 := hge x0 (by simp)
  have hx2 := hge x2 (by simp)
  have HZ1 := hid hz1
  have HI1 := hid hi1
  have HF1 := hid hf1
  have HB := hid (And.intro hx0 hx2)
  clear hz1 hi1 hf1 hge hX hx0 hx2 hzl
  go_wp2_with fail
  refine (aput_none z na _ na_ok).mono ?_
  rintro e w2 ⟨rfl, hf2⟩
  have HZ2 : Hid (Arc w2 z c) := HZ1.out.frm hf2 fun h => h
  have HI2 := hid (HI1.out.still hf2)
  have HF2 : Hid (Frm nothing w w2) := HF1.out.trans hf2 fun _ _ _ h => h
  have HG3 := hid (aget_ok na z 6 HI2.out HZ2.out na_ok run1 (.inl rfl) (by omega) (by omega) (by omega))
  have HG3' : Hid (Calls Tryz.prog 28 #[.pointer (some ⟨z, 0, none⟩), .string na] w2 fun e w' => e = .returned (.tuple #[.string ⟨#[]⟩, .int .i64 41]) ∧ ∃ ev' a', w2.heap.size ≤ a' ∧ AS w' w.heap.size c sv uv 7 ev' [x0, x1, x2] (fun _ => true) a' u k 0 1 1 na na ⟨[], [1, 0], 0⟩ ∧ Arc w' z c ∧ Frm (wfrm w.heap.size a') w2 w') := HG3.out
  clear hf2 HG3
  go_wp2_with fail
  refine HG3'.out.mono ?_
  rintro e w3 ⟨rfl, ev3, a3, ha3, hs3, hz3, hf3⟩
  have HA3 := hid ha3
  have HS3 := hid hs3
  have HZ3 := hid hz3
  have HF3 := hid hf3
  have HD4 := hid (adown_ok z 0 x0 hs3 hz3 (by omega) rfl rfl (by omega))
  clear ha3 hs3 hz3 hf3
  go_wp2_with fail
  refine HD4.out.mono ?_
  rintro e w4 ⟨rfl, hs4, hz4, hf4⟩
  have HF4 := hid hf4
  have HD5 := hid (adown_ok z 2 x2 hs4 hz4 (by omega) rfl rfl (by omega))
  clear hs4 hz4 hf4
  go_wp2_with fail
  refine HD5.out.mono ?_
  rintro e w5 ⟨rfl, hs5, hz5, hf5⟩
  have HF5 := hid hf5
  have HG6 := hid (aget_ok na z 4 (hs5.idle rfl rfl) hz5 na_ok run2 (.inr rfl) (by omega) (by omega) (by omega))
  have HG6' : Hid (Calls Tryz.prog 28 #[.pointer (some ⟨z, 0, none⟩), .string na] w5 fun e w' => e = .returned (.tuple #[.string ⟨#[]⟩, .int .i64 61]) ∧ ∃ ev' a', w5.heap.size ≤ a' ∧ AS w' w.heap.size c sv uv 14 ev' [x0, x1, x2] (fun q => if q = 2 then false else (fun q => if q = 0 then false else (fun _ => true) q) q) a' u k 1 2 2 na na ⟨[], [1], 1⟩ ∧ Arc w' z c ∧ Frm (wfrm w.heap.size a') w5 w') := HG6.out
  clear hs5 hz5 hf5 HG6
  go_wp2_with fail
  refine HG6'.out.mono ?_
  rintro e w6 ⟨rfl, ev6, a6, ha6, hs6, hz6, hf6⟩
  have HA6 := hid ha6
  have HF6 := hid hf6
  have HBC := hid hs6.baseC
  have HG7 := hid (aget_busy nb z hs6 hz6 rfl (by omega) hs6.baseC)
  clear ha6 hs6 hz6 hf6
  go_wp2_with fail
  refine HG7.out.mono ?_
  rintro e w7 ⟨rfl, hs7, hz7, hf7⟩
  have HF7 := hid hf7
  have HG8 := hid (astart_ok z 0 x0 hs7 hz7 (by omega) rfl rfl (by omega))
  clear hs7 hz7 hf7
  go_wp2_with fail
  refine HG8.out.mono ?_
  rintro e w8 ⟨rfl, hs8, hz8, hf8⟩
  have HF8 := hid hf8
  have HG9 := hid (aagain_ok z 3 hs8 hz8 rfl (by decide) (by decide) run3 (.inl rfl) (by omega) (by omega) na_ok (by omega) (by omega) (by omega))
  have HG9' : Hid (Calls Tryz.prog 32 #[.pointer (some ⟨z, 0, none⟩)] w8 fun e w' => e = .returned (.int .i64 41) ∧ Frm (wfrm w.heap.size a6) w8 w') := HG9.out.mono fun e w' ⟨h1, _, _, h2⟩ => ⟨h1, h2⟩
  clear hs8 hz8 hf8 HG9
  go_wp2_with fail
  refine HG9'.out.mono ?_
  rintro e w9 ⟨rfl, hf9⟩
  have HF9 := hid hf9
  clear hf9
  go_wp2_with fail
  go_ret
  refine ⟨rfl, ?_⟩
  have hsz := HF2.out.size
  have hsz3 := HF3.out.size
  have hsz4 := HF4.out.size
  have hsz5 := HF5.out.size
  have ha3 := HA3.out
  have ha6 := HA6.out
  have hbc := HBC.out
  obtain ⟨hx0, hx2⟩ := HB.out
  have hq : ∀ a', w.heap.size ≤ a' → ∀ (q : Nat) (o : Obj), q < w.heap.size → wfrm w.heap.size a' q o → nothing q o := by
    intro a' ha q o hq hp
    rcases hp with hp | hp
    · omega
    · have := hp.1; omega
  have hd : ∀ x, w.heap.size ≤ x → ∀ (q : Nat) (o : Obj), q < w.heap.size → dfrm c x q o → nothing q o := by
    intro x hx q o hq hp
    rcases hp with hp | hp <;> omega
  have hc : ∀ (q : Nat) (o : Obj), q < w.heap.size → only c q o → nothing q o := by
    intro q o hq hp
    have hp' : q = c := hp
    omega
  exact (((((((HF2.out.trans HF3.out (hq a3 (by omega))).trans HF4.out (hd x0 hx0)).trans HF5.out (hd x2 hx2)).trans HF6.out (hq a6 (by omega))).trans HF7.out hc).trans HF8.out (hd x0 hx0)).trans HF9.out (hq a6 (by omega)))

set_option maxHeartbeats 4000000 in
set_option maxRecDepth 100000 in
theorem anil_any (s : ByteArray) (n : Int) (w : World) : Calls Tryz.prog 5 #[.string s, .int .i64 n] w fun e w' => e = .returned (.bool true) ∧ Frm nothing w w' := by
  go_enter Tryz.func5, Tryz.ntmps5
  go_wp2_with (first
    | (go_at_call 28; refine (za_get _ _).mono ?_; rintro e w' ⟨rfl, rfl⟩)
    | (go_at_call 29; refine (za_list _).mono ?_; rintro e w' ⟨rfl, rfl⟩)
    | (go_at_call 30; refine (za_repair _).mono ?_; rintro e w' ⟨rfl, rfl⟩)
    | (go_at_call 31; refine (za_put _ _ _).mono ?_; rintro e w' ⟨rfl, rfl⟩)
    | (go_at_call 32; refine (za_again _).mono ?_; rintro e w' ⟨rfl, rfl⟩)
    | (go_at_call 33; refine (za_down _ _).mono ?_; rintro e w' ⟨rfl, rfl⟩)
    | (go_at_call 34; refine (za_arm _ _ _).mono ?_; rintro e w' ⟨rfl, rfl⟩)
    | (go_at_call 35; refine (za_start _ _ _).mono ?_; rintro e w' ⟨rfl, rfl⟩)
    | (go_at_call 36; refine (za_compact _ _).mono ?_; rintro e w' ⟨rfl, rfl⟩)
    | (go_at_call 37; refine (aawake _).mono ?_; rintro e w14 ⟨rfl, hf14⟩; have HF14 := hid hf14; clear hf14))
  go_ret
  refine ⟨rfl, ?_⟩
  with_reducible repeat (first | exact Frm.refl _ _ | apply Frm.drew | apply Frm.drewN | apply Frm.alloc)
  refine Frm.trans (P := nothing) (Q := nothing) ?_ HF14.out fun _ _ _ h => h
  with_reducible repeat (first | exact Frm.refl _ _ | apply Frm.drew | apply Frm.drewN | apply Frm.alloc)
end Go.Proofs.YtmakanmjdfpcmaaGreat
