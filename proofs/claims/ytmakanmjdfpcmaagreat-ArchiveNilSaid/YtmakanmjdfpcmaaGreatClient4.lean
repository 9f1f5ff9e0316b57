/- Walks of package client: most, tell. -/
import Derived.Test.YtmakanmjdfpcmaaGreatClient3
import Derived.Test.YtmakanmjdfpcmaaGreatNewer
namespace Go.Proofs.YtmakanmjdfpcmaaGreat
open Go.RowKit

set_option maxHeartbeats 1000000 in
theorem most_any (k id rep op ph nk nf nt no en hb : Nat) (H : List Int) (nn wn : ByteArray) (w : World) (hk : Cli w k (cli id rep op ph (.map (some hb)) nk nf nt no nn wn en)) (hH : Heard w hb H) (hl : H.length ≤ 1000) (hr : rep ≤ 15) :
    Calls Tryz.prog 151 #[.pointer (some ⟨k, 0, none⟩)] w fun e w' => e = .returned (.bool (decide ((rep : Int) < 2 * H.length))) ∧ w' = w.drew := by
  have c1 := cell_at (i := 1) hk
  have c5 := cell_at (i := 5) hk
  have hlen := fun ty => hH.drew.len ty
  clear hk hH
  go_enter Tryz.func151, Tryz.ntmps151
  go_wp2
  go_region
  all_goals
    go_wp2
    go_ret
    exact ⟨rfl, rfl⟩

theorem newerB_zero : newerB 0 0 0 0 = false := by decide
theorem newer_zero (w : World) : Calls Tryz.prog 134 #[.agg #[.int .i64 0, .int .i64 0], .agg #[.int .i64 0, .int .i64 0]] w fun e w' => e = .returned (.bool false) ∧ Frm nothing w w' := by
  have h := newer_any 0 0 0 0 w
  rw [newerB_zero] at h
  exact h
theorem abs_world {P : Program} {c : Code} {Q : Exit → Act → World → Prop} {a : Act} {W : World} (h : ∀ W', W' = W → Code.wp P c Q a W') : Code.wp P c Q a W := h W rfl

set_option maxHeartbeats 4000000 in
set_option maxRecDepth 100000 in
theorem tell_any (k id rep op nk nf nt no en hb f o : Nat) (H : List Int) (nn wn n : ByteArray) (w : World) (hk : Cli w k (cli id rep op 1 (.map (some hb)) nk nf nt no nn wn en)) (hH : Heard w hb H) (hl : H.length ≤ 900) (hr : rep ≤ 15) (hf : (f : Int) ∉ H) (hf2 : f ≤ 1000) :
    Calls Tryz.prog 107 #[.pointer (some ⟨k, 0, none⟩), msgV 2 f id o n] w fun e w' => ∃ last nk nf nt no ph en' nn, last = decide ((rep : Int) < 2 * ((H.length + 1 : Nat) : Int)) ∧ e = .returned (.tuple #[.slice none 0 0, .bool last]) ∧ ph = (if last = true then 0 else 1) ∧ en' = (if last = true then 41 else en) ∧
      Cli w' k (cli id rep op ph (.map (some hb)) nk nf nt no nn wn en') ∧ Heard w' hb ((f : Int) :: H) ∧ Frm (fun q _ => q = k ∨ q = hb) w w' := by
  have hkl := heap_lt hk
  have HK := hid hk
  have HH := hid hH
  clear hk hH
  go_enter Tryz.func107, Tryz.ntmps107
  go_wp2_with fail
  refine (join_none _).mono ?_
  rintro e w1 ⟨rfl, hf1⟩
  have hm1 := hf1.keep (heap_new w (.cells (msgC 2 f id o n) 117)) (fun h => h)
  have hk1 : Cli w1 k _ := hf1.keep (heap_old HK.out) (fun h => h)
  have HK1 := hid hk1
  have HM1 := hid hm1
  have HF1 := hid (((Frm.refl nothing w).alloc (.cells (msgC 2 f id o n) 117)).trans hf1 fun _ _ _ h => h)
  have HH1 := hid (HH.out.frm HF1.out (fun _ _ h => h))
  have hml := heap_lt hm1
  have hk1l := heap_lt hk1
  obtain ⟨m0, m1, m2, m3, m4, m5, m6, m7, m8, _⟩ := cells9 hm1
  have c5 := cell_at (i := 5) hk1
  have c6 := cell_at (i := 6) hk1
  have c7 := cell_at (i := 7) hk1
  have c8 := cell_at (i := 8) hk1
  have c9 := cell_at (i := 9) hk1
  have c10 := cell_at (i := 10) hk1
  have c11 := cell_at (i := 11) hk1
  have c12 := cell_at (i := 12) hk1
  have c13 := cell_at (i := 13) hk1
  have c14 := cell_at (i := 14) hk1
  have f6 := free_at hk1 6
  have f7 := free_at hk1 7
  have f8 := free_at hk1 8
  have f9 := free_at hk1 9
  have f10 := free_at hk1 10
  have f11 := free_at hk1 11
  have f12 := free_at hk1 12
  have f13 := free_at hk1 13
  have f14 := free_at hk1 14
  have hlen := fun o ty => ((HH1.out.frm ((Frm.refl nothing w1).alloc o) (fun _ _ h => h)).drew).len ty
  clear hf1 hm1 hk1
  have HFN := hid hf
  have HNE : Hid (hb ≠ k) := by
    rintro rfl
    obtain ⟨_, _, ⟨es, c, hx, _⟩, _⟩ := HH1.out
    have h2 := HK1.out
    unfold Cli at h2
    rw [hx] at h2
    cases h2
  have HMN : Hid (w.heap.size ≠ k) := by show _ ≠ _; omega
  clear hf
  by_cases h0 : H.length = 0
  · have h0b : (((H.length : Nat) : Int) == 0) = true := by simp [h0]
    go_wp2_with fail
    go_region
    all_goals
      go_wp2_with (go_at_call 90; refine (clone_nil _).mono ?_; rintro e w' ⟨rfl, rfl⟩)
      refine abs_world ?_
      intro W hW
      have hfW : Frm (only k) w1 W := by
        rw [hW]
        repeat (first | with_reducible exact Frm.refl _ _ | with_reducible apply Frm.drew | with_reducible apply Frm.alloc | with_reducible (refine Frm.setCell ?_ _ _ fun _ _ => rfl))
      have hkW : Cli W k (cli id rep op 1 (.map (some hb)) 2 f id o n wn en) := by
        have h := HK1.out
        unfold Cli at h ⊢
        rw [hW]
        apply heap_drew_alloc
        simp only [World.setCell, Array.getElem?_modify, if_true, h, Option.map_some, Option.isSome_none, Bool.false_eq_true, if_false]
        kernel_rfl
      clear h0b
      have HWF := hid hfW
      have HWK := hid hkW
      clear hW
      have hHW := HH1.out.frm hfW (fun es c hp => HNE.out hp)
      obtain ⟨w2, hrun, hH2, hf2⟩ := hHW.drew.store (f : Int) (by simp [Lit.wf, IntKind.min, IntKind.max, IntKind.signed, IntKind.bits]; omega) HFN.out (by omega)
      clear c5 c6 c7 c8 c9 c10 c11 c12 c13 c14 m0 m1 m2 m3 m4 m5 m6 m7 m8
      have c5 := cell_at (i := 5) hkW
      have m1 := cell_at (i := 1) (hfW.keep HM1.out (fun hp => HMN.out hp))
      have hk2 : Cli w2 k (cli id rep op 1 (.map (some hb)) 2 f id o n wn en) := hf2.keep (w := W.drew) hkW (fun hp => HNE.out hp.symm)
      have HK2 := hid hk2
      have HH2 := hid hH2
      have HF2 := hid hf2
      have HMO := hid (most_any k id rep op 1 2 f id o en hb _ n wn w2 hk2 hH2 (by simp; omega) hr)
      clear hfW hkW hHW hH2 hf2 hk2
      go_region
      all_goals
        go_wp2_with fail
        clear hrun c5 m1
        refine HMO.out.mono ?_
        rintro e w3 ⟨rfl, rfl⟩
        have HFF : Hid (Frm (fun q _ => q = k ∨ q = hb) w w2) := ((HF1.out.mono fun _ _ _ h => h.elim).trans HWF.out fun q o _ hp => .inl hp).drew.trans HF2.out fun q o _ hp => .inr hp
        by_cases hlast : (rep : Int) < 2 * ((H.length + 1 : Nat) : Int)
        · have hd : decide ((rep : Int) < 2 * (((f : Int) :: H).length : Nat)) = true := by simpa using hlast
          rw [hd]
          have HD : Hid (true = decide ((rep : Int) < 2 * ((H.length + 1 : Nat) : Int))) := by show true = _; simpa using hlast
          clear hd hlast
          have e4 := cell_at (i := 4) HK2.out
          have e11 := cell_at (i := 11) HK2.out
          have HE := hid (ends_ok k id rep op 2 f id o en (.map (some hb)) n wn w2.drew HK2.out)
          go_wp2_with (go_at_call 152; refine HE.out.mono ?_; rintro e w4 ⟨rfl, hk4, hf4⟩; have HK4 := hid hk4; have HF4 := hid hf4; clear hk4 hf4)
          go_ret2
          exact ⟨_, _, _, _, _, _, _, _, HD.out, rfl, rfl, rfl, HK4.out, HH2.out.drew.frm HF4.out (fun es c hp => HNE.out hp), (HFF.out.drew).trans HF4.out fun q o _ hp => .inl hp⟩
        · have hd : decide ((rep : Int) < 2 * (((f : Int) :: H).length : Nat)) = false := by simpa using hlast
          rw [hd]
          have HD : Hid (false = decide ((rep : Int) < 2 * ((H.length + 1 : Nat) : Int))) := by show false = _; simpa using hlast
          clear hd hlast
          go_wp2
          go_ret2
          exact ⟨_, _, _, _, _, _, _, _, HD.out, rfl, rfl, rfl, HK2.out, HH2.out, HFF.out.drew⟩
  · have h0b : (((H.length : Nat) : Int) == 0) = false := by simpa using h0
    go_wp2_with fail
    go_region_held3 (fun w' => w'.cell? ⟨k, 5, none⟩ = some (.map (some hb)) ∧ w'.cell? ⟨k, 11, none⟩ = some (.int .i64 0) ∧ w'.cell? ⟨k, 12, none⟩ = some (.int .i64 0) ∧ w'.cell? ⟨w.heap.size, 5, none⟩ = some (.int .i64 0) ∧ w'.cell? ⟨w.heap.size, 6, none⟩ = some (.int .i64 0) ∧ (∀ ty, (Builtin.len_ #[145] ty #[.map (some hb)]).run Tryz.prog w' = .ok (.int .i64 (H.length : Nat)) w')) (first | exact ⟨g5, g11, g12, q5, q6, gl⟩ | go_keep) (first | (go_at_call 134; refine (newer_zero _).mono ?_; rintro e w5 ⟨rfl, hf5⟩; have hk5 := hf5.keep (heap_drew_alloc HK1.out) (fun h => h); have hm5 := hf5.keep (heap_drew_alloc HM1.out) (fun h => h); have g5 := cell_at (i := 5) hk5; have g11 := cell_at (i := 11) hk5; have g12 := cell_at (i := 12) hk5; have q5 := cell_at (i := 5) hm5; have q6 := cell_at (i := 6) hm5; have gl := fun ty => ((HH1.out.frm (((Frm.refl nothing w1).alloc _).drew.trans hf5 fun _ _ _ h => h) (fun _ _ h => h))).len ty; have HF5 := hid ((((Frm.refl nothing w1).alloc _).drew).trans hf5 fun _ _ _ h => h); clear hf5 hk5 hm5))
    all_goals
      go_wp2_with fail
      refine abs_world ?_
      intro W hW
      have hfW : Frm (only k) w1 W := by rw [hW]; exact HF5.out.mono fun _ _ _ h => h.elim
      have hkW : Cli W k (cli id rep op 1 (.map (some hb)) nk nf nt no nn wn en) := by rw [hW]; exact HF5.out.keep HK1.out (fun h => h)
      clear h0b g5 g11 g12 q5 q6 gl
      have HWF := hid hfW
      have HWK := hid hkW
      clear hW
      have hHW := HH1.out.frm hfW (fun es c hp => HNE.out hp)
      obtain ⟨w2, hrun, hH2, hf2⟩ := hHW.drew.store (f : Int) (by simp [Lit.wf, IntKind.min, IntKind.max, IntKind.signed, IntKind.bits]; omega) HFN.out (by omega)
      clear c5 c6 c7 c8 c9 c10 c11 c12 c13 c14 m0 m1 m2 m3 m4 m5 m6 m7 m8
      have c5 := cell_at (i := 5) hkW
      have m1 := cell_at (i := 1) (hfW.keep HM1.out (fun hp => HMN.out hp))
      have hk2 : Cli w2 k (cli id rep op 1 (.map (some hb)) nk nf nt no nn wn en) := hf2.keep (w := W.drew) hkW (fun hp => HNE.out hp.symm)
      have HK2 := hid hk2
      have HH2 := hid hH2
      have HF2 := hid hf2
      have HMO := hid (most_any k id rep op 1 nk nf nt no en hb _ nn wn w2 hk2 hH2 (by simp; omega) hr)
      clear hfW hkW hHW hH2 hf2 hk2
      go_region
      all_goals
        go_wp2_with fail
        clear hrun c5 m1
        refine HMO.out.mono ?_
        rintro e w3 ⟨rfl, rfl⟩
        have HFF : Hid (Frm (fun q _ => q = k ∨ q = hb) w w2) := ((HF1.out.mono fun _ _ _ h => h.elim).trans HWF.out fun q o _ hp => .inl hp).drew.trans HF2.out fun q o _ hp => .inr hp
        by_cases hlast : (rep : Int) < 2 * ((H.length + 1 : Nat) : Int)
        · have hd : decide ((rep : Int) < 2 * (((f : Int) :: H).length : Nat)) = true := by simpa using hlast
          rw [hd]
          have HD : Hid (true = decide ((rep : Int) < 2 * ((H.length + 1 : Nat) : Int))) := by show true = _; simpa using hlast
          clear hd hlast
          have e4 := cell_at (i := 4) HK2.out
          have e11 := cell_at (i := 11) HK2.out
          have HE := hid (ends_ok k id rep op nk nf nt no en (.map (some hb)) nn wn w2.drew HK2.out)
          go_wp2_with (go_at_call 152; refine HE.out.mono ?_; rintro e w4 ⟨rfl, hk4, hf4⟩; have HK4 := hid hk4; have HF4 := hid hf4; clear hk4 hf4)
          go_ret2
          exact ⟨_, _, _, _, _, _, _, _, HD.out, rfl, rfl, rfl, HK4.out, HH2.out.drew.frm HF4.out (fun es c hp => HNE.out hp), (HFF.out.drew).trans HF4.out fun q o _ hp => .inl hp⟩
        · have hd : decide ((rep : Int) < 2 * (((f : Int) :: H).length : Nat)) = false := by simpa using hlast
          rw [hd]
          have HD : Hid (false = decide ((rep : Int) < 2 * ((H.length + 1 : Nat) : Int))) := by show false = _; simpa using hlast
          clear hd hlast
          go_wp2
          go_ret2
          exact ⟨_, _, _, _, _, _, _, _, HD.out, rfl, rfl, rfl, HK2.out, HH2.out, HFF.out.drew⟩
end Go.Proofs.YtmakanmjdfpcmaaGreat
