/- archive: run, Get, Down, Start, Again. -/
import Derived.Test.YtmakanmjdfpcmaaGreatArc3
namespace Go.Proofs.YtmakanmjdfpcmaaGreat
open Go.RowKit

/-- block z is an archive of the cluster at block c -/
def Arc (w : World) (z c : Nat) : Prop := w.heap[z]? = some (.cells #[.pointer (some ⟨c, 0, none⟩), .int .i64 1] 127 (0, 0))
theorem Arc.frm {w w' : World} {z c : Nat} {P : Nat → Obj → Prop} (h : Arc w z c) (hf : Frm P w w') (hP : ¬ P z (.cells #[.pointer (some ⟨c, 0, none⟩), .int .i64 1] 127 (0, 0))) : Arc w' z c := hf.block _ _ h hP
theorem Arc.wfrm {w w' : World} {z c B a : Nat} (h : Arc w z c) (hf : Frm (wfrm B a) w w') (ha : z ≠ a) : Arc w' z c := h.frm hf fun hp => by
  rcases hp with hp | hp
  · exact ha hp
  · simp [Obj.ty] at hp
theorem Arc.ne {w : World} {z c a : Nat} {H : List Int} (h : Arc w z c) (hh : Heard w a H) : z ≠ a := fun e => by
  subst e; exact hh.na _ _ _ h
theorem AS.heard {w : World} {B c : Nat} {sv uv : Value} {clock : Nat} {ev : Value} {X : List Nat} {up : Nat → Bool} {a u k e0 m o : Nat} {n wn : ByteArray} {s : ASt}
    (h : AS w B c sv uv clock ev X up a u k e0 m o n wn s) : Heard w a s.H := by
  obtain ⟨nv, xs, nk, nf, nt, no, nn, h⟩ := h
  exact h.heard _ rfl
theorem AS.netc {w : World} {B c : Nat} {sv uv : Value} {clock : Nat} {ev : Value} {X : List Nat} {up : Nat → Bool} {a u k e0 m o : Nat} {n wn : ByteArray} {s : ASt}
    (h : AS w B c sv uv clock ev X up a u k e0 m o n wn s) (hl : s.net.length ≤ 300) : Calls Tryz.prog 20 #[.pointer (some ⟨c, 0, none⟩)] w fun e w' => e = .returned (.int .i64 s.net.length) ∧ w = w' := by
  obtain ⟨nv, xs, nk, nf, nt, no, nn, h⟩ := h
  obtain ⟨ao, cap, rfl⟩ := ownRow_form h.net
  have := net_ok c _ cap ao sv uv ev clock w h.clu (by simp; omega)
  simpa using this

set_option maxHeartbeats 4000000 in
set_option maxRecDepth 100000 in
theorem run_ok {w : World} {B c : Nat} {sv uv : Value} {clock : Nat} {ev : Value} {X : List Nat} {up : Nat → Bool} {a u k e0 m o : Nat} {n wn : ByteArray} {s fin : ASt} (z g : Nat)
    (h : AS w B c sv uv clock ev X up a u k e0 m o n wn s) (hz : Arc w z c) (hr : s.runs up g = some fin) (hp : fin.ph = 0 ∨ fin.ph = 1) (ho1 : 1 ≤ o) (ho : o ≤ 60000) (hn : NameOk n) (hcl : clock + g ≤ 40000) (he : e0 < m) (hmm : m ≤ 1000) :
    Calls Tryz.prog 70 #[.pointer (some ⟨z, 0, none⟩)] w fun e w' => e = .returned (.int .i64 (if fin.ph = 0 then 41 else 61)) ∧ AS w' B c sv uv (clock + g) ev X up a u k e0 m o n wn fin ∧ Arc w' z c ∧ Frm (wfrm B a) w w' := by
  have HH := hid h
  have HZ := hid hz
  have HR := hid hr
  have HP := hid hp
  have HN := hid hn
  obtain ⟨E, hE⟩ : ∃ E : Int, E = (if fin.ph = 0 then 41 else 61) := ⟨_, rfl⟩
  rw [← hE]
  have HE := hid hE
  clear h hz hr hp hn hE
  go_enter Tryz.func70, Tryz.ntmps70
  go_wp2_with fail
  go_loopg [] g (fun q wr => ∃ (s' : ASt) (cl' : Nat), Hid (AS wr B c sv uv cl' ev X up a u k e0 m o n wn s') ∧ Hid (s'.runs up q = some fin) ∧ Hid (cl' + q = clock + g) ∧ Hid (Arc wr z c) ∧ Hid (Frm (wfrm B a) w wr))
  case atStart => exact ⟨s, clock, HH.out, HR.out, rfl, HZ.out, Frm.refl _ _⟩
  case round =>
    obtain ⟨s', cl', HS, HRS, HCL, HZ1, HF⟩ := hrel
    have hclb : cl' ≤ 40000 := by have := HCL.out; omega
    have z0 := cell_at (i := 0) HZ1.out
    rcases gk with _ | q
    · have hr0 := HRS.out
      unfold ASt.runs at hr0
      split at hr0
      · rename_i hemp
        cases hr0
        have hnet : fin.net = [] := by simpa using hemp
        have HNC := hid (HS.out.netc (by simp [hnet]))
        have HNL : Hid (fin.net.length = 0) := by show fin.net.length = 0; simp [hnet]
        rw [HNL.out] at HNC
        clear hemp hnet
        go_wp2_with fail
        refine HNC.out.mono ?_
        rintro e w' ⟨rfl, rfl⟩
        go_wp2_with fail
        have hres := result_ok HS.out HP.out
        rw [← HE.out] at hres
        refine hres.mono ?_
        rintro e w2 ⟨rfl, hf2⟩
        have HF2 := hid (hf2.alloc (.cells #[.int .i64 0, .int .i64 0] 40))
        clear hf2 hres
        go_wp2_with fail
        go_ret
        refine ⟨rfl, ?_, HZ1.out.frm HF2.out fun h => h, HF.out.trans HF2.out fun _ _ _ h => h.elim⟩
        obtain ⟨nv, xs, nk, nf, nt, no, nn, hs⟩ := HS.out
        have hcl2 : cl' = clock + g := by have := HCL.out; omega
        subst hcl2
        exact ⟨nv, xs, nk, nf, nt, no, nn, hs.same HF2.out⟩
      · cases hr0
    · have hr0 := HRS.out
      unfold ASt.runs at hr0
      split at hr0
      · cases hr0
      · rename_i s2 hst
        have hpos : 0 < s'.net.length ∧ s'.net.length ≤ 201 := by
          unfold ASt.step at hst
          split at hst
          · cases hst
          · rename_i heq; split at hst
            · rw [heq]; simp; omega
            · cases hst
          · rename_i heq; split at hst
            · rw [heq]; simp; omega
            · cases hst
        have HST := hid hst
        have HR2 := hid hr0
        have HNC := hid (HS.out.netc (by omega))
        obtain ⟨L, hL⟩ : ∃ L, L = s'.net.length := ⟨_, rfl⟩
        rw [← hL] at HNC hpos
        clear hst hr0 hL
        have hL1 : 0 < L := hpos.1
        have hL2 : ¬ (L : Int) ≤ 0 := by omega
        have hL3 : decide ((0 : Int) < (L : Int)) = true := by simp; omega
        have hL4 : decide (0 < L) = true := by simp; omega
        go_wp2_with fail
        refine HNC.out.mono ?_
        rintro e w' ⟨rfl, rfl⟩
        go_wp2_with fail
        refine (deliver_any HS.out HST.out ho1 ho HN.out (by omega) he hmm).mono ?_
        rintro e w2 ⟨rfl, hs2, hf2⟩
        have HS2 := hid hs2
        have HF2 := hid hf2
        clear hs2 hf2
        go_wp2_with fail
        go_roundg q
        case measure => omega
        case rel =>
          exact ⟨s2, cl' + 1, HS2.out, HR2.out, by show cl' + 1 + q = clock + g; have := HCL.out; omega, HZ1.out.wfrm HF2.out (HZ1.out.ne HS.out.heard), HF.out.trans HF2.out fun _ _ _ h => h⟩
end Go.Proofs.YtmakanmjdfpcmaaGreat
