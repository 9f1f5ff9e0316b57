/- Walks of package wire: sheet.num, sheet.text. -/
import Derived.Test.YtmakanmjdfpcmaaGreatBld
import Derived.Test.YtmakanmjdfpcmaaGreatBe
import Derived.Test.YtmakanmjdfpcmaaGreatN
import Derived.Deep.RegionWith
import Derived.IntWalk
namespace Go.Proofs.YtmakanmjdfpcmaaGreat
open Go.RowKit

theorem hasSheet : HasB 237 := ⟨by kernel_rfl, by decide⟩
theorem be_step (sz m n : Nat) (h : m < sz) : be (sz - (m + 1)) (n / 256 ^ (m + 1)) ++ [UInt8.ofNat (n / 256 ^ m % 256)] = be (sz - m) (n / 256 ^ m) := by
  obtain ⟨q, rfl⟩ : ∃ q, sz = m + 1 + q := ⟨sz - (m + 1), by omega⟩
  have e1 : m + 1 + q - (m + 1) = q := by omega
  have e2 : m + 1 + q - m = q + 1 := by omega
  rw [e1, e2, be, Nat.pow_succ, ← Nat.div_div_eq_div_mul]
theorem pow_256 (m : Nat) : (2 : Nat) ^ (8 * m) = 256 ^ m := by rw [Nat.pow_mul]

theorem run_shr_256 {P : Program} (n m : Nat) (hm : m ≤ 7) (w : World) : (Op.shift BinOp.shr IntKind.i64 (n : Int) IntKind.i64 (IntKind.i64.wrap (8 * (m : Int)))).run P w = .ok (.int .i64 ((n / 256 ^ m : Nat) : Int)) w := by
  have e : (8 * (m : Int)).toNat = 8 * m := by omega
  have h := shift_shr_i64 (x := (n : Int)) (yk := .i64) (y := 8 * (m : Int)) (by omega) (by omega)
  rw [IntWalk.i64_in _ (by omega), h, e, ← pow_256]
  push_cast
  rfl

set_option maxHeartbeats 1000000 in
set_option maxRecDepth 100000 in
theorem snum_any (B b n sz : Nat) (l : List UInt8) (w : World) (h : Bld 237 B w b l) (hB : B ≤ w.heap.size) (hbB : b < B) (hl : l.length ≤ 900000000) (hsz : sz ≤ 8) (hn : n < 4611686018427387904) :
    Calls Tryz.prog 145 #[.pointer (some ⟨b, 0, none⟩), .int .i64 n, .int .i64 sz] w fun e w' => e = .returned (.tuple #[]) ∧ Bld 237 B w' b (l ++ be sz n) ∧ Frm (bfr b B) w w' := by
  have HH := hid h
  clear h
  go_enter Tryz.func145, Tryz.ntmps145
  go_wp2
  go_loopg [6] sz (fun g i wr => ∃ i' : Int, i = .int .i64 i' ∧ i' + 1 = g ∧ (g : Int) ≤ sz ∧ Bld 237 B wr b (l ++ be (sz - g) (n / 256 ^ g)) ∧ Frm (bfr b B) w wr)
  case atStart =>
    refine ⟨_, rfl, by omega, by omega, ?_, Frm.refl _ _⟩
    rw [Nat.sub_self, be, List.append_nil]; exact HH.out
  case round =>
    obtain ⟨i', rfl, hg, hgs, hb, hf⟩ := hrel
    have HB := hid hb
    have HF := hid hf
    have HG := hid hg
    have hws : B ≤ wr.heap.size := Nat.le_trans hB hf.size
    clear hb hf hg
    by_cases h0 : 0 ≤ i'
    · obtain ⟨m, rfl⟩ := Int.eq_ofNat_of_zero_le h0
      have hm : gk = m + 1 := by have := HG.out; omega
      subst hm
      have hms : m < sz := by omega
      have hm8 : (8 * (m : Int)) ≤ 56 := by omega
      go_wp2
      have hll : (l ++ be (sz - (m + 1)) (n / 256 ^ (m + 1))).length ≤ 1000000000 := by simp; omega
      have hsh := run_shr_256 (P := Tryz.prog) n m (by omega)
      go_region_with (go_at_call 202; refine (wbyte_any hasSheet B b _ _ _ HB.out.drew (by simpa using hws) hbB hll ?_ ?_).mono ?_; (rw [IntKind.wrap_u8]; omega); (rw [IntKind.wrap_u8]; omega); rintro e w' ⟨rfl, hb2, hf2⟩; have HB2 := hid hb2; have HF2 := hid hf2; clear hb2 hf2)
      all_goals
        go_wp2
        go_roundg m
        case measure => omega
        case rel =>
          refine ⟨_, rfl, by omega, by omega, ?_, ?_⟩
          · have h1 := HB2.out
            have h2 : (IntKind.u8.wrap ((n : Int) / 256 ^ m)).toNat = n / 256 ^ m % 256 := by
              rw [IntKind.wrap_u8, show ((n : Int) / 256 ^ m) = ((n / 256 ^ m : Nat) : Int) from by push_cast; rfl]
              omega
            rw [h2, List.append_assoc, be_step _ _ _ hms] at h1
            exact h1
          · exact HF.out.trans ((Frm.refl _ _).drew.trans HF2.out fun _ _ _ h => h) fun _ _ _ h => h
    · have hm : gk = 0 := by have := HG.out; omega
      subst hm
      go_wp2
      go_end0
      have h1 := HB.out
      simp only [Nat.sub_zero, Nat.pow_zero, Nat.div_one] at h1
      exact ⟨rfl, h1, HF.out⟩
end Go.Proofs.YtmakanmjdfpcmaaGreat
