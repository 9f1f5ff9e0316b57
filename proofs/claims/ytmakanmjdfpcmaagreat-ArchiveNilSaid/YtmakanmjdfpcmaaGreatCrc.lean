/- bits.Crc. -/
import Derived.Test.YtmakanmjdfpcmaaGreatProg
import Derived.Test.YtmakanmjdfpcmaaGreatK
import Derived.Test.YtmakanmjdfpcmaaGreatN
namespace Go.Proofs.YtmakanmjdfpcmaaGreat
open Go.RowKit

def crcPoly : Nat := 3988292384
def crcAll : Nat := 4294967295
def crcBit (c : Nat) : Nat := (c / 2) ^^^ (crcPoly * (c % 2))
def crcBits : Nat → Nat → Nat
  | 0, c => c
  | n + 1, c => crcBit (crcBits n c)
def crcByte (c : Nat) (b : UInt8) : Nat := crcBits 8 (c ^^^ b.toNat)
def crcN (l : List UInt8) : Nat := l.foldl crcByte crcAll ^^^ crcAll
theorem crcBit_lt (c : Nat) (h : c < 2 ^ 32) : crcBit c < 2 ^ 32 := by
  refine Nat.xor_lt_two_pow (by omega) ?_
  rcases Nat.mod_two_eq_zero_or_one c with e | e <;> rw [e, crcPoly] <;> omega
theorem crcBits_lt (n c : Nat) (h : c < 2 ^ 32) : crcBits n c < 2 ^ 32 := by
  induction n with
  | zero => exact h
  | succ n ih => exact crcBit_lt _ ih
theorem crcXor_lt (c : Nat) (b : UInt8) (h : c < 2 ^ 32) : c ^^^ b.toNat < 2 ^ 32 := Nat.xor_lt_two_pow h (by have := b.toNat_lt; omega)
theorem crcByte_lt (c : Nat) (b : UInt8) (h : c < 2 ^ 32) : crcByte c b < 2 ^ 32 := crcBits_lt _ _ (crcXor_lt c b h)
theorem crcFold_lt (l : List UInt8) (c : Nat) (h : c < 2 ^ 32) : l.foldl crcByte c < 2 ^ 32 := by
  induction l generalizing c with
  | nil => exact h
  | cons b l ih => exact ih _ (crcByte_lt c b h)
theorem crcN_lt (l : List UInt8) : crcN l < 2 ^ 32 := Nat.xor_lt_two_pow (crcFold_lt l _ (by rw [crcAll]; omega)) (by rw [crcAll]; omega)
theorem crc_step (c : Nat) (h : c < 2 ^ 32) : bits .xor .i64 ((c : Int) / 2) (wrap64 (3988292384 * bits .and .i64 (c : Int) 1)) = ((crcBit c : Nat) : Int) := by
  have e1 : bits .and .i64 (c : Int) 1 = ((c % 2 : Nat) : Int) := by
    have := i64_and c 1 (by omega) (by omega)
    rw [Nat.and_one_is_mod] at this
    exact this
  have e2 : (3988292384 * ((c % 2 : Nat) : Int)) = ((crcPoly * (c % 2) : Nat) : Int) := by rw [Int.natCast_mul]; rfl
  have h3 : crcPoly * (c % 2) < 2 ^ 32 := by rcases Nat.mod_two_eq_zero_or_one c with e | e <;> rw [e, crcPoly] <;> omega
  rw [e1, e2, wrap64_nat _ (by omega), show ((c : Int) / 2) = ((c / 2 : Nat) : Int) from rfl, i64_xor _ _ (by omega) (by omega), crcBit]
theorem crc_in (c : Nat) (b : UInt8) (h : c < 2 ^ 32) : bits .xor .i64 (c : Int) (wrap64 (b.toNat : Int)) = ((c ^^^ b.toNat : Nat) : Int) := by
  rw [wrap64_byte]; exact i64_xor _ _ (by omega) (by have := b.toNat_lt; omega)
theorem crc_out (c : Nat) (h : c < 2 ^ 32) : bits .xor .i64 (c : Int) 4294967295 = ((c ^^^ crcAll : Nat) : Int) := i64_xor c 4294967295 (by omega) (by omega)
theorem foldl_take_succ (s : ByteArray) (k : Nat) (h : k < s.size) (c : Nat) : (s.data.toList.take (k + 1)).foldl crcByte c = crcByte ((s.data.toList.take k).foldl crcByte c) s[k] := by
  rw [List.take_succ_eq_append_getElem (by simpa using h), List.foldl_append]; rfl

set_option maxHeartbeats 1000000 in
set_option maxRecDepth 100000 in
theorem crc_any (s : ByteArray) (w : World) (hs : s.size ≤ 1000000000) :
    Calls Tryz.prog 104 #[.string s] w fun e w' => e = .returned (.int .i64 (crcN s.data.toList : Nat)) ∧ w = w' := by
  go_enter Tryz.func104, Tryz.ntmps104
  go_wp2
  go_loopg [3, 7] s.size (fun g c i wr => ∃ (k : Nat) (st : Nat), k + g = s.size ∧ i = .int .i64 k ∧ c = .int .i64 (st : Int) ∧ st < 2 ^ 32 ∧ st = (s.data.toList.take k).foldl crcByte crcAll ∧ wr = w)
  case atStart => exact ⟨0, crcAll, by omega, rfl, rfl, by rw [crcAll]; omega, rfl, rfl⟩
  case round =>
    obtain ⟨k, st, hk, rfl, rfl, hst, hf, rfl⟩ := hrel
    have HK := hid hk
    have HF := hid hf
    have HS := hid hst
    have hkl : k ≤ s.size := by omega
    have hst2 : st < 4294967296 := by omega
    clear hk hf hst
    by_cases hlt : k < s.size
    · have HX := hid (crc_in st s[k] HS.out)
      have hx := crcXor_lt st s[k] HS.out
      have HXL := hid hx
      clear hx
      have HFS := hid (foldl_take_succ s k hlt crcAll)
      go_wp2
      rw [HX.out]
      generalize hq : s[k] = q at *
      clear hq
      go_loopg [3, 16] 8 (fun g c j wr' => ∃ (n c' : Nat), n + g = 8 ∧ j = .int .i64 n ∧ c = .int .i64 (c' : Int) ∧ c' < 2 ^ 32 ∧ c' = crcBits n (st ^^^ q.toNat) ∧ wr' = wr)
      case atStart => exact ⟨0, _, by omega, rfl, rfl, HXL.out, rfl, rfl⟩
      case round =>
        obtain ⟨n, c', hn, rfl, rfl, hc', he, rfl⟩ := hrel
        have HN := hid hn
        have HE := hid he
        have HC := hid hc'
        have hc2 : c' < 4294967296 := by omega
        have hn8 : n ≤ 8 := by omega
        clear hn he hc'
        by_cases hn9 : n < 8
        · have HY := hid (crc_step c' HC.out)
          go_wp2
          rw [HY.out]
          go_roundg (gk - 1)
          case measure => have := HN.out; omega
          case rel => exact ⟨n + 1, crcBit c', by have := HN.out; omega, by go_num, rfl, crcBit_lt _ HC.out, by rw [HE.out]; rfl, rfl⟩
        · have hn0 : n = 8 := by have := HN.out; omega
          subst hn0
          go_wp2
          go_roundg (s.size - (k + 1))
          case measure => have := HK.out; omega
          case rel => exact ⟨k + 1, c', by have := HK.out; omega, by go_num, rfl, HC.out, by rw [HE.out, HFS.out, HF.out]; rfl, rfl⟩
    · go_wp2
      go_ret
      refine ⟨ret_int ?_, rfl⟩
      rw [crc_out _ HS.out, crcN, HF.out, List.take_of_length_le (by simp; omega)]
end Go.Proofs.YtmakanmjdfpcmaaGreat
