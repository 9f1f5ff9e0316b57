/- Numbers as bytes, the highest first: plain. -/
import Derived.PlainAid
namespace Go.Proofs.YtmakanmjdfpcmaaGreat

/-- the k lowest bytes of n, the highest first -/
def be : Nat → Nat → List UInt8
  | 0, _ => []
  | k + 1, n => be k (n / 256) ++ [UInt8.ofNat (n % 256)]
/-- the number of bytes -/
def unbe (l : List UInt8) : Nat := l.foldl (fun n c => n * 256 + c.toNat) 0
@[simp] theorem be_length (k n : Nat) : (be k n).length = k := by
  induction k generalizing n with
  | zero => rfl
  | succ k ih => simp [be, ih]
theorem unbe_snoc (l : List UInt8) (c : UInt8) : unbe (l ++ [c]) = unbe l * 256 + c.toNat := by simp [unbe]
theorem unbe_be (k n : Nat) (h : n < 256 ^ k) : unbe (be k n) = n := by
  induction k generalizing n with
  | zero => simp [be, unbe]; omega
  | succ k ih =>
    have h2 : n / 256 < 256 ^ k := by
      rw [Nat.pow_succ] at h
      exact Nat.div_lt_of_lt_mul (by omega)
    rw [be, unbe_snoc, ih _ h2, UInt8.toNat_ofNat']
    omega
theorem unbe_from_lt (l : List UInt8) (n : Nat) : l.foldl (fun n c => n * 256 + c.toNat) n < (n + 1) * 256 ^ l.length := by
  induction l generalizing n with
  | nil => simp
  | cons c l ih =>
    have h := ih (n * 256 + c.toNat)
    have hc := c.toNat_lt
    have h2 : (n * 256 + c.toNat + 1) * 256 ^ l.length ≤ (n + 1) * 256 * 256 ^ l.length := Nat.mul_le_mul_right _ (by omega)
    rw [List.foldl_cons, List.length_cons, Nat.pow_succ, Nat.mul_comm (256 ^ l.length) 256, ← Nat.mul_assoc]
    omega
theorem unbe_lt (l : List UInt8) : unbe l < 256 ^ l.length := by
  have := unbe_from_lt l 0
  simpa [unbe] using this
end Go.Proofs.YtmakanmjdfpcmaaGreat
