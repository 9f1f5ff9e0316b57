/- Plain facts on bits, bytes and numbers. No program. -/
import Derived.PlainAid
namespace Go.Proofs.YtmakanmjdfpcmaaGreat

/-- the n lowest bits of a number, the lowest first -/
def natBits : Nat → Nat → List Bool
  | 0, _ => []
  | n + 1, h => (h % 2 == 1) :: natBits n (h / 2)
/-- the number of bits, the lowest first -/
def bv : List Bool → Nat
  | [] => 0
  | b :: r => b.toNat + 2 * bv r
def byteBits (c : UInt8) : List Bool := natBits 8 c.toNat
def bytesBits (l : List UInt8) : List Bool := l.flatMap byteBits

@[simp] theorem natBits_length (n h : Nat) : (natBits n h).length = n := by
  induction n generalizing h with
  | zero => rfl
  | succ n ih => simp [natBits, ih]
theorem natBits_add (n m h : Nat) : natBits (n + m) h = natBits n h ++ natBits m (h / 2 ^ n) := by
  induction n generalizing h with
  | zero => simp [natBits]
  | succ n ih =>
    rw [show n + 1 + m = (n + m) + 1 by omega]
    simp only [natBits, List.cons_append, ih]
    rw [Nat.div_div_eq_div_mul, Nat.pow_succ, Nat.mul_comm 2]
theorem natBits_mod (n h : Nat) : natBits n (h % 2 ^ n) = natBits n h := by
  induction n generalizing h with
  | zero => rfl
  | succ n ih =>
    simp only [natBits]
    have h2 : h % 2 ^ (n + 1) / 2 = (h / 2) % 2 ^ n := by
      rw [Nat.pow_succ, Nat.mul_comm (2 ^ n) 2, Nat.mod_mul]
      have := Nat.mod_lt h (show 0 < 2 by omega)
      omega
    have h1 : h % 2 ^ (n + 1) % 2 = h % 2 := Nat.mod_mod_of_dvd _ ⟨2 ^ n, by rw [Nat.pow_succ, Nat.mul_comm]⟩
    rw [h2, h1, ih]
theorem natBits_app (n m h c : Nat) (hh : h < 2 ^ n) : natBits (n + m) (h + c * 2 ^ n) = natBits n h ++ natBits m c := by
  rw [natBits_add, ← natBits_mod n (h + c * 2 ^ n)]
  congr 2
  · rw [Nat.add_mul_mod_self_right, Nat.mod_eq_of_lt hh]
  · rw [Nat.add_mul_div_right _ _ (Nat.two_pow_pos n), Nat.div_eq_of_lt hh, Nat.zero_add]
theorem bv_natBits (n h : Nat) : bv (natBits n h) = h % 2 ^ n := by
  induction n generalizing h with
  | zero => simp [natBits, bv, Nat.mod_one]
  | succ n ih =>
    simp only [natBits, bv, ih]
    rw [Nat.pow_succ, Nat.mul_comm (2 ^ n) 2, Nat.mod_mul]
    congr 1
    rcases Nat.mod_two_eq_zero_or_one h with e | e <;> rw [e] <;> rfl
theorem bv_lt (l : List Bool) : bv l < 2 ^ l.length := by
  induction l with
  | nil => simp [bv]
  | cons b r ih =>
    simp only [bv, List.length_cons, Nat.pow_succ]
    have : b.toNat ≤ 1 := by cases b <;> simp
    omega
theorem natBits_bv (l : List Bool) : natBits l.length (bv l) = l := by
  induction l with
  | nil => rfl
  | cons b r ih =>
    simp only [List.length_cons, natBits, bv]
    have e1 : (b.toNat + 2 * bv r) % 2 = b.toNat := by cases b <;> simp <;> omega
    have e2 : (b.toNat + 2 * bv r) / 2 = bv r := by cases b <;> simp <;> omega
    rw [e1, e2, ih]
    cases b <;> rfl
theorem natBits_take (n m h : Nat) (hm : m ≤ n) : (natBits n h).take m = natBits m h := by
  obtain ⟨k, rfl⟩ : ∃ k, n = m + k := ⟨n - m, by omega⟩
  rw [natBits_add, List.take_left' (natBits_length m h)]
theorem natBits_drop (n m h : Nat) (hm : m ≤ n) : (natBits n h).drop m = natBits (n - m) (h / 2 ^ m) := by
  obtain ⟨k, rfl⟩ : ∃ k, n = m + k := ⟨n - m, by omega⟩
  rw [natBits_add, List.drop_left' (natBits_length m h), Nat.add_sub_cancel_left]
@[simp] theorem byteBits_length (c : UInt8) : (byteBits c).length = 8 := natBits_length _ _
@[simp] theorem bytesBits_nil : bytesBits [] = [] := rfl
@[simp] theorem bytesBits_cons (c : UInt8) (l : List UInt8) : bytesBits (c :: l) = byteBits c ++ bytesBits l := rfl
theorem bytesBits_append (l r : List UInt8) : bytesBits (l ++ r) = bytesBits l ++ bytesBits r := by simp [bytesBits]
@[simp] theorem bytesBits_length (l : List UInt8) : (bytesBits l).length = 8 * l.length := by
  induction l with
  | nil => rfl
  | cons c l ih => simp [ih]; omega
theorem byteBits_inj {c d : UInt8} (h : byteBits c = byteBits d) : c = d := by
  have h1 := congrArg bv h
  simp only [byteBits, bv_natBits] at h1
  have := c.toNat_lt; have := d.toNat_lt
  exact UInt8.toNat_inj.1 (by omega)
theorem bytesBits_inj {l r : List UInt8} (h : bytesBits l = bytesBits r) : l = r := by
  induction l generalizing r with
  | nil =>
    have h1 := congrArg List.length h
    simp at h1
    cases r with
    | nil => rfl
    | cons d r => simp at h1
  | cons c l ih =>
    cases r with
    | nil => have h1 := congrArg List.length h; simp at h1
    | cons d r =>
      simp only [bytesBits_cons] at h
      obtain ⟨h1, h2⟩ := List.append_inj h (by simp)
      rw [byteBits_inj h1, ih h2]
/-- bits as bytes, zero bits up to a whole byte -/
def pack : List Bool → List UInt8
  | [] => []
  | a :: r => UInt8.ofNat (bv ((a :: r).take 8)) :: pack ((a :: r).drop 8)
termination_by l => l.length
decreasing_by simp; omega
theorem pack_bytes (l : List UInt8) (r : List Bool) : pack (bytesBits l ++ r) = l ++ pack r := by
  induction l with
  | nil => rfl
  | cons c l ih =>
    have hne : byteBits c ++ (bytesBits l ++ r) ≠ [] := by
      intro h; have := congrArg List.length h; simp at this
    rw [bytesBits_cons, List.append_assoc]
    obtain ⟨x, t, hx⟩ := List.exists_cons_of_ne_nil hne
    rw [hx, pack, ← hx, List.take_left' (byteBits_length c), List.drop_left' (byteBits_length c), ih]
    simp only [byteBits, bv_natBits, List.cons_append, List.cons.injEq, and_true]
    have := c.toNat_lt
    rw [Nat.mod_eq_of_lt (by omega)]
    exact UInt8.ofNat_toNat
theorem held_lt {h c n : Nat} (hh : h < 2 ^ n) (hc : c < 256) : h + c * 2 ^ n < 2 ^ (n + 8) := by
  have : c * 2 ^ n ≤ 255 * 2 ^ n := Nat.mul_le_mul_right _ (by omega)
  rw [Nat.pow_add]; omega
theorem div_lt_pow {h n m : Nat} (hh : h < 2 ^ n) (hm : m ≤ n) : h / 2 ^ m < 2 ^ (n - m) := by
  rw [Nat.div_lt_iff_lt_mul (Nat.two_pow_pos m), ← Nat.pow_add, Nat.sub_add_cancel hm]; exact hh

theorem str_append (a b : List UInt8) : (⟨a.toArray⟩ : ByteArray) ++ ⟨b.toArray⟩ = ⟨(a ++ b).toArray⟩ := by
  apply ByteArray.ext
  rw [ByteArray.data_append]
  simp
/- numbers as the program has them -/
theorem or_shift (h c n : Nat) (hh : h < 2 ^ n) : h ||| (c * 2 ^ n) = h + c * 2 ^ n := by
  rw [Nat.or_comm, Nat.mul_comm, ← Nat.two_pow_add_eq_or_of_lt hh, Nat.add_comm]
end Go.Proofs.YtmakanmjdfpcmaaGreat
