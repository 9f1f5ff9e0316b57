/- bands.Name at a text that may be a name; slices.ContainsFunc at nothing. -/
import Derived.Test.YtmakanmjdfpcmaaGreatProg
import Derived.Test.YtmakanmjdfpcmaaGreatK
namespace Go.Proofs.YtmakanmjdfpcmaaGreat
open Go.RowKit

/-- a text that may be a name -/
def NameOk (s : ByteArray) : Prop := 0 < s.size ∧ s.size ≤ 32 ∧ ∀ (k : Nat) (h : k < s.size), 32 < s[k].toNat ∧ s[k].toNat ≤ 126

set_option maxHeartbeats 1000000 in
theorem name_ok (s : ByteArray) (w : World) (hs : NameOk s) :
    Calls Tryz.prog 77 #[.string s] w fun e w' => e = .returned (.int .i64 0) ∧ w = w' := by
  obtain ⟨h1, h2, h3⟩ := hs
  have e0 : ¬ s.toList = [] := by
    rw [ByteArray.toList_eq]
    intro h
    have h4 : s.data.toList.length = 0 := by rw [h]; rfl
    have h5 : s.data.toList.length = s.size := rfl
    omega
  have e1 : (!s.toList.isEmpty) = true := by simpa using e0
  have HE : Hid (s.toList.isEmpty = false) := by show _ = false; simpa using e0
  have H3 := hid h3
  clear h3
  go_enter Tryz.func77, Tryz.ntmps77
  go_wp2
  go_loopg [3, 14] s.size (fun g c i wr => ∃ k : Nat, k + g = s.size ∧ i = .int .i64 k ∧ c = .bool false ∧ wr = w)
  case atStart => exact ⟨0, by omega, rfl, by rw [HE.out]; simp; omega, rfl⟩
  case round =>
    obtain ⟨k, hk, rfl, rfl, rfl⟩ := hrel
    have HK := hid hk
    have hkl : k ≤ s.size := by omega
    clear hk
    by_cases hlt : k < s.size
    · obtain ⟨h4, h5⟩ := H3.out k hlt
      have h6 : ¬ ((s[k].toNat : Int) ≤ 32) := by omega
      have h7 : ¬ ((126 : Int) < (s[k].toNat : Int)) := by omega
      go_wp2
      go_roundg (gk - 1)
      case measure => have := HK.out; omega
      case rel => exact ⟨k + 1, by have := HK.out; omega, by go_num, rfl, rfl⟩
    · go_wp2
      go_ret
      exact ⟨rfl, rfl⟩

set_option maxHeartbeats 1000000 in
theorem containsFunc_nil (f : Value) (w : World) :
    Calls Tryz.prog 149 #[.slice none 0 0, f] w fun e w' => e = .returned (.bool false) ∧ w = w' := by
  have HI : Hid (∀ (w : World), Calls Tryz.prog 203 #[.slice none 0 0, f] w fun e w' => e = .returned (.int .i64 (-1)) ∧ w = w') := by
    intro w
    go_enter Tryz.func203, Tryz.ntmps203
    go_wp2
    refine wp_loop_rounds 1 ?_
    rw [rounds_succ]
    go_wp2
    go_ret
    exact ⟨rfl, rfl⟩
  go_enter Tryz.func149, Tryz.ntmps149
  go_wp2_with (go_at_call 203; refine (HI.out _).mono ?_; rintro e w' ⟨rfl, rfl⟩)
  go_ret
  exact ⟨rfl, rfl⟩
end Go.Proofs.YtmakanmjdfpcmaaGreat
