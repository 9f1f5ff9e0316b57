/- Walks of package wire's scan: take, num, text. -/
import Derived.Test.YtmakanmjdfpcmaaGreatProg
import Derived.Test.YtmakanmjdfpcmaaGreatK
import Derived.Test.YtmakanmjdfpcmaaGreatBe
import Derived.Test.YtmakanmjdfpcmaaGreatN
import Derived.Test.YtmakanmjdfpcmaaGreatBld
import Derived.Lib.ConvBytes
namespace Go.Proofs.YtmakanmjdfpcmaaGreat
open Go.RowKit

/-- the scan at block b, of which l is left -/
def Sc (w : World) (b : Nat) (l : List UInt8) : Prop := ∃ s : ByteArray, w.heap[b]? = some (.cells #[.string s, .bool false] 186 (0, 0)) ∧ s.data.toList = l ∧ s.size ≤ 1000000000
theorem Sc.frm {w w' : World} {b : Nat} {l : List UInt8} {P : Nat → Obj → Prop} (h : Sc w b l) (hf : Frm P w w') (hP : ∀ c, ¬ P b (.cells c 186 (0, 0))) : Sc w' b l := by
  obtain ⟨s, hb, r⟩ := h
  exact ⟨s, hf.block _ _ hb (hP _), r⟩
theorem Sc.drew {w : World} {b : Nat} {l : List UInt8} (h : Sc w b l) : Sc w.drew b l := h
theorem Sc.alloc {w : World} {b : Nat} {l : List UInt8} (h : Sc w b l) (o : Obj) : Sc (w.alloc o) b l := by
  obtain ⟨s, hb, r⟩ := h
  exact ⟨s, heap_old hb, r⟩
theorem ext_list' (s : ByteArray) (a b : Nat) : (s.extract a b).data.toList = (s.data.toList.drop a).take (b - a) := by
  rw [ByteArray.data_extract, Array.toList_extract, List.extract_eq_take_drop]
theorem ext_head (s : ByteArray) (xs ys : List UInt8) (h : s.data.toList = xs ++ ys) : (s.extract 0 xs.length).data.toList = xs := by
  rw [ext_list', h]; simp
theorem ext_tail (s : ByteArray) (xs ys : List UInt8) (h : s.data.toList = xs ++ ys) : (s.extract xs.length s.size).data.toList = ys := by
  have e : s.size = xs.length + ys.length := by
    have h1 : s.size = s.data.toList.length := rfl
    rw [h1, h, List.length_append]
  rw [ext_list', h, e]; simp

set_option maxHeartbeats 1000000 in
theorem take_ok (b n : Nat) (xs ys : List UInt8) (w : World) (h : Sc w b (xs ++ ys)) (hn : n = xs.length) :
    Calls Tryz.prog 147 #[.pointer (some ⟨b, 0, none⟩), .int .i64 n] w fun e w' => ∃ t : ByteArray, e = .returned (.string t) ∧ t.data.toList = xs ∧ Sc w' b ys ∧ Frm (only b) w w' := by
  obtain ⟨s, hb, hl, hs⟩ := h
  have hle : n ≤ s.size := by
    have h1 : s.size = s.data.toList.length := rfl
    rw [h1, hl, List.length_append]; omega
  obtain ⟨c0, c1, f0, f1⟩ := cells2 hb
  have HB := hid hb
  have HL := hid hl
  have HN := hid hn
  clear hb hl hn
  go_enter Tryz.func147, Tryz.ntmps147
  go_wp2
  go_ret
  have e := HN.out
  subst e
  refine ⟨_, rfl, ext_head s xs ys HL.out, ⟨_, heap_set HB.out, ext_tail s xs ys HL.out, ?_⟩, (Frm.refl _ _).setCell _ _ fun _ _ => rfl⟩
  have h1 : (s.extract xs.length s.size).size = ys.length := by
    have h2 := congrArg List.length (ext_tail s xs ys HL.out)
    exact h2
  have h3 : s.size = xs.length + ys.length := by
    have h4 : s.size = s.data.toList.length := rfl
    rw [h4, HL.out, List.length_append]
  omega

/-- '[]byte(s)' -/
theorem conv_bytes (t : ByteArray) (w : World) : ∃ (cap : Nat) (w2 : World), (convert 9 89 (.string t)).run Tryz.prog w = .ok (.slice (some ⟨w.heap.size, 0, none⟩) t.size cap) w2 ∧
    (∀ j, j < t.size → w2.cell? ⟨w.heap.size, j, none⟩ = some (.int .u8 (t.data.toList.getD j 0).toNat)) ∧ Frm nothing w w2 := by
  refine ⟨_, _, Lib.run_convert_string_bytes (P := Tryz.prog) w 9 89 5 t Tryz.underlying9 Tryz.underlying89 Tryz.underlying5, fun j hj => Lib.bytesWorld_cell w _ t j hj, ?_⟩
  exact ((Frm.refl _ _).drew.alloc _).freeze _ _ fun o ho => absurd (heap_lt ho) (Nat.lt_irrefl _)
theorem or_byte (n : Nat) (c : UInt8) (h : n < 36028797018963968) : bits .or .i64 (wrap64 ((n : Int) * 256)) (wrap64 (c.toNat : Int)) = ((n * 256 + c.toNat : Nat) : Int) := by
  have hc := c.toNat_lt
  have e1 : n * 256 ||| c.toNat = n * 256 + c.toNat := by
    have := Nat.shiftLeft_add_eq_or_of_lt (b := c.toNat) (i := 8) (by omega) n
    rw [Nat.shiftLeft_eq] at this
    exact this.symm
  rw [wrap64_byte, show ((n : Int) * 256) = ((n * 256 : Nat) : Int) from (Int.natCast_mul n 256).symm, wrap64_nat _ (by omega), i64_or _ _ (by omega) (by omega), e1]
theorem unbe_take_succ (xs : List UInt8) (k : Nat) (h : k < xs.length) : unbe (xs.take (k + 1)) = unbe (xs.take k) * 256 + (xs.getD k 0).toNat := by
  rw [List.take_succ_eq_append_getElem h, unbe_snoc]
  simp [h]
theorem unbe_mono (xs ys : List UInt8) : unbe xs ≤ unbe (xs ++ ys) := by
  induction ys generalizing xs with
  | nil => simp
  | cons c ys ih =>
    have h1 := ih (xs ++ [c])
    rw [List.append_assoc] at h1
    have h2 := unbe_snoc xs c
    simp only [List.singleton_append] at h1
    omega
theorem unbe_take_le (xs : List UInt8) (k : Nat) : unbe (xs.take k) ≤ unbe xs := by
  have := unbe_mono (xs.take k) (xs.drop k)
  rwa [List.take_append_drop] at this

set_option maxHeartbeats 1000000 in
set_option maxRecDepth 100000 in
theorem scnum_ok (b sz : Nat) (xs ys : List UInt8) (w : World) (h : Sc w b (xs ++ ys)) (hsz : sz = xs.length) (h8 : sz ≤ 8) (hv : unbe xs < 36028797018963968) :
    Calls Tryz.prog 103 #[.pointer (some ⟨b, 0, none⟩), .int .i64 sz] w fun e w' => e = .returned (.int .i64 (unbe xs : Nat)) ∧ Sc w' b ys ∧ Frm (only b) w w' := by
  have HT := hid (take_ok b sz xs ys w h hsz)
  have HV := hid hv
  have hxl : xs.length ≤ 8 := by omega
  clear h hsz h8 hv
  go_enter Tryz.func103, Tryz.ntmps103
  go_wp2_with fail
  refine HT.out.mono ?_
  rintro e w1 ⟨t, rfl, ht, hsc, hf⟩
  obtain ⟨cap, w2, hrun, hcell, hf2⟩ := conv_bytes t w1
  have htl : t.size = xs.length := by
    have h1 : t.size = t.data.toList.length := rfl
    rw [h1, ht]
  rw [ht] at hcell
  have HC := hid hcell
  have HS := hid hsc
  have HF := hid hf
  have HF2 := hid hf2
  have HTL := hid htl
  clear ht hcell hsc hf hf2 htl
  go_wp2
  clear hrun
  go_loopg [5, 13] xs.length (fun g n i wr => ∃ k : Nat, k + g = xs.length ∧ i = .int .i64 k ∧ n = .int .i64 (unbe (xs.take k) : Nat) ∧ wr = w2)
  case atStart => exact ⟨0, by omega, rfl, rfl, rfl⟩
  case round =>
    obtain ⟨k, hk, rfl, rfl, rfl⟩ := hrel
    have HK := hid hk
    have hkl : k ≤ t.size := by have := HTL.out; omega
    by_cases hlt : k < t.size
    · have hcell := HC.out k hlt
      have hkx : k < xs.length := by have := HTL.out; omega
      have hu := unbe_take_le xs k
      have HO := hid (or_byte (unbe (xs.take k)) (xs.getD k 0) (by have := HV.out; omega))
      have HU := hid (unbe_take_succ xs k hkx)
      clear hk hu
      generalize unbe (xs.take k) = u at *
      generalize xs.getD k 0 = c at *
      go_wp2
      go_roundg (gk - 1)
      case measure => have := HK.out; omega
      case rel => exact ⟨k + 1, by have := HK.out; omega, by go_num, by rw [HU.out, HO.out], rfl⟩
    · have hk0 : k = xs.length := by have := HTL.out; omega
      subst hk0
      clear hk
      go_wp2
      go_ret
      refine ⟨by first | rfl | (rw [List.take_length]; rfl), HS.out.frm HF2.out (fun _ h => h), HF.out.trans HF2.out fun _ _ _ h => h.elim⟩

theorem bytes_ext {a b : ByteArray} (h : a.data.toList = b.data.toList) : a = b := by
  obtain ⟨⟨l⟩⟩ := a
  obtain ⟨⟨r⟩⟩ := b
  have h2 : l = r := h
  rw [h2]

set_option maxHeartbeats 1000000 in
theorem sctext_ok (b sz : Nat) (s : ByteArray) (ys : List UInt8) (w : World) (h : Sc w b (be sz s.size ++ (s.data.toList ++ ys))) (h8 : sz ≤ 8) (hs : s.size < 256 ^ sz) (hs2 : s.size ≤ 1000000000) :
    Calls Tryz.prog 105 #[.pointer (some ⟨b, 0, none⟩), .int .i64 sz] w fun e w' => e = .returned (.string s) ∧ Sc w' b ys ∧ Frm (only b) w w' := by
  have hu := unbe_be sz s.size hs
  have HT := hid (scnum_ok b sz (be sz s.size) (s.data.toList ++ ys) w h (by simp) h8 (by omega))
  have HU := hid hu
  clear h hu
  go_enter Tryz.func105, Tryz.ntmps105
  go_wp2_with fail
  refine HT.out.mono ?_
  rintro e w1 ⟨rfl, hsc, hf⟩
  rw [HU.out]
  have HS := hid (take_ok b s.size s.data.toList ys w1 hsc rfl)
  have HF := hid hf
  clear hsc hf
  go_wp2_with (go_at_call 147; refine HS.out.mono ?_; rintro e w2 ⟨t, rfl, ht, hsc, hf⟩; have HX := hid ht; have HS2 := hid hsc; have HF2 := hid hf; clear ht hsc hf)
  go_ret
  exact ⟨ret_str (bytes_ext HX.out), HS2.out, HF.out.trans HF2.out fun _ _ _ h => h⟩
end Go.Proofs.YtmakanmjdfpcmaaGreat
