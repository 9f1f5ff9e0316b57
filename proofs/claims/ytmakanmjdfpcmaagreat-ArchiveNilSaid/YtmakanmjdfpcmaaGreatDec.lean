/- wire.Decode at the bytes of a message without manifest and bands. -/
import Derived.Test.YtmakanmjdfpcmaaGreatEnc
namespace Go.Proofs.YtmakanmjdfpcmaaGreat
open Go.RowKit

theorem scnum_int (b : Nat) (sz : Int) (v : Nat) (xs ys : List UInt8) (w : World) (h : Sc w b (xs ++ ys)) (hv : unbe xs = v) (hsz0 : 0 ≤ sz) (hsz : sz.toNat = xs.length) (h8 : sz ≤ 8) (hv2 : v < 36028797018963968) :
    Calls Tryz.prog 103 #[.pointer (some ⟨b, 0, none⟩), .int .i64 sz] w fun e w' => e = .returned (.int .i64 (v : Nat)) ∧ Sc w' b ys ∧ Frm (only b) w w' := by
  obtain ⟨sz, rfl⟩ := Int.eq_ofNat_of_zero_le hsz0
  subst hv
  exact scnum_ok b sz xs ys w h (by simpa using hsz) (by omega) hv2
theorem sctext_int (b : Nat) (sz : Int) (s : ByteArray) (ys : List UInt8) (w : World) (h : Sc w b (be sz.toNat s.size ++ (s.data.toList ++ ys))) (hsz0 : 0 ≤ sz) (h8 : sz ≤ 8) (hs : s.size < 256 ^ sz.toNat) (hs2 : s.size ≤ 1000000000) :
    Calls Tryz.prog 105 #[.pointer (some ⟨b, 0, none⟩), .int .i64 sz] w fun e w' => e = .returned (.string s) ∧ Sc w' b ys ∧ Frm (only b) w w' := by
  obtain ⟨sz, rfl⟩ := Int.eq_ofNat_of_zero_le hsz0
  exact sctext_ok b sz s ys w h (by omega) hs hs2

theorem encS_list (k f t o : Nat) (n : ByteArray) : (encS k f t o n).data.toList = be 4 (crcN (bodyL k f t o n)) ++ bodyL k f t o n := by simp [encS, encL]
theorem encS_size (k f t o : Nat) (n : ByteArray) : (encS k f t o n).size = 34 + n.size := by
  have h : (encS k f t o n).size = (encS k f t o n).data.toList.length := rfl
  rw [h, encS_list, List.length_append, be_length, bodyL_len]; omega

abbrev zeroC : Array Value := #[.int .i64 0, .int .i64 0, .int .i64 0, .int .i64 0, .string ⟨#[]⟩, .int .i64 0, .int .i64 0, .string ⟨#[]⟩, .slice none 0 0]
/-- between two calls of Decode -/
structure DInv (w wi : World) (mb b : Nat) (l : List UInt8) : Prop where
  sc : Sc wi b l
  frm : Frm nothing w wi
  msg : wi.heap[mb]? = some (.cells zeroC 117 (0, 0))
  mbb : mb < b
  old : w.heap.size ≤ mb
theorem DInv.step {w wi w' : World} {mb b : Nat} {l l' : List UInt8} (h : DInv w wi mb b l) (hs : Sc w' b l') (hf : Frm (only b) wi w') : DInv w w' mb b l' := by
  have h2 := h.mbb; have h3 := h.old
  exact ⟨hs, h.frm.trans hf fun k o hk hp => by simp only [only] at hp; omega, hf.keep h.msg fun hp => by simp only [only] at hp; omega, h2, h3⟩
/-- .. behind the making of the message at mm -/
structure DInv2 (w wi : World) (mb b mm : Nat) (cs : Array Value) (l : List UInt8) : Prop extends DInv w wi mb b l where
  made : wi.heap[mm]? = some (.cells cs 117 (0, 0))
  bm : b < mm
theorem DInv2.step {w wi w' : World} {mb b mm : Nat} {cs : Array Value} {l l' : List UInt8} (h : DInv2 w wi mb b mm cs l) (hs : Sc w' b l') (hf : Frm (only b) wi w') : DInv2 w w' mb b mm cs l' :=
  ⟨h.toDInv.step hs hf, hf.keep h.made fun hp => by have h2 := h.bm; simp only [only] at hp; omega, h.bm⟩
theorem DInv2.set {w wi : World} {mb b mm : Nat} {cs : Array Value} {l : List UInt8} (h : DInv2 w wi mb b mm cs l) (i : Nat) (v : Value) : DInv2 w (wi.setCell ⟨mm, i, none⟩ v) mb b mm (cs.setIfInBounds i v) l := by
  have h1 := h.bm; have h2 := h.mbb; have h3 := h.old
  have hf : Frm (only mm) wi (wi.setCell ⟨mm, i, none⟩ v) := (Frm.refl _ _).setCell _ _ fun _ _ => rfl
  exact ⟨⟨h.sc.frm hf fun c hp => by simp only [only] at hp; omega, h.frm.trans hf fun k o hk hp => by simp only [only] at hp; omega, hf.keep h.msg fun hp => by simp only [only] at hp; omega, h2, h3⟩, heap_set h.made, h1⟩
theorem bodyL_right (k f t o : Nat) (n : ByteArray) : bodyL k f t o n = be 1 k ++ (be 2 f ++ (be 2 t ++ (be 8 o ++ (be 1 n.size ++ (n.data.toList ++ (be 8 0 ++ (be 2 0 ++ (be 4 0 ++ ([] ++ (be 2 0 ++ [])))))))))) := by simp [bodyL]

set_option maxHeartbeats 4000000 in
set_option maxRecDepth 100000 in
theorem decode_ok (k f t o : Nat) (n : ByteArray) (w : World) (h : MsgOk k f t o n) :
    Calls Tryz.prog 63 #[.string (encS k f t o n)] w fun e w' => e = .returned (.tuple #[msgV k f t o n, .int .i64 0]) ∧ Frm nothing w w' := by
  have HM := hid h
  have hns : n.size ≤ 32 := h.n.2.1
  have hk := h.k4; have hf := h.f; have ht := h.t; have ho := h.o
  have hl := encS_list k f t o n
  have hz := encS_size k f t o n
  have hbl := bodyL_len k f t o n
  have h4 := ext_head (encS k f t o n) (be 4 (crcN (bodyL k f t o n))) (bodyL k f t o n) hl
  have h5 := ext_tail (encS k f t o n) (be 4 (crcN (bodyL k f t o n))) (bodyL k f t o n) hl
  rw [be_length] at h4 h5
  have hs34 : 34 ≤ (encS k f t o n).size := by omega
  have hs66 : (encS k f t o n).size ≤ 66 := by omega
  have H4 := hid h4
  have H5 := hid h5
  clear h hl hz hbl h4 h5
  generalize encS k f t o n = E at *
  go_enter Tryz.func63, Tryz.ntmps63
  go_wp2_with fail
  have hu4 : unbe (be 4 (crcN (bodyL k f t o n))) = crcN (bodyL k f t o n) := unbe_be _ _ (by have := crcN_lt (bodyL k f t o n); omega)
  have hcl : crcN (bodyL k f t o n) < 4294967296 := crcN_lt (bodyL k f t o n)
  have HCL := hid hcl
  clear hcl
  have HU4 := hid hu4
  have HSC : Hid (∀ w1 : World, Sc (w1.alloc (.cells #[.string (E.extract 0 4), .bool false] 186)) w1.heap.size (be 4 (crcN (bodyL k f t o n)) ++ [])) := by
    intro w1
    refine ⟨E.extract 0 4, heap_new w1 _, by rw [H4.out, List.append_nil], ?_⟩
    have h1 := congrArg List.length H4.out
    rw [be_length] at h1
    have h2 : (E.extract 0 4).size = (E.extract 0 4).data.toList.length := rfl
    omega
  have HCR : Hid (∀ w1 : World, Calls Tryz.prog 104 #[.string (E.extract 4 E.size)] w1 fun e w' => e = .returned (.int .i64 (crcN (bodyL k f t o n) : Nat)) ∧ w1 = w') := by
    intro w1
    have h1 := congrArg List.length H5.out
    have h2 : (E.extract 4 E.size).size = (E.extract 4 E.size).data.toList.length := rfl
    have h3 := crc_any (E.extract 4 E.size) w1 (by have := bodyL_len k f t o n; omega)
    rw [H5.out] at h3
    exact h3
  clear hu4
  have hsc2 := HSC.out (w.alloc (.cells #[.int .i64 0, .int .i64 0, .int .i64 0, .int .i64 0, .string ⟨#[]⟩, .int .i64 0, .int .i64 0, .string ⟨#[]⟩, .slice none 0 0] 117))
  rw [show (w.alloc (.cells #[.int .i64 0, .int .i64 0, .int .i64 0, .int .i64 0, .string ⟨#[]⟩, .int .i64 0, .int .i64 0, .string ⟨#[]⟩, .slice none 0 0] 117)).heap.size = w.heap.size + 1 from by simp] at hsc2
  have HSC2 := hid hsc2
  clear hsc2
  trace "A"
  go_region_with (first | (go_at_call 103; refine (scnum_int _ 4 _ _ [] _ HSC2.out.drew HU4.out (by omega) (by simp) (by omega) (by have := HCL.out; omega)).mono ?_; rintro e w1 ⟨rfl, hsc, hf⟩; have HF1 := hid hf; clear hsc hf) | (go_at_call 104; refine (HCR.out _).mono ?_; rintro e w2 ⟨rfl, rfl⟩))
  have hm0 := HF1.out.keep (heap_old (heap_new w (.cells zeroC 117))) (by simp)
  have hI : ∃ mb b wi, mb = w.heap.size ∧ b = w1.heap.size ∧ wi = w1.alloc (.cells #[.string (E.extract 4 E.size), .bool false] 186) ∧ DInv w wi mb b (be 1 k ++ (be 2 f ++ (be 2 t ++ (be 8 o ++ (be 1 n.size ++ (n.data.toList ++ (be 8 0 ++ (be 2 0 ++ (be 4 0 ++ ([] ++ (be 2 0 ++ []))))))))))) := by
    refine ⟨_, _, _, rfl, rfl, rfl, ⟨⟨_, heap_new w1 _, by rw [H5.out, bodyL_right], ?_⟩, ?_, heap_old hm0, heap_lt hm0, Nat.le_refl _⟩⟩
    · have h1 := congrArg List.length H5.out
      have h2 : (E.extract 4 E.size).size = (E.extract 4 E.size).data.toList.length := rfl
      have := bodyL_len k f t o n; omega
    · exact ((((Frm.refl nothing w).alloc _).alloc _).drew.trans HF1.out fun k o hk hp => by simp only [only] at hp; omega).alloc _
  have HI := hid hI
  clear hI hm0
  go_wp2_with fail
  obtain ⟨mb, b, wi, e1, e2, e3, hI⟩ := HI.out
  rw [← e1, ← e2, ← e3]
  clear e1 e2 e3 HI HF1 HSC HSC2 HCR HU4 H4 H5
  have HI0 := hid hI
  clear hI
  refine (scnum_int b 1 k _ _ _ HI0.out.sc (unbe_be _ _ (by omega)) (by omega) (by simp) (by omega) (by omega)).mono ?_
  rintro e w2 ⟨rfl, hs, hf⟩
  have HI1 := hid (HI0.out.step hs hf)
  clear hs hf
  go_wp2_with fail
  refine (scnum_int b 2 f _ _ _ HI1.out.sc (unbe_be _ _ (by omega)) (by omega) (by simp) (by omega) (by omega)).mono ?_
  rintro e w3 ⟨rfl, hs, hf⟩
  have HI2 := hid (HI1.out.step hs hf)
  clear hs hf
  go_wp2_with fail
  refine (scnum_int b 2 t _ _ _ HI2.out.sc (unbe_be _ _ (by omega)) (by omega) (by simp) (by omega) (by omega)).mono ?_
  rintro e w4 ⟨rfl, hs, hf⟩
  have HI3 := hid (HI2.out.step hs hf)
  clear hs hf
  go_wp2_with fail
  refine (scnum_int b 8 o _ _ _ HI3.out.sc (unbe_be _ _ (by omega)) (by omega) (by simp) (by omega) (by omega)).mono ?_
  rintro e w5 ⟨rfl, hs, hf⟩
  have HI4 := hid (HI3.out.step hs hf)
  clear hs hf
  go_wp2_with fail
  refine (sctext_int b 1 n _ _ HI4.out.sc (by omega) (by omega) (by first | omega | decide | (simp; omega)) (by first | omega | decide)).mono ?_
  rintro e w6 ⟨rfl, hs, hf⟩
  have HI4b := hid (HI4.out.step hs hf)
  clear hs hf
  go_wp2_with fail
  have hJ : ∃ mm wj, mm = w6.heap.size ∧ wj = w6.alloc (.cells (msgC k f t o n) 117) ∧ DInv2 w wj mb b mm (msgC k f t o n) (be 8 0 ++ (be 2 0 ++ (be 4 0 ++ ([] ++ (be 2 0 ++ []))))) := by
    refine ⟨_, _, rfl, rfl, ⟨⟨HI4b.out.sc.alloc _, HI4b.out.frm.alloc _, heap_old HI4b.out.msg, HI4b.out.mbb, HI4b.out.old⟩, heap_new w6 _, ?_⟩⟩
    obtain ⟨s, hs, _⟩ := HI4b.out.sc
    exact heap_lt hs
  obtain ⟨mm, wj, e1, e2, hJ⟩ := hJ
  rw [← e1, ← e2]
  clear e1 e2 HI4b
  have HI5 := hid hJ
  clear hJ
  refine (scnum_int b 8 0 _ _ _ HI5.out.sc (unbe_be _ _ (by omega)) (by omega) (by simp) (by omega) (by omega)).mono ?_
  rintro e w7 ⟨rfl, hs, hf⟩
  have HJ5 := hid (HI5.out.step hs hf)
  clear hs hf
  have c5 := cell_at (i := 5) HJ5.out.made
  have f5 := free_at HJ5.out.made 5
  have hj : DInv2 w (w7.setCell ⟨mm, 5, none⟩ (.int .i64 0)) mb b mm (msgC k f t o n) _ := HJ5.out.set 5 (.int .i64 0)
  have HI6 := hid hj
  clear hj
  go_wp2_with fail
  refine (scnum_int b 2 0 _ _ _ HI6.out.sc (unbe_be _ _ (by omega)) (by omega) (by simp) (by omega) (by omega)).mono ?_
  rintro e w8 ⟨rfl, hs, hf⟩
  have HJ6 := hid (HI6.out.step hs hf)
  clear hs hf
  have c6 := cell_at (i := 6) HJ6.out.made
  have f6 := free_at HJ6.out.made 6
  have hj : DInv2 w (w8.setCell ⟨mm, 6, none⟩ (.int .i64 0)) mb b mm (msgC k f t o n) _ := HJ6.out.set 6 (.int .i64 0)
  have HI7 := hid hj
  clear hj
  go_wp2_with fail
  refine (sctext_int b 4 ⟨#[]⟩ _ _ HI7.out.sc (by omega) (by omega) (by first | omega | decide | (simp; omega)) (by first | omega | decide)).mono ?_
  rintro e w9 ⟨rfl, hs, hf⟩
  have HJ7 := hid (HI7.out.step hs hf)
  clear hs hf
  have c7 := cell_at (i := 7) HJ7.out.made
  have f7 := free_at HJ7.out.made 7
  have hj : DInv2 w (w9.setCell ⟨mm, 7, none⟩ (.string ⟨#[]⟩)) mb b mm (msgC k f t o n) _ := HJ7.out.set 7 (.string ⟨#[]⟩)
  have HI8 := hid hj
  clear hj
  go_wp2_with fail
  refine (scnum_int b 2 0 _ _ _ HI8.out.sc (unbe_be _ _ (by omega)) (by omega) (by simp) (by omega) (by omega)).mono ?_
  rintro e w10 ⟨rfl, hs, hf⟩
  have HI9 := hid (HI8.out.step hs hf)
  clear hs hf
  go_wp2_with fail
  refine wp_loop_rounds 1 ?_
  rw [rounds_succ]
  obtain ⟨s0, hs0, hs0l, _⟩ := HI9.out.sc
  obtain rfl : s0 = ⟨#[]⟩ := bytes_ext hs0l
  obtain ⟨cb0, cb1, _⟩ := cells2 hs0
  obtain ⟨m0, m1, m2, m3, m4, m5, m6, m7, m8, _⟩ := cells9 HI9.out.made
  clear hs0 hs0l
  go_wp2_with fail
  refine (right_ok k f t o n _ HM.out).mono ?_
  rintro e w11 ⟨rfl, hf11⟩
  clear m0 m1 m2 m3 m4 m5 m6 m7 m8 cb0 cb1
  obtain ⟨m0, m1, m2, m3, m4, m5, m6, m7, m8, _⟩ := cells9 (hf11.keep HI9.out.made id)
  obtain ⟨r0, r1, r2, r3, r4, r5, r6, r7, r8, f0, f1, f2, f3, f4, f5, f6, f7, f8⟩ := cells9 (hf11.keep HI9.out.msg id)
  have HR := hid (hf11.keep HI9.out.msg id)
  have HF := hid (HI9.out.frm.trans hf11 fun _ _ _ h => h)
  clear hf11
  go_wp2
  have hmb : w.heap.size ≤ mb := HI9.out.old
  refine bodyPost_ret (v := .tuple #[msgV k f t o n, .int .i64 0]) (by simp [results, Tryz.results63, go_sem, r0, r1, r2, r3, r4, r5, r6, r7, r8]) rfl ⟨rfl, ?_⟩
  have hp : ∀ o, w.heap[mb]? = some o → nothing mb o := fun o ho => absurd (heap_lt ho) (by omega)
  exact ((((((((HF.out.setCell _ _ hp).setCell _ _ hp).setCell _ _ hp).setCell _ _ hp).setCell _ _ hp).setCell _ _ hp).setCell _ _ hp).setCell _ _ hp).setCell _ _ hp
end Go.Proofs.YtmakanmjdfpcmaaGreat
