/- wire.Encode at messages without manifest and bands. -/
import Derived.Test.YtmakanmjdfpcmaaGreatWire2
import Derived.Test.YtmakanmjdfpcmaaGreatScan
namespace Go.Proofs.YtmakanmjdfpcmaaGreat
open Go.RowKit

/-- a message's bytes, without the sum -/
def bodyL (k f t o : Nat) (n : ByteArray) : List UInt8 :=
  [] ++ be 1 k ++ be 2 f ++ be 2 t ++ be 8 o ++ be 1 n.size ++ n.data.toList ++ be 8 0 ++ be 2 0 ++ be 4 0 ++ [] ++ be 2 0
def encL (k f t o : Nat) (n : ByteArray) : List UInt8 := be 4 (crcN (bodyL k f t o n)) ++ bodyL k f t o n
def encS (k f t o : Nat) (n : ByteArray) : ByteArray := ⟨(encL k f t o n).toArray⟩
theorem bodyL_len (k f t o : Nat) (n : ByteArray) : (bodyL k f t o n).length = 30 + n.size := by
  have h : n.data.toList.length = n.size := rfl
  simp only [bodyL, List.length_append, be_length, List.length_nil, h]; omega

theorem snum_int (B b : Nat) (n sz : Int) (l : List UInt8) (w : World) (h : Bld 237 B w b l) (hB : B ≤ w.heap.size) (hbB : b < B) (hl : l.length ≤ 900000000) (hsz0 : 0 ≤ sz) (hsz : sz ≤ 8) (hn0 : 0 ≤ n) (hn : n < 4611686018427387904) :
    Calls Tryz.prog 145 #[.pointer (some ⟨b, 0, none⟩), .int .i64 n, .int .i64 sz] w fun e w' => e = .returned (.tuple #[]) ∧ Bld 237 B w' b (l ++ be sz.toNat n.toNat) ∧ Frm (bfr b B) w w' := by
  obtain ⟨n, rfl⟩ := Int.eq_ofNat_of_zero_le hn0
  obtain ⟨sz, rfl⟩ := Int.eq_ofNat_of_zero_le hsz0
  exact snum_any B b n sz l w h hB hbB hl (by omega) (by omega)
theorem stext_int (B b : Nat) (sz : Int) (l : List UInt8) (s : ByteArray) (w : World) (h : Bld 237 B w b l) (hB : B ≤ w.heap.size) (hbB : b < B) (hl : l.length ≤ 800000000) (hsz0 : 0 ≤ sz) (hsz : sz ≤ 8) (hs : s.size ≤ 100000000) :
    Calls Tryz.prog 146 #[.pointer (some ⟨b, 0, none⟩), .string s, .int .i64 sz] w fun e w' => e = .returned (.tuple #[]) ∧ Bld 237 B w' b (l ++ be sz.toNat s.size ++ s.data.toList) ∧ Frm (bfr b B) w w' := by
  obtain ⟨sz, rfl⟩ := Int.eq_ofNat_of_zero_le hsz0
  exact stext_any B b sz l s w h hB hbB hl (by omega) hs

theorem crc_list (l : List UInt8) (w : World) (hs : l.length ≤ 1000000) :
    Calls Tryz.prog 104 #[.string ⟨l.toArray⟩] w fun e w' => e = .returned (.int .i64 (crcN l : Nat)) ∧ w = w' := by
  have h := crc_any ⟨l.toArray⟩ w (by show l.toArray.size ≤ _; simp; omega)
  simpa using h

/-- between two calls of Encode: w at its start, wi now -/
structure EInv (w wi : World) (mb b B : Nat) (cs : Array Value) (l : List UInt8) : Prop where
  bld : Bld 237 B wi b l
  size : B ≤ wi.heap.size
  frm : Frm nothing w wi
  msg : wi.heap[mb]? = some (.cells cs 117 (0, 0))
  sum : wi.heap[b + 1]? = some (.cells #[.pointer none, .slice none 0 0] 237 (0, 0))
  bB : b < B
  b2 : b + 2 = B
  mbb : mb < b
  old : w.heap.size ≤ mb
  len : l.length ≤ 1000000
theorem EInv.step {w wi w' : World} {mb b B : Nat} {cs : Array Value} {l l' : List UInt8} (h : EInv w wi mb b B cs l) (hb : Bld 237 B w' b l') (hf : Frm (bfr b B) wi w') (hl : l'.length ≤ 1000000) : EInv w w' mb b B cs l' := by
  have h1 := h.b2; have h2 := h.mbb; have h3 := h.old
  refine ⟨hb, Nat.le_trans h.size hf.size, h.frm.trans hf fun k o hk hp => ?_, hf.keep h.msg fun hp => ?_, hf.keep h.sum fun hp => ?_, h.bB, h1, h2, h3, hl⟩
  · rcases hp with hp | hp <;> omega
  · rcases hp with hp | hp <;> omega
  · rcases hp with hp | hp <;> omega

set_option maxHeartbeats 4000000 in
set_option maxRecDepth 100000 in
theorem encode_ok (k f t o : Nat) (n : ByteArray) (w : World) (h : MsgOk k f t o n) :
    Calls Tryz.prog 101 #[msgV k f t o n] w fun e w' => e = .returned (.tuple #[.string (encS k f t o n), .int .i64 0]) ∧ Frm nothing w w' := by
  have HM := hid h
  have hns : n.size ≤ 32 := h.n.2.1
  have hk := h.k4; have hf := h.f; have ht := h.t; have ho := h.o
  clear h
  go_enter Tryz.func101, Tryz.ntmps101
  go_wp2_with fail
  refine (right_ok k f t o n _ HM.out).mono ?_
  rintro e w1 ⟨rfl, hf1⟩
  have HF1 := hid (((Frm.refl nothing w).alloc (.cells (msgC k f t o n) 117)).trans hf1 fun _ _ _ h => h)
  have hm1 := hf1.keep (heap_new w _) id
  clear hf1
  have HM0 := hid hm1
  have hml : w.heap.size < w1.heap.size := heap_lt hm1
  have HI0 : Hid (∃ mb b B wi, mb = w.heap.size ∧ b = w1.heap.size ∧ B = w1.heap.size + 2 ∧ wi = (w1.alloc (.cells #[.pointer none, .slice none 0 0] 237)).alloc (.cells #[.pointer none, .slice none 0 0] 237) ∧ EInv w wi mb b B (msgC k f t o n) []) := by
    refine ⟨_, _, _, _, rfl, rfl, rfl, rfl, ⟨Bld.new (heap_old (heap_new w1 _)) _, by simp, (HF1.out.alloc _).alloc _, heap_old (heap_old hm1), heap_new2 w1 _ _, by omega, rfl, hml, Nat.le_refl _, by simp⟩⟩
  have c0 := cell_at (i := 0) hm1
  clear hm1
  go_wp2_with fail
  obtain ⟨mb, b, B, wi, e1, e2, e3, e4, hI⟩ := HI0.out
  rw [← e1, ← e2, ← e4]
  rw [← e1] at c0
  clear HM0 HF1 hml c0 HI0 e4 e3
  clear e1 e2
  have HI0 := hid hI
  clear hI
  refine (snum_int B b k 1 _ _ HI0.out.bld HI0.out.size HI0.out.bB (by have := HI0.out.len; omega) (by omega) (by omega) (by omega) (by omega)).mono ?_
  rintro e w3 ⟨rfl, hb, hf⟩
  have HI1 := hid (HI0.out.step hb hf (by first | (simp; done) | (simp; omega) | (have := HI0.out.len; simp at this; simp; omega)))
  clear hb hf
  have c1 := cell_at (i := 1) HI1.out.msg
  go_wp2_with fail
  refine (snum_int B b f 2 _ _ HI1.out.bld HI1.out.size HI1.out.bB (by have := HI1.out.len; omega) (by omega) (by omega) (by omega) (by omega)).mono ?_
  rintro e w4 ⟨rfl, hb, hf⟩
  have HI2 := hid (HI1.out.step hb hf (by first | (simp; done) | (simp; omega) | (have := HI1.out.len; simp at this; simp; omega)))
  clear hb hf
  have c2 := cell_at (i := 2) HI2.out.msg
  go_wp2_with fail
  refine (snum_int B b t 2 _ _ HI2.out.bld HI2.out.size HI2.out.bB (by have := HI2.out.len; omega) (by omega) (by omega) (by omega) (by omega)).mono ?_
  rintro e w5 ⟨rfl, hb, hf⟩
  have HI3 := hid (HI2.out.step hb hf (by first | (simp; done) | (simp; omega) | (have := HI2.out.len; simp at this; simp; omega)))
  clear hb hf
  have c3 := cell_at (i := 3) HI3.out.msg
  go_wp2_with fail
  refine (snum_int B b o 8 _ _ HI3.out.bld HI3.out.size HI3.out.bB (by have := HI3.out.len; omega) (by omega) (by omega) (by omega) (by omega)).mono ?_
  rintro e w6 ⟨rfl, hb, hf⟩
  have HI4 := hid (HI3.out.step hb hf (by first | (simp; done) | (simp; omega) | (have := HI3.out.len; simp at this; simp; omega)))
  clear hb hf
  have c4 := cell_at (i := 4) HI4.out.msg
  go_wp2_with fail
  refine (stext_int B b 1 _ n _ HI4.out.bld HI4.out.size HI4.out.bB (by have := HI4.out.len; omega) (by omega) (by omega) (by first | omega | decide)).mono ?_
  rintro e w7 ⟨rfl, hb, hf⟩
  have HI5 := hid (HI4.out.step hb hf (by first | (simp; done) | (simp; omega) | (have := HI4.out.len; simp at this; simp; omega)))
  clear hb hf
  have c5 := cell_at (i := 5) HI5.out.msg
  go_wp2_with fail
  refine (snum_int B b 0 8 _ _ HI5.out.bld HI5.out.size HI5.out.bB (by have := HI5.out.len; omega) (by omega) (by omega) (by omega) (by omega)).mono ?_
  rintro e w8 ⟨rfl, hb, hf⟩
  have HI6 := hid (HI5.out.step hb hf (by first | (simp; done) | (simp; omega) | (have := HI5.out.len; simp at this; simp; omega)))
  clear hb hf
  have c6 := cell_at (i := 6) HI6.out.msg
  go_wp2_with fail
  refine (snum_int B b 0 2 _ _ HI6.out.bld HI6.out.size HI6.out.bB (by have := HI6.out.len; omega) (by omega) (by omega) (by omega) (by omega)).mono ?_
  rintro e w9 ⟨rfl, hb, hf⟩
  have HI7 := hid (HI6.out.step hb hf (by first | (simp; done) | (simp; omega) | (have := HI6.out.len; simp at this; simp; omega)))
  clear hb hf
  have c7 := cell_at (i := 7) HI7.out.msg
  go_wp2_with fail
  refine (stext_int B b 4 _ ⟨#[]⟩ _ HI7.out.bld HI7.out.size HI7.out.bB (by have := HI7.out.len; omega) (by omega) (by omega) (by first | omega | decide)).mono ?_
  rintro e w10 ⟨rfl, hb, hf⟩
  have HI8 := hid (HI7.out.step hb hf (by first | (simp; done) | (simp; omega) | (have := HI7.out.len; simp at this; simp; omega)))
  clear hb hf
  have c8 := cell_at (i := 8) HI8.out.msg
  go_wp2_with fail
  refine (snum_int B b 0 2 _ _ HI8.out.bld HI8.out.size HI8.out.bB (by have := HI8.out.len; omega) (by omega) (by omega) (by omega) (by omega)).mono ?_
  rintro e w11 ⟨rfl, hb, hf⟩
  have HI9 := hid (HI8.out.step hb hf (by first | (simp; done) | (simp; omega) | (have := HI8.out.len; simp at this; simp; omega)))
  clear hb hf
  have c9 := cell_at (i := 8) HI9.out.msg
  go_wp2_with fail
  refine wp_loop_rounds 1 ?_
  rw [rounds_succ]
  go_wp2_with fail
  have hne : bodyL k f t o n ≠ [] := fun h => by have := bodyL_len k f t o n; rw [h] at this; simp at this; omega
  have hF : BldF 237 B w11 b (bodyL k f t o n) := HI9.out.bld.toF hne
  refine (bstring_any hasSheet B b (bodyL k f t o n) _ hF hne HI9.out.bB).mono ?_
  rintro e w12 ⟨rfl, hF2, hf2⟩
  have hI9 := HI9.out
  have hb2 := hI9.b2
  have hmbb := hI9.mbb
  have hold := hI9.old
  have hw12 : B ≤ w12.heap.size := Nat.le_trans hI9.size hf2.size
  have hbl : (bodyL k f t o n).length ≤ 1000 := by rw [bodyL_len]; omega
  have HF12 := hid (hI9.frm.trans hf2 fun k o hk hp => by have h2 := hI9.mbb; have h3 := hI9.old; simp only [from_] at hp; omega)
  have HS := hid hF2
  have hsum := hf2.keep hI9.sum (fun hp => by simp only [from_] at hp; omega)
  have HB2 := hid (snum_int w12.heap.size (b + 1) (crcN (bodyL k f t o n) : Nat) 4 [] w12 (Bld.new hsum _) (Nat.le_refl _) (by omega) (by simp) (by omega) (by omega) (by omega) (by have := crcN_lt (bodyL k f t o n); omega))
  clear hf2 hF2 hF hI9 hsum
  go_wp2_with fail
  refine (crc_list (bodyL k f t o n) w12 (by omega)).mono ?_
  rintro e w13 ⟨rfl, rfl⟩
  go_wp2_with fail
  refine HB2.out.mono ?_
  rintro e w14 ⟨rfl, hb14, hf14⟩
  have hne4 : ([] ++ be (Int.toNat 4) (Int.toNat (crcN (bodyL k f t o n) : Nat))) ≠ [] := fun h => by have := congrArg List.length h; simp at this
  have HF14 := hid (HF12.out.trans hf14 fun k o hk hp => by have h3 := HF12.out.size; rcases hp with hp | hp <;> omega)
  have HSum := hid (bstring_any hasSheet w12.heap.size (b + 1) _ w14 (hb14.toF hne4) hne4 (by omega))
  have HFs := hid hf14
  have hz14 := hf14.size
  clear hb14 hf14 hne4
  go_wp2_with fail
  refine HSum.out.mono ?_
  rintro e w15 ⟨rfl, _, hf15⟩
  have hs15 : BldF 237 B w15 b (bodyL k f t o n) := HS.out.frm (HFs.out.trans hf15 fun k o _ hp => .inr hp) (fun o hp => by rcases hp with hp | hp <;> omega) (fun k o h1 h2 hp => by rcases hp with hp | hp <;> omega)
  have HF15 := hid (HF14.out.trans hf15 fun k o hk hp => by have h3 := HF12.out.size; simp only [from_] at hp; omega)
  have HS15 := hid (bstring_any hasSheet B b (bodyL k f t o n) w15 hs15 hne (by omega))
  clear hs15 hf15
  go_wp2_with fail
  refine HS15.out.mono ?_
  rintro e w16 ⟨rfl, _, hf16⟩
  have HF16 := hid (HF15.out.trans hf16 fun k o hk hp => by simp only [from_] at hp; omega)
  clear hf16
  go_wp2
  go_ret2
  refine ⟨ret_str2 (bytes_ext ?_), HF16.out⟩
  simp [encS, encL]
end Go.Proofs.YtmakanmjdfpcmaaGreat
