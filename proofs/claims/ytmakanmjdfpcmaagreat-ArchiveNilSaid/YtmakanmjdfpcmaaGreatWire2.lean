/- Walks of package wire at messages without manifest and bands: within, right, sheet.text. -/
import Derived.Test.YtmakanmjdfpcmaaGreatWire
import Derived.Test.YtmakanmjdfpcmaaGreatName
import Derived.Test.YtmakanmjdfpcmaaGreatCrc
namespace Go.Proofs.YtmakanmjdfpcmaaGreat
open Go.RowKit

abbrev msgC (k f t o : Nat) (n : ByteArray) : Array Value := #[.int .i64 k, .int .i64 f, .int .i64 t, .int .i64 o, .string n, .int .i64 0, .int .i64 0, .string ⟨#[]⟩, .slice none 0 0]
abbrev msgV (k f t o : Nat) (n : ByteArray) : Value := .agg (msgC k f t o n)
structure MsgOk (k f t o : Nat) (n : ByteArray) : Prop where
  k1 : 1 ≤ k
  k4 : k ≤ 4
  f : f ≤ 1023
  t : t ≤ 1023
  o : o ≤ 60000
  n : NameOk n

theorem within_ok (n m : Int) (w : World) (h0 : 0 ≤ n) (h1 : n ≤ m) : Calls Tryz.prog 148 #[.int .i64 n, .int .i64 m] w fun e w' => e = .returned (.bool true) ∧ w = w' := by
  go_enter Tryz.func148, Tryz.ntmps148
  go_wp2
  go_ret
  exact ⟨rfl, rfl⟩

set_option maxHeartbeats 1000000 in
set_option maxRecDepth 100000 in
theorem right_ok (k f t o : Nat) (n : ByteArray) (w : World) (h : MsgOk k f t o n) :
    Calls Tryz.prog 106 #[msgV k f t o n] w fun e w' => e = .returned (.bool true) ∧ Frm nothing w w' := by
  obtain ⟨h1, h2, h3, h4, h5, hn⟩ := h
  have HN := hid hn
  clear hn
  go_enter Tryz.func106, Tryz.ntmps106
  go_wp2_with (first
    | (go_at_call 77; refine (name_ok _ _ HN.out).mono ?_; rintro e w' ⟨rfl, rfl⟩)
    | (go_at_call 148; refine (within_ok _ _ _ (by omega) (by omega)).mono ?_; rintro e w' ⟨rfl, rfl⟩)
    | (go_at_call 149; refine (containsFunc_nil _ _).mono ?_; rintro e w' ⟨rfl, rfl⟩))
  go_ret
  exact ⟨rfl, (Frm.refl _ _).alloc _⟩

set_option maxHeartbeats 1000000 in
theorem stext_any (B b sz : Nat) (l : List UInt8) (s : ByteArray) (w : World) (h : Bld 237 B w b l) (hB : B ≤ w.heap.size) (hbB : b < B) (hl : l.length ≤ 800000000) (hsz : sz ≤ 8) (hs : s.size ≤ 100000000) :
    Calls Tryz.prog 146 #[.pointer (some ⟨b, 0, none⟩), .string s, .int .i64 sz] w fun e w' => e = .returned (.tuple #[]) ∧ Bld 237 B w' b (l ++ be sz s.size ++ s.data.toList) ∧ Frm (bfr b B) w w' := by
  have HC := hid (snum_any B b s.size sz l w h hB hbB (by omega) hsz (by omega))
  clear h
  go_enter Tryz.func146, Tryz.ntmps146
  go_wp2_with fail
  refine HC.out.mono ?_
  rintro e w1 ⟨rfl, hb1, hf1⟩
  have HF := hid hf1
  have HD := hid (wstring_any hasSheet B b _ s w1 hb1 (Nat.le_trans hB hf1.size) hbB (by simp; omega) (by omega))
  clear hb1 hf1
  go_wp2_with (go_at_call 41; refine HD.out.mono ?_; rintro e w2 ⟨rfl, hb2, hf2⟩; have HB2 := hid hb2; have HF2 := hid hf2; clear hb2 hf2)
  go_end0
  exact ⟨rfl, HB2.out, HF.out.trans HF2.out fun _ _ _ h => h⟩
end Go.Proofs.YtmakanmjdfpcmaaGreat
