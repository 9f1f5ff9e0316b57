/- archive: Put of no bytes at all (no PNG); the methods of a nil archive. -/
import Derived.Test.YtmakanmjdfpcmaaGreatArc5
namespace Go.Proofs.YtmakanmjdfpcmaaGreat
open Go.RowKit

def sigB : ByteArray := ⟨#[137, 80, 78, 71, 13, 10, 26, 10]⟩
theorem hasprefix_none (w : World) : Calls Tryz.prog 324 #[.string ⟨#[]⟩, .string ⟨#[137, 80, 78, 71, 13, 10, 26, 10]⟩] w fun e w' => e = .returned (.bool false) ∧ w = w' := by
  go_enter Tryz.func324, Tryz.ntmps324
  go_wp2
  go_ret
  exact ⟨rfl, rfl⟩
theorem cutprefix_none (w : World) : Calls Tryz.prog 270 #[.string ⟨#[]⟩, .string ⟨#[137, 80, 78, 71, 13, 10, 26, 10]⟩] w fun e w' => e = .returned (.tuple #[.string ⟨#[]⟩, .bool false]) ∧ w = w' := by
  go_enter Tryz.func270, Tryz.ntmps270
  go_wp2_with (go_at_call 324; refine (hasprefix_none _).mono ?_; rintro e w' ⟨rfl, rfl⟩)
  go_ret2
  exact ⟨rfl, rfl⟩
theorem cutprefix_none2 (w : World) : Calls Tryz.prog 227 #[.string ⟨#[]⟩, .string ⟨#[137, 80, 78, 71, 13, 10, 26, 10]⟩] w fun e w' => e = .returned (.tuple #[.string ⟨#[]⟩, .bool false]) ∧ w = w' := by
  go_enter Tryz.func227, Tryz.ntmps227
  go_wp2_with (go_at_call 270; refine (cutprefix_none _).mono ?_; rintro e w' ⟨rfl, rfl⟩)
  go_ret2
  exact ⟨rfl, rfl⟩
theorem split_none (w : World) : Calls Tryz.prog 182 #[.string ⟨#[]⟩] w fun e w' => e = .returned (.tuple #[.slice none 0 0, .int .i64 20]) ∧ w = w' := by
  go_enter Tryz.func182, Tryz.ntmps182
  go_wp2_with (go_at_call 227; refine (cutprefix_none2 _).mono ?_; rintro e w' ⟨rfl, rfl⟩)
  go_ret2
  exact ⟨rfl, rfl⟩
theorem unpacked_none (w : World) : Calls Tryz.prog 121 #[.string ⟨#[]⟩] w fun e w' => e = .returned (.tuple #[.agg #[.int .i64 0, .int .i64 0, .int .i64 0, .int .i64 0, .int .i64 0, .string ⟨#[]⟩, .string ⟨#[]⟩, .bool false], .string ⟨#[]⟩, .int .i64 20]) ∧ Frm nothing w w' := by
  go_enter Tryz.func121, Tryz.ntmps121
  go_wp2_with (go_at_call 182; refine (split_none _).mono ?_; rintro e w' ⟨rfl, rfl⟩)
  refine bodyPost_ret (v := .tuple #[.agg #[.int .i64 0, .int .i64 0, .int .i64 0, .int .i64 0, .int .i64 0, .string ⟨#[]⟩, .string ⟨#[]⟩, .bool false], .string ⟨#[]⟩, .int .i64 20]) (by simp [results, Tryz.results121, go_sem]) rfl ?_
  exact ⟨rfl, by with_reducible repeat (first | exact Frm.refl _ _ | apply Frm.drew | apply Frm.drewN | apply Frm.alloc)⟩
theorem pdecode_none (w : World) : Calls Tryz.prog 78 #[.string ⟨#[]⟩] w fun e w' => e = .returned (.tuple #[.agg #[.int .i64 0, .int .i64 0, .string ⟨#[]⟩], .int .i64 20]) ∧ Frm nothing w w' := by
  go_enter Tryz.func78, Tryz.ntmps78
  go_wp2_with fail
  refine (unpacked_none _).mono ?_
  rintro e w1 ⟨rfl, hf1⟩
  have hb1 := hf1.keep (k := w.heap.size) (o := .cells #[.int .i64 0, .int .i64 0, .string ⟨#[]⟩] 31 (0, 0)) (heap_new w _) (fun h => h)
  obtain ⟨v0, v1, v2, g0, g1, g2⟩ := cells3 hb1
  have hsl := heap_lt hb1
  have HB1 := hid hb1
  have HF1 := hid hf1
  clear hf1 hb1
  go_wp2_with fail
  have hbA := heap_old (o' := .cells #[.int .i64 0, .int .i64 0, .int .i64 0, .int .i64 0, .int .i64 0, .string ⟨#[]⟩, .string ⟨#[]⟩, .bool false] 205) (setCell_same (i := 2) (v := .string ⟨#[]⟩) (setCell_same (i := 1) (v := .int .i64 0) (setCell_same (i := 0) (v := .int .i64 0) HB1.out rfl) rfl) rfl)
  have q0 := cell_at (i := 0) hbA
  have q1 := cell_at (i := 1) hbA
  have q2 := cell_at (i := 2) hbA
  refine bodyPost_ret (v := .tuple #[.agg #[.int .i64 0, .int .i64 0, .string ⟨#[]⟩], .int .i64 20]) (by simp [results, Tryz.results78, go_sem, q0, q1, q2, hsl]) rfl ?_
  refine ⟨rfl, ?_⟩
  have hn : ∀ o, w.heap[w.heap.size]? = some o → nothing w.heap.size o := fun o ho => absurd (heap_lt ho) (Nat.lt_irrefl _)
  have HF : Frm nothing w w1 := Frm.trans (P := nothing) (Q := nothing) ((Frm.refl _ _).alloc _) HF1.out fun _ _ _ h => h
  with_reducible repeat (first | exact HF | refine Frm.setCell ?_ _ _ hn | apply Frm.drew | apply Frm.drewN | apply Frm.alloc)
theorem aput_none (z : Nat) (n : ByteArray) (w : World) (hn : NameOk n) : Calls Tryz.prog 31 #[.pointer (some ⟨z, 0, none⟩), .string n, .string ⟨#[]⟩] w fun e w' => e = .returned (.int .i64 20) ∧ Frm nothing w w' := by
  have HN := hid hn
  clear hn
  go_enter Tryz.func31, Tryz.ntmps31
  go_wp2_with (first | (go_at_call 77; refine (name_ok _ _ HN.out).mono ?_; rintro e w' ⟨rfl, rfl⟩) | (go_at_call 78; refine (pdecode_none _).mono ?_; rintro e w1 ⟨rfl, hf1⟩; have HF1 := hid hf1; clear hf1))
  go_ret
  refine ⟨rfl, ?_⟩
  with_reducible repeat (first | exact Frm.refl _ _ | exact HF1.out | apply Frm.drew | apply Frm.drewN | apply Frm.alloc | refine Frm.trans (P := nothing) (Q := nothing) ?_ HF1.out fun _ _ _ h => h)

/- nil archives -/
theorem za_get (s : ByteArray) (w : World) : Calls Tryz.prog 28 #[.pointer none, .string s] w fun e w' => e = .returned (.tuple #[.string ⟨#[]⟩, .int .i64 2]) ∧ w = w' := by
  go_enter Tryz.func28, Tryz.ntmps28
  go_wp2
  go_ret2
  exact ⟨rfl, rfl⟩
theorem za_list (w : World) : Calls Tryz.prog 29 #[.pointer none] w fun e w' => e = .returned (.tuple #[.slice none 0 0, .int .i64 2]) ∧ w = w' := by
  go_enter Tryz.func29, Tryz.ntmps29
  go_wp2
  go_ret2
  exact ⟨rfl, rfl⟩
theorem za_repair (w : World) : Calls Tryz.prog 30 #[.pointer none] w fun e w' => e = .returned (.tuple #[.int .i64 0, .int .i64 2]) ∧ w = w' := by
  go_enter Tryz.func30, Tryz.ntmps30
  go_wp2
  go_ret2
  exact ⟨rfl, rfl⟩
theorem za_put (s t : ByteArray) (w : World) : Calls Tryz.prog 31 #[.pointer none, .string s, .string t] w fun e w' => e = .returned (.int .i64 2) ∧ w = w' := by
  go_enter Tryz.func31, Tryz.ntmps31
  go_wp2
  go_ret
  exact ⟨rfl, rfl⟩
theorem za_again (w : World) : Calls Tryz.prog 32 #[.pointer none] w fun e w' => e = .returned (.int .i64 2) ∧ w = w' := by
  go_enter Tryz.func32, Tryz.ntmps32
  go_wp2
  go_ret
  exact ⟨rfl, rfl⟩
theorem za_down (n : Int) (w : World) : Calls Tryz.prog 33 #[.pointer none, .int .i64 n] w fun e w' => e = .returned (.int .i64 2) ∧ w = w' := by
  go_enter Tryz.func33, Tryz.ntmps33
  go_wp2
  go_ret
  exact ⟨rfl, rfl⟩
theorem za_arm (n m : Int) (w : World) : Calls Tryz.prog 34 #[.pointer none, .int .i64 n, .int .i64 m] w fun e w' => e = .returned (.int .i64 2) ∧ w = w' := by
  go_enter Tryz.func34, Tryz.ntmps34
  go_wp2
  go_ret
  exact ⟨rfl, rfl⟩
theorem za_start (n : Int) (l : Value) (w : World) : Calls Tryz.prog 35 #[.pointer none, .int .i64 n, l] w fun e w' => e = .returned (.int .i64 2) ∧ w = w' := by
  go_enter Tryz.func35, Tryz.ntmps35
  go_wp2
  go_ret
  exact ⟨rfl, rfl⟩
theorem za_compact (n : Int) (w : World) : Calls Tryz.prog 36 #[.pointer none, .int .i64 n] w fun e w' => e = .returned (.int .i64 2) ∧ w = w' := by
  go_enter Tryz.func36, Tryz.ntmps36
  go_wp2
  go_ret
  exact ⟨rfl, rfl⟩
end Go.Proofs.YtmakanmjdfpcmaaGreat
