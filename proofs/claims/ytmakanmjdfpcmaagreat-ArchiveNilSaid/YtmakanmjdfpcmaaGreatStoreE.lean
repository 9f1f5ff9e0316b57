/- Walks of package store on an empty disk: Open, Get. -/
import Derived.Test.YtmakanmjdfpcmaaGreatSeglogE
import Derived.Maps.OwnSet
namespace Go.Proofs.YtmakanmjdfpcmaaGreat
open Go.RowKit
open Go.Maps Go.MapKept Go.ChangeMaps Go.WideMaps

open Classical in
/-- a lookup in an empty map -/
theorem run_lookup_empty {P : Program} {w : World} {t k e : TypeId} {b : Nat} {z key : Value} {kl : Lit} (K : Keyed P k) (ht : P.underlying t = some (.map k e)) (hz : (zeroValue e).run P w = .ok z w)
    (hb : w.heap[b]? = some (.map #[] 0)) (hkey : keyOf P k key = some kl) : (Instr.lookup t (.map (some b)) key true).run P w = .ok (.tuple #[z, .bool false]) w := by
  obtain ⟨v, ps, h1, h2⟩ := (show w.ownsMap (H := Unit) P k (fun v => if v = z then some (.nil, []) else none) b 0 (.map []) from ⟨#[], 0, hb, ⟨by simp, stamped_empty 0, by simp⟩, Nat.le_refl _, rfl⟩).look_ok K ht hz (zd := .nil) (zp := []) (by simp) hkey
  split at h2
  · subst v; exact h1
  · cases h2

/-- block s is a store with nothing in it, on the disk at block d, whose log has not begun -/
def EStore (w : World) (s d : Nat) : Prop := ∃ l b1 b2 : Nat, w.heap[s]? = some (.cells #[.pointer (some ⟨l, 0, none⟩), .map (some b1), .map (some b2), .bool false] 181 (0, 0)) ∧
  w.heap[b1]? = some (.map #[] 0) ∧ w.heap[b2]? = some (.map #[] 0) ∧ ELog w l d
theorem EStore.still {w w' : World} {s d : Nat} (h : EStore w s d) (hf : Frm nothing w w') : EStore w' s d := by
  obtain ⟨l, b1, b2, h0, h1, h2, h3⟩ := h
  exact ⟨l, b1, b2, hf.keep h0 id, hf.keep h1 id, hf.keep h2 id, hf.keep h3 id⟩

theorem sopenE (d : Nat) (w : World) (hd : EDisk w d) :
    Calls Tryz.prog 80 #[.pointer (some ⟨d, 0, none⟩)] w fun e w' => ∃ s, e = .returned (.tuple #[.pointer (some ⟨s, 0, none⟩), .int .i64 0]) ∧ w.heap.size ≤ s ∧ EStore w' s d ∧ Frm nothing w w' := by
  have HD := hid hd
  have hmm := @run_makeMap Tryz.prog
  clear hd
  go_enter Tryz.func80, Tryz.ntmps80
  go_wp2_with (first | (go_at_call 123; refine (slopenE d _ HD.out).mono ?_; rintro e w1 ⟨l, rfl, hle, hl, hf⟩; have HL := hid (And.intro hle (And.intro hl hf)); clear hle hl hf))
  refine wp_loop_rounds 1 ?_
  rw [rounds_succ]
  go_wp2
  go_ret2
  obtain ⟨hle, hl, hf⟩ := HL.out
  refine ⟨_, rfl, by have := hf.size; simp; omega, ⟨l, _, _, heap_new3 w1 _ _ _, heap_old (heap_old (heap_new w1 _)), heap_old (heap_new2 w1 _ _), ?_⟩, ((hf.alloc _).alloc _).alloc _⟩
  exact heap_old (heap_old (heap_old hl))

theorem zeroContent (w : World) : (zeroValue 177).run Tryz.prog w = .ok (.agg #[.int .i64 0, .int .i64 0, .string ⟨#[]⟩]) w := by kernel_rfl

theorem getE (s d : Nat) (k : ByteArray) (w : World) (hs : EStore w s d) (hk : k.size ≤ maxLen) :
    Calls Tryz.prog 95 #[.pointer (some ⟨s, 0, none⟩), .string k] w fun e w' => e = .returned (.tuple #[.agg #[.int .i64 0, .int .i64 0], .string ⟨#[]⟩, .slice none 0 0, .int .i64 41]) ∧
      w' = (w.alloc (.cells #[.int .i64 0, .int .i64 0] 40)).alloc (.cells #[.int .i64 0, .int .i64 0, .string ⟨#[]⟩] 177) := by
  obtain ⟨l, b1, b2, h0, h1, h2, h3⟩ := hs
  have hlk := fun o => run_lookup_empty (P := Tryz.prog) (w := w.alloc o) (string_keyed Tryz.underlying9) Tryz.underlying175 (zeroContent _) (heap_old h2) (keyOf_string_mk Tryz.underlying9 hk)
  obtain ⟨c0, c1, c2, c3, _⟩ := cells4 h0
  have hsl := heap_lt h0
  clear h0 h1 h2 h3
  go_enter Tryz.func95, Tryz.ntmps95
  go_wp2
  refine bodyPost_ret (v := .tuple #[.agg #[.int .i64 0, .int .i64 0], .string ⟨#[]⟩, .slice none 0 0, .int .i64 41]) (by simp [results, Tryz.results95, go_sem]) rfl ?_
  exact ⟨rfl, rfl⟩
end Go.Proofs.YtmakanmjdfpcmaaGreat
