/- cmp.Compare at int, cmp.Or of two, store.Newer. -/
import Derived.Test.YtmakanmjdfpcmaaGreatProg
import Derived.Test.YtmakanmjdfpcmaaGreatK
import Derived.Deep.RegionHeld3
namespace Go.Proofs.YtmakanmjdfpcmaaGreat
open Go.RowKit

def cmpI (x y : Int) : Int := if x < y then -1 else if y < x then 1 else 0
def orI (p q : Int) : Int := if p = 0 then q else p
def newerB (a0 a1 b0 b1 : Int) : Bool := decide (0 < orI (cmpI a0 b0) (cmpI a1 b1))

theorem heap_at_drew {w : World} {o : Obj} {k : Nat} (h : k = w.heap.size) : (w.alloc o).drew.heap[k]? = some o := heap_at h
theorem compare_any (x y : Int) (w : World) : Calls Tryz.prog 198 #[.int .i64 x, .int .i64 y] w fun e w' => e = .returned (.int .i64 (cmpI x y)) ∧ w = w' := by
  rcases Int.lt_trichotomy x y with h | h | h
  · have e : cmpI x y = -1 := by rw [cmpI, if_pos h]
    rw [e]; clear e
    go_enter Tryz.func198, Tryz.ntmps198
    go_wp2
    go_ret
    exact ⟨rfl, rfl⟩
  · have e : cmpI x y = 0 := by rw [cmpI, if_neg (by omega), if_neg (by omega)]
    rw [e]; clear e
    subst h
    go_enter Tryz.func198, Tryz.ntmps198
    go_wp2
    go_ret
    exact ⟨rfl, rfl⟩
  · have e : cmpI x y = 1 := by rw [cmpI, if_neg (by omega), if_pos h]
    have h2 : ¬ x < y := by omega
    rw [e]; clear e
    go_enter Tryz.func198, Tryz.ntmps198
    go_wp2
    go_ret
    exact ⟨rfl, rfl⟩

set_option maxHeartbeats 1000000 in
theorem or_two (p q : Int) (b : Nat) (w : World) (hb : w.heap[b]? = some (.cells #[.int .i64 p, .int .i64 q] 3 (0, 0))) :
    Calls Tryz.prog 197 #[.slice (some ⟨b, 0, none⟩) 2 2] w fun e w' => e = .returned (.int .i64 (orI p q)) ∧ w = w' := by
  obtain ⟨h0, h1, _⟩ := cells2 hb
  clear hb
  by_cases hp : p = 0
  · subst hp
    rw [show orI 0 q = q from if_pos rfl]
    by_cases hq : q = 0
    · subst hq
      go_enter Tryz.func197, Tryz.ntmps197
      go_wp2
      refine wp_loop_rounds 3 ?_
      rw [rounds_succ]
      go_wp2
      rw [rounds_succ]
      go_wp2
      rw [rounds_succ]
      go_wp2
      go_ret
      exact ⟨rfl, rfl⟩
    · have hq2 : (q != 0) = true := by simpa using hq
      go_enter Tryz.func197, Tryz.ntmps197
      go_wp2
      refine wp_loop_rounds 2 ?_
      rw [rounds_succ]
      go_wp2
      rw [rounds_succ]
      go_wp2
      go_ret
      exact ⟨rfl, rfl⟩
  · rw [show orI p q = p from if_neg hp]
    have hp2 : (p != 0) = true := by simpa using hp
    go_enter Tryz.func197, Tryz.ntmps197
    go_wp2
    refine wp_loop_rounds 1 ?_
    rw [rounds_succ]
    go_wp2
    go_ret
    exact ⟨rfl, rfl⟩

set_option maxHeartbeats 1000000 in
theorem newer_any (a0 a1 b0 b1 : Int) (w : World) : Calls Tryz.prog 134 #[.agg #[.int .i64 a0, .int .i64 a1], .agg #[.int .i64 b0, .int .i64 b1]] w fun e w' => e = .returned (.bool (newerB a0 a1 b0 b1)) ∧ Frm nothing w w' := by
  unfold newerB
  have H1 := hid fun w => compare_any a0 b0 w
  have H2 := hid fun w => compare_any a1 b1 w
  generalize cmpI a0 b0 = p at *
  generalize cmpI a1 b1 = q at *
  have HO := hid fun b w => or_two p q b w
  generalize orI p q = r at *
  go_enter Tryz.func134, Tryz.ntmps134
  go_wp2
  go_region_held3 (fun w' => w'.cell? ⟨w.heap.size, 0, none⟩ = some (.int .i64 a0) ∧ w'.cell? ⟨w.heap.size, 1, none⟩ = some (.int .i64 a1) ∧ w'.cell? ⟨w.heap.size + 1, 0, none⟩ = some (.int .i64 b0) ∧ w'.cell? ⟨w.heap.size + 1, 1, none⟩ = some (.int .i64 b1)) (go_keep) (first
    | (go_at_call_of 198 (Value.int IntKind.i64 a0); refine (H1.out _).mono ?_; rintro e w' ⟨rfl, rfl⟩)
    | (go_at_call_of 198 (Value.int IntKind.i64 a1); refine (H2.out _).mono ?_; rintro e w' ⟨rfl, rfl⟩)
    | (go_at_call 197; refine (HO.out _ _ ?_).mono ?_; exact heap_at_drew (by simp); rintro e w' ⟨rfl, rfl⟩))
  all_goals
    go_wp2
    go_ret
    refine ⟨rfl, by repeat (first | exact Frm.refl _ _ | apply Frm.drew | apply Frm.drewN | apply Frm.alloc)⟩
end Go.Proofs.YtmakanmjdfpcmaaGreat
