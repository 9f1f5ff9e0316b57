/- Walks of package replica: New; Handle at nil; Handle of an Ask, on an empty disk. -/
import Derived.Test.YtmakanmjdfpcmaaGreatStoreE
import Derived.Deep.RegionWith
namespace Go.Proofs.YtmakanmjdfpcmaaGreat
open Go.RowKit

theorem rnew_nil (id : Int) (w : World) : Calls Tryz.prog 81 #[.int .i64 id, .pointer none] w fun e w' => e = .returned (.tuple #[.pointer none, .int .i64 2]) ∧ w = w' := by
  go_enter Tryz.func81, Tryz.ntmps81
  go_wp2
  go_ret2
  exact ⟨rfl, rfl⟩
theorem rnew_ok (id : Int) (s : Addr) (w : World) (h0 : 0 ≤ id) (h1 : id < 1024) : Calls Tryz.prog 81 #[.int .i64 id, .pointer (some s)] w fun e w' =>
    ∃ r, e = .returned (.tuple #[.pointer (some ⟨r, 0, none⟩), .int .i64 0]) ∧ w.heap.size ≤ r ∧ w'.heap[r]? = some (.cells #[.int .i64 id, .pointer (some s)] 190 (0, 0)) ∧ Frm nothing w w' := by
  go_enter Tryz.func81, Tryz.ntmps81
  go_wp2
  go_ret2
  exact ⟨_, rfl, Nat.le_refl _, heap_new w _, (Frm.refl _ _).alloc _⟩

theorem handle_nil (m : Array Value) (w : World) : Calls Tryz.prog 66 #[.pointer none, .agg m] w fun e w' => e = .returned (.tuple #[.slice none 0 0, .int .i64 2]) ∧ Frm nothing w w' := by
  go_enter Tryz.func66, Tryz.ntmps66
  go_wp2
  go_ret2
  exact ⟨rfl, (Frm.refl _ _).alloc _⟩

set_option maxHeartbeats 1000000 in
theorem handle_askE (r s d : Nat) (id fr op c wh : Int) (nm mf : ByteArray) (bd : Value) (w : World) (hr : w.heap[r]? = some (.cells #[.int .i64 id, .pointer (some ⟨s, 0, none⟩)] 190 (0, 0))) (hs : EStore w s d) (hnm : nm.size ≤ maxLen) :
    Calls Tryz.prog 66 #[.pointer (some ⟨r, 0, none⟩), .agg #[.int .i64 1, .int .i64 fr, .int .i64 id, .int .i64 op, .string nm, .int .i64 c, .int .i64 wh, .string mf, bd]] w fun e w' =>
      ∃ b, e = .returned (.tuple #[.slice (some ⟨b, 0, none⟩) 1 1, .int .i64 0]) ∧ w.heap.size ≤ b ∧ Frm nothing w w' ∧
        w'.heap[b]? = some (.cells #[.int .i64 2, .int .i64 id, .int .i64 fr, .int .i64 op, .string nm, .int .i64 0, .int .i64 0, .string ⟨#[]⟩, .slice none 0 0] 117 (0, 0)) := by
  have HG := hid fun w' (hf : Frm nothing w w') => getE s d nm w' (hs.still hf) hnm
  obtain ⟨c0, c1, _⟩ := cells2 hr
  have hrl := heap_lt hr
  have HR := hid hr
  clear hr hs hnm
  go_enter Tryz.func66, Tryz.ntmps66
  go_wp2
  go_quiet (fail)
  go_wp2
  go_region
  go_wp2_with fail
  go_region_with (go_at_call 95; refine (HG.out _ ?_).mono ?_; (repeat (first | exact Frm.refl _ _ | apply Frm.drew | apply Frm.drewN | apply Frm.alloc)); rintro e w' ⟨rfl, rfl⟩)
  all_goals
    go_wp2
    go_ret2
    refine ⟨_, rfl, by omega, by repeat (first | exact Frm.refl _ _ | apply Frm.drew | apply Frm.drewN | apply Frm.alloc), ?_⟩
    exact heap_at (by simp)
end Go.Proofs.YtmakanmjdfpcmaaGreat
