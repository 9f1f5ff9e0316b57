/- Walks of package client: Handle of a Tell. -/
import Derived.Test.YtmakanmjdfpcmaaGreatClient4
namespace Go.Proofs.YtmakanmjdfpcmaaGreat
open Go.RowKit

set_option maxHeartbeats 4000000 in
set_option maxRecDepth 100000 in
theorem handle_tell (k id rep op nk nf nt no en hb f : Nat) (H : List Int) (nn wn n : ByteArray) (w : World) (hk : Cli w k (cli id rep op 1 (.map (some hb)) nk nf nt no nn wn en)) (hH : Heard w hb H) (hl : H.length ≤ 900) (hr : rep ≤ 15) (hf : (f : Int) ∉ H) (hfr : f < rep) :
    Calls Tryz.prog 64 #[.pointer (some ⟨k, 0, none⟩), msgV 2 f id op n] w fun e w' => ∃ last nk nf nt no ph en' nn, last = decide ((rep : Int) < 2 * ((H.length + 1 : Nat) : Int)) ∧ e = .returned (.tuple #[.slice none 0 0, .bool last]) ∧ ph = (if last = true then 0 else 1) ∧ en' = (if last = true then 41 else en) ∧
      Cli w' k (cli id rep op ph (.map (some hb)) nk nf nt no nn wn en') ∧ Heard w' hb ((f : Int) :: H) ∧ Frm (fun q _ => q = k ∨ q = hb) w w' := by
  have hkl := heap_lt hk
  have HT : Hid (∀ w1, Frm nothing w w1 → Calls Tryz.prog 107 #[.pointer (some ⟨k, 0, none⟩), msgV 2 f id op n] w1 fun e w' => ∃ last nk nf nt no ph en' nn, last = decide ((rep : Int) < 2 * ((H.length + 1 : Nat) : Int)) ∧ e = .returned (.tuple #[.slice none 0 0, .bool last]) ∧ ph = (if last = true then 0 else 1) ∧ en' = (if last = true then 41 else en) ∧
      Cli w' k (cli id rep op ph (.map (some hb)) nk nf nt no nn wn en') ∧ Heard w' hb ((f : Int) :: H) ∧ Frm (fun q _ => q = k ∨ q = hb) w1 w') :=
    fun w1 h1 => tell_any k id rep op nk nf nt no en hb f op H nn wn n w1 (h1.keep hk (fun h => h)) (hH.frm h1 (fun _ _ h => h)) hl hr hf (by omega)
  have c0 := cell_at (i := 0) hk
  have c1 := cell_at (i := 1) hk
  have c2 := cell_at (i := 2) hk
  have c3 := cell_at (i := 3) hk
  have c5 := cell_at (i := 5) hk
  have hlk : ∀ o, (Instr.lookup 145 (.map (some hb)) (.int .i64 f) false).run Tryz.prog (w.alloc o).drew = .ok (.bool false) (w.alloc o).drew := by
    intro o
    have h := ((hH.frm ((Frm.refl nothing w).alloc o) (fun _ _ h => h)).drew).look f (by simp [Lit.wf, IntKind.min, IntKind.max, IntKind.signed, IntKind.bits]; omega)
    rw [show decide ((f : Int) ∈ H) = false by simpa using hf] at h
    exact h
  have hb1 : decide ((f : Int) < 0) = false := by simp
  have hb2 : decide ((rep : Int) ≤ (f : Int)) = false := by simp; omega
  have hb3 : decide (rep ≤ f) = false := by simp; omega
  have hb4 : ¬ rep ≤ f := by omega
  clear hk hH hf
  go_enter Tryz.func64, Tryz.ntmps64
  go_wp2_with fail
  go_region_held3 (fun w' => w'.cell? ⟨k, 0, none⟩ = some (.int .i64 id) ∧ w'.cell? ⟨k, 1, none⟩ = some (.int .i64 rep) ∧ w'.cell? ⟨k, 2, none⟩ = some (.int .i64 op) ∧ w'.cell? ⟨k, 3, none⟩ = some (.int .i64 1) ∧ w'.cell? ⟨k, 5, none⟩ = some (.map (some hb)) ∧ w'.cell? ⟨w.heap.size, 1, none⟩ = some (.int .i64 f) ∧ w'.cell? ⟨w.heap.size, 2, none⟩ = some (.int .i64 id) ∧ w'.cell? ⟨w.heap.size, 3, none⟩ = some (.int .i64 op) ∧ (Instr.lookup 145 (.map (some hb)) (.int .i64 f) false).run Tryz.prog w' = .ok (.bool false) w') (go_keep) (first | fail)
  all_goals
    go_wp2_with fail
    refine (HT.out _ ?_).mono ?_
    · repeat (first | with_reducible exact Frm.refl _ _ | with_reducible apply Frm.drew | with_reducible apply Frm.alloc)
    · rintro e w' ⟨last, nk, nf, nt, no, ph, en', nn, h1, rfl, h2, h3, h4, h5, hf⟩
      have HA := hid (And.intro h1 (And.intro h2 (And.intro h3 (And.intro h4 h5))))
      have HF := hid hf
      clear h1 h2 h3 h4 h5 hf
      go_wp2
      go_ret2
      obtain ⟨h1, h2, h3, h4, h5⟩ := HA.out
      refine ⟨last, nk, nf, nt, no, ph, en', nn, h1, rfl, h2, h3, h4, h5, ?_⟩
      refine Frm.trans (P := fun q _ => q = k ∨ q = hb) (Q := fun q _ => q = k ∨ q = hb) ?_ HF.out fun _ _ _ h => h
      repeat (first | with_reducible exact Frm.refl _ _ | with_reducible apply Frm.drew | with_reducible apply Frm.alloc)

set_option maxHeartbeats 4000000 in
set_option maxRecDepth 100000 in
theorem handle_idle (k : Nat) (cs : Array Value) (f t o : Nat) (n : ByteArray) (w : World) (hk : Cli w k cs) (hp : cs[3]? = some (.int .i64 0)) :
    Calls Tryz.prog 64 #[.pointer (some ⟨k, 0, none⟩), msgV 2 f t o n] w fun e w' => e = .returned (.tuple #[.slice none 0 0, .bool false]) ∧ Frm nothing w w' := by
  have hkl := heap_lt hk
  have c3 := (cell_at (i := 3) hk).trans hp
  clear hk hp
  go_enter Tryz.func64, Tryz.ntmps64
  go_wp2_with fail
  go_region
  all_goals
    go_wp2
    go_ret2
    refine ⟨rfl, ?_⟩
    repeat (first | with_reducible exact Frm.refl _ _ | with_reducible apply Frm.drew | with_reducible apply Frm.alloc)
end Go.Proofs.YtmakanmjdfpcmaaGreat
