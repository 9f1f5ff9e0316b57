/- disk.Files: the files' numbers, rising (any disk; none, where it has none). -/
import Derived.Test.YtmakanmjdfpcmaaGreatDiskE
import Derived.Test.YtmakanmjdfpcmaaGreatIterF
namespace Go.Proofs.YtmakanmjdfpcmaaGreat
open Go.RowKit Go.Maps Go.Sort Go.Shelf
theorem Tryz.sortsF (m : Nat) : AnyZI.SortsIn Tryz.prog Tryz.sortedF_ren Fence.wide m :=
  ⟨fun blk off cap ss W hH hblk hsz => callsIn_wide.2 (AnyM.slices_Sort_int Tryz.sortF blk off cap ss W hH hblk hsz),
   fun p cap W => callsIn_wide.2 (AnyM.slices_Sort_int_none Tryz.sortF p cap W)⟩

set_option maxHeartbeats 1000000 in
theorem files_any {H : Type} (d b nn : Nat) (D0 : DataW H) (R : Value → Option (DataW H × List MemPlace)) (w : World) (hc : w.cell? ⟨d, 0, none⟩ = some (.map (some b))) (hown : w.ownsMap Tryz.prog 3 R b nn D0) (hmax : Maps.size D0 ≤ 1000000) :
    Calls Tryz.prog 109 #[.pointer (some ⟨d, 0, none⟩)] w fun e w' => ∃ (v : Value) (ss : List Int), e = .returned v ∧ ss.Perm (intKeys D0) ∧
      w'.ownsRow w.heap.size 3 1 v ss.length ((ss.mergeSort (fun x y => decide (x ≤ y))).map encZ) ∧ (v = .slice none 0 0 ↔ ss = []) ∧ Below w.heap.size w w' := by
  refine (callsIn_wide (n := 6)).1 ?_
  have hbl := hown.lt
  have hseq : SeqGives Fence.wide 2 Tryz.prog 206 #[.pointer (some ⟨w.heap.size, 0, none⟩)] encZ (fun ss => ss.Perm (intKeys D0)) (Maps.size D0) (w.alloc (.cells #[.map (some b)] 138)) :=
    AnyZI.keys_gives (ρ := Tryz.keysF_ren) { Tryz.keysF with } Fence.wide _ trivial rfl (by omega) w.heap.size b nn D0 _ (by simp) (by simp) (by
      obtain ⟨es, clock, hb, Ft, hs, hD⟩ := hown
      exact ⟨es, clock, (Below.heap_alloc _ _ b hbl).trans hb, Ft, hs, hD⟩)
  have cK : ∀ mb W, CallsIn Fence.wide 5 Tryz.prog 154 #[.map mb] W fun e w' => e = .returned (.func (.func 206) #[] #[.pointer (some ⟨W.heap.size, 0, none⟩)]) ∧ w' = W.alloc (.cells #[.map mb] 138) := fun mb W => AnyZI.keys_in Tryz.keysF Fence.wide 5 trivial rfl mb W
  have cS := AnyZI.sorted_in Tryz.sortedF Fence.wide 5 trivial trivial trivial trivial rfl (by omega) (Tryz.sortsF _) (enters_of Tryz.func205 (by kernel_rfl) rfl) 206 #[.pointer (some ⟨w.heap.size, 0, none⟩)] trivial (enters_of Tryz.func206 (by kernel_rfl) rfl) _ (Maps.size D0) (by unfold maxLen; omega) (by omega) _ hseq
  change CallsIn _ _ Tryz.prog 153 _ _ _ at cS
  have hfK : Fence.wide.fn 154 := trivial
  have hfS : Fence.wide.fn 153 := trivial
  refine callsIn_of_wp Tryz.func109 rfl trivial ?_ rfl
  simp only [Tryz.ntmps109, List.size_toArray, List.length_cons, List.length_nil, Nat.reduceAdd, Nat.reduceSub, Array.replicate_succ, Array.replicate_zero, List.push_toArray, List.append_toArray, List.nil_append, List.cons_append]
  gi_wp2_with (first
    | (gi_at_call 154; refine (cK _ _).mono ?_; rintro e w' ⟨rfl, rfl⟩)
    | (gi_at_call 153; refine cS.mono ?_; rintro e w' ⟨v, ss, rfl, hS, hrow, hnil, hb⟩))
  go_ret
  exact ⟨v, ss, rfl, hS, ownsRow_base_a hrow (by simp), hnil, ((Below.refl _ w).alloc (Nat.le_refl _) _).trans (hb.mono (by simp))⟩

theorem filesE (d : Nat) (w : World) (hd : EDisk w d) :
    Calls Tryz.prog 109 #[.pointer (some ⟨d, 0, none⟩)] w fun e w' => e = .returned (.slice none 0 0) ∧ Frm nothing w w' := by
  obtain ⟨mb, lim, st, h0, h1⟩ := hd
  have hown : w.ownsMap (H := Unit) Tryz.prog 3 (fun _ => none) mb 0 (.map []) := ⟨#[], 0, h1, ⟨by simp, Go.MapKept.stamped_empty 0, by simp⟩, Nat.le_refl _, rfl⟩
  refine (files_any d mb 0 (.map []) _ w (cell_at h0) hown (by simp [Maps.size])).mono ?_
  rintro e w' ⟨v, ss, rfl, hp, _, hn, hb⟩
  have hs : ss = [] := by simpa [intKeys] using hp
  rw [hn.2 hs]
  exact ⟨rfl, (Frm.of_below hb).mono fun k o hk hk' => by simp only [from_] at hk'; omega⟩
end Go.Proofs.YtmakanmjdfpcmaaGreat
