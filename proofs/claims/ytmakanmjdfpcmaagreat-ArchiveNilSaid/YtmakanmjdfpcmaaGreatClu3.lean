/- slices.Delete of one text; cluster's take. -/
import Derived.Test.YtmakanmjdfpcmaaGreatClu2
import Derived.Test.YtmakanmjdfpcmaaGreatDel
namespace Go.Proofs.YtmakanmjdfpcmaaGreat
open Go.RowKit Go.Lib Go.Sort Go.Shelf

def putL (c : Array Value) : Nat → List Value → Array Value
  | _, [] => c
  | o, v :: r => putL (c.setIfInBounds o v) (o + 1) r
theorem putL_size (vs : List Value) : ∀ (o : Nat) (c : Array Value), (putL c o vs).size = c.size := by
  induction vs with
  | nil => intro o c; rfl
  | cons v r ih => intro o c; rw [putL, ih]; simp
theorem putL_get (vs : List Value) : ∀ (o : Nat) (c : Array Value) (j : Nat), o + vs.length ≤ c.size → (putL c o vs)[j]? = if o ≤ j ∧ j < o + vs.length then vs[j - o]? else c[j]? := by
  induction vs with
  | nil => intro o c j _; rw [putL, if_neg (by simp only [List.length_nil]; omega)]
  | cons v r ih =>
    intro o c j h
    simp only [List.length_cons] at h
    rw [putL, ih _ _ _ (by simp; omega)]
    by_cases h1 : o + 1 ≤ j ∧ j < o + 1 + r.length
    · rw [if_pos h1, if_pos ⟨by omega, by simp; omega⟩, show j - o = (j - (o + 1)) + 1 by omega]
      rfl
    · rw [if_neg h1]
      by_cases h2 : j = o
      · subst h2
        rw [if_pos ⟨by omega, by simp⟩]
        simp [Array.getElem?_setIfInBounds]; omega
      · rw [if_neg (by simp; omega)]
        simp [Array.getElem?_setIfInBounds]; omega
theorem heap_setCells {g : Nat} {T : TypeId} {f : Nat × Nat} (vs : List Value) : ∀ (o : Nat) (c : Array Value) (w : World), w.heap[g]? = some (.cells c T f) → (w.setCells g o vs).heap[g]? = some (.cells (putL c o vs) T f) := by
  induction vs with
  | nil => intro o c w h; exact h
  | cons v r ih => intro o c w h; exact ih _ _ _ (heap_set h)
theorem Frm.setCells {P : Nat → Obj → Prop} {a : World} {g : Nat} (hp : ∀ o, a.heap[g]? = some o → P g o) (vs : List Value) : ∀ (o : Nat) (w : World), Frm P a w → Frm P a (w.setCells g o vs) := by
  induction vs with
  | nil => intro o w h; exact h
  | cons v r ih => intro o w h; exact ih _ _ (h.setCell _ _ hp)

def encAt (net : List Msg) (j : Nat) : ByteArray := (net[j]?.map Msg.enc).getD ⟨#[]⟩
theorem strsOf_net (net : List Msg) : strsOf (encAt net) net.length = net.map fun m => m.enc.data.toList := by
  apply List.ext_getElem
  · simp [strsOf]
  · intro i h1 h2
    have h3 : i < net.length := by simpa [strsOf] using h1
    simp [strsOf, encAt, h3]
theorem encStr_data (s : ByteArray) : encStr s.data.toList = .string s := by
  show Value.string _ = _
  congr 1

set_option maxHeartbeats 1000000 in
theorem delete_net (g cap i : Nat) (net : List Msg) (w : World) (hn : w.ownsRow 0 9 1 (.slice (some ⟨g, 0, none⟩) net.length cap) net.length (netC net)) (hi : i < net.length) (hl : net.length ≤ 1000) :
    Calls Tryz.prog 102 #[.slice (some ⟨g, 0, none⟩) net.length cap, .int .i64 i, .int .i64 (i + 1 : Nat)] w fun e w' => e = .returned (.slice (some ⟨g, 0, none⟩) (net.length - 1) cap) ∧
      w'.ownsRow 0 9 1 (.slice (some ⟨g, 0, none⟩) (net.length - 1) cap) (net.length - 1) (netC (net.eraseIdx i)) ∧ Frm (only g) w w' := by
  obtain ⟨g', cap', cur, hv, _, hg, h1, h2, h3, h4⟩ : ∃ (g' cap' : Nat) (cur : Array Value), (Value.slice (some ⟨g, 0, none⟩) net.length cap) = .slice (some ⟨g', 0, none⟩) net.length cap' ∧ 0 ≤ g' ∧ w.heap[g']? = some (.cells cur 9 (0, 0)) ∧ net.length ≤ cap' ∧ cap' ≤ maxLen ∧ cur.size = cap' * 1 ∧ cur.toList.take (net.length * 1) = netC net := by
    rcases hn.2 with ⟨h1, _⟩ | h1
    · cases h1
    · exact h1
  obtain ⟨rfl, rfl⟩ : g = g' ∧ cap = cap' := by simpa using hv
  clear hv
  have hc : ∀ j, j < net.length → w.cell? ⟨g, 0 + j, none⟩ = some (.string (encAt net j)) := by
    intro j hj
    rw [Nat.zero_add, cell_at hg]
    have h5 : (netC net)[j]? = some (.string (encAt net j)) := by simp [netC, encAt, hj]
    rw [← h4, List.getElem?_take_of_lt (by omega)] at h5
    simpa using h5
  have hf : ∀ j, j < net.length → w.frozen? ⟨g, 0 + j, none⟩ = false := fun j _ => free_at hg _
  have H := Any.slices_Delete_string_cells Tryz.laysDel g 0 net.length cap i (i + 1) (encAt net) w h1 (by unfold maxLen at h2; omega) (by omega) (by omega) hc hf
  change Calls Tryz.prog 102 _ _ _ at H
  refine H.mono ?_
  rintro e w' ⟨rfl, q, rfl⟩
  rw [show i + 1 - i = 1 by omega, strsOf_net]
  have hlen : ((List.take i (net.map fun m : Msg => m.enc.data.toList) ++ List.drop (i + 1) (net.map fun m : Msg => m.enc.data.toList) ++ List.replicate 1 []).map encStr).length = net.length := by simp; omega
  have hvs : ((List.take i (net.map fun m : Msg => m.enc.data.toList) ++ List.drop (i + 1) (net.map fun m : Msg => m.enc.data.toList) ++ List.replicate 1 []).map encStr).take (net.length - 1) = netC (net.eraseIdx i) := by
    rw [List.map_append, List.take_append_of_le_length (by simp; omega), List.take_of_length_le (by simp; omega), ← List.map_take, ← List.map_drop, ← List.map_append, ← List.eraseIdx_eq_take_drop_succ, List.map_map]
    simp only [netC]
    apply List.map_congr_left
    intro m _
    exact encStr_data m.enc
  refine ⟨rfl, ⟨by simp [List.length_eraseIdx, hi], .inr ⟨g, cap, _, rfl, Nat.zero_le _, heap_setCells _ 0 cur (w.drewN q) hg, by omega, h2, by rw [putL_size]; exact h3, ?_⟩⟩, Frm.setCells (fun _ _ => rfl) _ _ _ ((Frm.refl _ _).drewN q)⟩
  rw [← hvs]
  apply List.ext_getElem?
  intro j
  by_cases hj : j < net.length - 1
  · rw [List.getElem?_take_of_lt (by omega), List.getElem?_take_of_lt hj, Array.getElem?_toList, putL_get _ _ _ _ (by rw [hlen]; omega), if_pos ⟨Nat.zero_le _, by rw [hlen]; omega⟩]
    rfl
  · rw [List.getElem?_eq_none (by simp; omega), List.getElem?_eq_none (by rw [List.length_take]; omega)]
end Go.Proofs.YtmakanmjdfpcmaaGreat
