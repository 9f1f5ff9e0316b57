/- Small laws on worlds: what may change between two worlds ('Frm'), and blocks known whole. -/
import Derived.WalkKit
import Derived.WalkSpells
import Derived.WalkLawsBesides
import Derived.Deep.QuietTactic
import Derived.Deep.LoopGhost
import Derived.BigQuiet
namespace Go.Proofs.YtmakanmjdfpcmaaGreat
open Go.RowKit

/-- a fact kept from the walk; back by .out -/
theorem hid {p : Prop} (h : p) : Hid p := h

/-- Between w and w' only blocks of which 'P' holds may have changed; new ones may have come. -/
structure Frm (P : Nat → Obj → Prop) (w w' : World) : Prop where
  os : w'.os = w.os
  tape : w'.tape = w.tape
  output : w'.output = w.output
  size : w.heap.size ≤ w'.heap.size
  block : ∀ (k : Nat) (o : Obj), w.heap[k]? = some o → ¬ P k o → w'.heap[k]? = some o

def Obj.ty : Obj → Option TypeId
  | .cells _ e _ => some e
  | _ => none

/-- nothing that was there changes -/
abbrev nothing : Nat → Obj → Prop := fun _ _ => False
abbrev only (b : Nat) : Nat → Obj → Prop := fun k _ => k = b
abbrev from_ (B : Nat) : Nat → Obj → Prop := fun k _ => B ≤ k

variable {P Q R : Nat → Obj → Prop} {a w w' w1 w2 : World}

theorem Frm.refl (P : Nat → Obj → Prop) (w : World) : Frm P w w := ⟨rfl, rfl, rfl, Nat.le_refl _, fun _ _ h _ => h⟩
theorem heap_lt {w : World} {k : Nat} {o : Obj} (h : w.heap[k]? = some o) : k < w.heap.size := (Array.getElem?_eq_some_iff.1 h).1
theorem Frm.trans (h1 : Frm P a w) (h2 : Frm Q w w') (hq : ∀ k o, k < a.heap.size → Q k o → P k o) : Frm P a w' :=
  ⟨h2.os.trans h1.os, h2.tape.trans h1.tape, h2.output.trans h1.output, Nat.le_trans h1.size h2.size,
    fun k o hk hp => h2.block k o (h1.block k o hk hp) (fun hc => hp (hq k o (heap_lt hk) hc))⟩
theorem Frm.mono (h : Frm P w w') (hq : ∀ k o, k < w.heap.size → P k o → Q k o) : Frm Q w w' :=
  ⟨h.os, h.tape, h.output, h.size, fun k o hk hp => h.block k o hk (fun hc => hp (hq k o (heap_lt hk) hc))⟩
theorem Frm.drew (h : Frm P a w) : Frm P a w.drew := ⟨h.os, h.tape, h.output, h.size, h.block⟩
theorem Frm.drewN (h : Frm P a w) (n : Nat) : Frm P a (w.drewN n) := ⟨h.os, h.tape, h.output, h.size, h.block⟩
theorem Frm.alloc (h : Frm P a w) (o : Obj) : Frm P a (w.alloc o) :=
  ⟨h.os, h.tape, h.output, by have := h.size; simp; omega, fun k o' hk hp => by
    have := h.block k o' hk hp
    rw [show (w.alloc o).heap = w.heap.push o from rfl, Array.getElem?_push, if_neg (by have := heap_lt this; omega)]; exact this⟩
theorem Frm.setCell (h : Frm P a w) (p : Addr) (u : Value) (hp : ∀ o, a.heap[p.block]? = some o → P p.block o) : Frm P a (w.setCell p u) :=
  ⟨h.os, h.tape, h.output, by have := h.size; simpa [World.setCell] using this, fun k o' hk hp' => by
    have := h.block k o' hk hp'
    rw [Below.heap_setCell _ _ _ _ (fun e => by subst e; exact hp' (hp o' hk))]; exact this⟩
theorem Frm.grown (h : Frm P a w) {row : Option Nat} (hg : w.grownBy w' row) (hp : ∀ k o, row = some k → a.heap[k]? = some o → P k o) : Frm P a w' :=
  ⟨hg.os.trans h.os, hg.tape.trans h.tape, hg.output.trans h.output, Nat.le_trans h.size hg.size, fun k o hk hn => by
    have h1 := h.block k o hk hn
    rw [hg.block k (heap_lt h1) (fun e => hn (hp k o e.symm hk))]; exact h1⟩
theorem Frm.below (h : Frm P w w') {B : Nat} (hB : B ≤ w.heap.size) (hp : ∀ k o, k < B → ¬ P k o) : Below B w w' :=
  ⟨h.os, h.tape, h.output, h.size, fun k hk => by
    have hlt : k < w.heap.size := by omega
    rw [h.block k w.heap[k] (by simp [hlt]) (hp k _ hk)]; simp [hlt]⟩
theorem Frm.of_below {B : Nat} (h : Below B w w') : Frm (from_ B) w w' :=
  ⟨h.os, h.tape, h.output, h.size, fun k o hk hn => by rw [h.block k (by simp only [from_] at hn; omega)]; exact hk⟩

/- a block of cells, its cells and marks -/
theorem cell_at {w : World} {b i : Nat} {c : Array Value} {T : TypeId} {f : Nat × Nat} (h : w.heap[b]? = some (.cells c T f)) : w.cell? ⟨b, i, none⟩ = c[i]? := by
  simp [World.cell?, h]
theorem free_at {w : World} {b : Nat} {c : Array Value} {T : TypeId} (h : w.heap[b]? = some (.cells c T (0, 0))) (i : Nat) : w.frozen? ⟨b, i, none⟩ = false := by
  simp [World.frozen?, h]
theorem heap_set {w : World} {b i : Nat} {c : Array Value} {T : TypeId} {f : Nat × Nat} {v : Value} (h : w.heap[b]? = some (.cells c T f)) :
    (w.setCell ⟨b, i, none⟩ v).heap[b]? = some (.cells (c.setIfInBounds i v) T f) := by
  simp [World.setCell, Array.getElem?_modify, h]
theorem heap_set_ne {w : World} {b b' i : Nat} {v : Value} (h : b' ≠ b) : (w.setCell ⟨b, i, none⟩ v).heap[b']? = w.heap[b']? :=
  Below.heap_setCell _ _ _ _ h
theorem heap_new (w : World) (o : Obj) : (w.alloc o).heap[w.heap.size]? = some o := heap_alloc_new w o
theorem heap_at {w : World} {o : Obj} {k : Nat} (h : k = w.heap.size) : (w.alloc o).heap[k]? = some o := by
  subst h; exact heap_new w o
theorem heap_old {w : World} {k : Nat} {o o' : Obj} (h : w.heap[k]? = some o) : (w.alloc o').heap[k]? = some o := by
  rw [show (w.alloc o').heap = w.heap.push o' from rfl, Array.getElem?_push, if_neg (by have := heap_lt h; omega)]; exact h
/-- two blocks of two types are two -/
theorem ne_of_ty {w : World} {b b' : Nat} {c c' : Array Value} {T T' : TypeId} {f f' : Nat × Nat} (h : w.heap[b]? = some (.cells c T f)) (h' : w.heap[b']? = some (.cells c' T' f')) (hT : T ≠ T') : b ≠ b' := by
  rintro rfl
  rw [h] at h'
  simp at h'
  exact hT h'.2.1
theorem Frm.setRow (h : Frm P a w) (g : Nat) (cs : Array Value) (hp : ∀ o, a.heap[g]? = some o → P g o) : Frm P a (w.setRow g cs) :=
  ⟨h.os, h.tape, h.output, by have := h.size; simpa [World.setRow] using this, fun k o' hk hp' => by
    have h1 := h.block k o' hk hp'
    have hne : g ≠ k := fun e => by subst e; exact hp' (hp o' hk)
    simp only [World.setRow, Array.getElem?_modify, if_neg hne]; exact h1⟩
theorem heap_row {w : World} {g : Nat} {c cs : Array Value} {T : TypeId} {f : Nat × Nat} (h : w.heap[g]? = some (.cells c T f)) : (w.setRow g cs).heap[g]? = some (.cells cs T f) := by
  simp [World.setRow, Array.getElem?_modify, h]
theorem heap_row_ne {w : World} {g k : Nat} {cs : Array Value} (h : k ≠ g) : (w.setRow g cs).heap[k]? = w.heap[k]? := by
  simp [World.setRow, Array.getElem?_modify, Ne.symm h]
theorem Frm.keep (h : Frm P w w') {k : Nat} {o : Obj} (hk : w.heap[k]? = some o) (hP : ¬ P k o) : w'.heap[k]? = some o := h.block k o hk hP
theorem heap_new2 (w : World) (o o' : Obj) : ((w.alloc o).alloc o').heap[w.heap.size + 1]? = some o' := by
  have := heap_new (w.alloc o) o'
  rwa [show (w.alloc o).heap.size = w.heap.size + 1 by simp] at this
theorem heap_new3 (w : World) (o o' o'' : Obj) : (((w.alloc o).alloc o').alloc o'').heap[w.heap.size + 2]? = some o'' := by
  have := heap_new ((w.alloc o).alloc o') o''
  rwa [show ((w.alloc o).alloc o').heap.size = w.heap.size + 2 by simp] at this
/-- a slice's own block is one that may change -/
def RowFrm (P : Nat → Obj → Prop) (a : World) (v : Value) : Prop := ∀ k o, v.ownBlock = some k → a.heap[k]? = some o → P k o
theorem RowFrm.next {v : Value} {g n cap : Nat} (h : RowFrm P a v) (hf : Frm P a w) (hg : some g = v.ownBlock ∨ w.heap.size ≤ g) : RowFrm P a (.slice (some ⟨g, 0, none⟩) n cap) := by
  intro k o hk ho
  simp [Value.ownBlock] at hk
  subst hk
  rcases hg with hg | hg
  · exact h _ o hg.symm ho
  · have := heap_lt ho; have := hf.size; omega
theorem RowFrm.nil (P : Nat → Obj → Prop) (a : World) : RowFrm P a (.slice none 0 0) := by intro k o hk; simp [Value.ownBlock] at hk
theorem RowFrm.of_own {B : Nat} {e : TypeId} {size : Nat} {v : Value} {n : Nat} {xs : List Value} (h : a.ownsRow B e size v n xs) (hP : ∀ k c, B ≤ k → P k (.cells c e (0, 0))) : RowFrm P a v := by
  intro k o hk ho
  rcases h.2 with ⟨rfl, _⟩ | ⟨g, cap, cur, rfl, hb, hg, _⟩
  · simp [Value.ownBlock] at hk
  · simp [Value.ownBlock] at hk
    subst hk
    rw [hg] at ho
    cases ho
    exact hP _ _ hb
theorem cells1 {w : World} {b : Nat} {x0 : Value} {T : TypeId} (h : w.heap[b]? = some (.cells #[x0] T (0, 0))) :
    w.cell? ⟨b, 0, none⟩ = some x0 ∧
    w.frozen? ⟨b, 0, none⟩ = false :=
  ⟨cell_at h, free_at h 0⟩
theorem cells2 {w : World} {b : Nat} {x0 x1 : Value} {T : TypeId} (h : w.heap[b]? = some (.cells #[x0, x1] T (0, 0))) :
    w.cell? ⟨b, 0, none⟩ = some x0 ∧ w.cell? ⟨b, 1, none⟩ = some x1 ∧
    w.frozen? ⟨b, 0, none⟩ = false ∧ w.frozen? ⟨b, 1, none⟩ = false :=
  ⟨cell_at h, cell_at h, free_at h 0, free_at h 1⟩
theorem cells3 {w : World} {b : Nat} {x0 x1 x2 : Value} {T : TypeId} (h : w.heap[b]? = some (.cells #[x0, x1, x2] T (0, 0))) :
    w.cell? ⟨b, 0, none⟩ = some x0 ∧ w.cell? ⟨b, 1, none⟩ = some x1 ∧ w.cell? ⟨b, 2, none⟩ = some x2 ∧
    w.frozen? ⟨b, 0, none⟩ = false ∧ w.frozen? ⟨b, 1, none⟩ = false ∧ w.frozen? ⟨b, 2, none⟩ = false :=
  ⟨cell_at h, cell_at h, cell_at h, free_at h 0, free_at h 1, free_at h 2⟩
theorem cells4 {w : World} {b : Nat} {x0 x1 x2 x3 : Value} {T : TypeId} (h : w.heap[b]? = some (.cells #[x0, x1, x2, x3] T (0, 0))) :
    w.cell? ⟨b, 0, none⟩ = some x0 ∧ w.cell? ⟨b, 1, none⟩ = some x1 ∧ w.cell? ⟨b, 2, none⟩ = some x2 ∧ w.cell? ⟨b, 3, none⟩ = some x3 ∧
    w.frozen? ⟨b, 0, none⟩ = false ∧ w.frozen? ⟨b, 1, none⟩ = false ∧ w.frozen? ⟨b, 2, none⟩ = false ∧ w.frozen? ⟨b, 3, none⟩ = false :=
  ⟨cell_at h, cell_at h, cell_at h, cell_at h, free_at h 0, free_at h 1, free_at h 2, free_at h 3⟩
theorem cells5 {w : World} {b : Nat} {x0 x1 x2 x3 x4 : Value} {T : TypeId} (h : w.heap[b]? = some (.cells #[x0, x1, x2, x3, x4] T (0, 0))) :
    w.cell? ⟨b, 0, none⟩ = some x0 ∧ w.cell? ⟨b, 1, none⟩ = some x1 ∧ w.cell? ⟨b, 2, none⟩ = some x2 ∧ w.cell? ⟨b, 3, none⟩ = some x3 ∧ w.cell? ⟨b, 4, none⟩ = some x4 ∧
    w.frozen? ⟨b, 0, none⟩ = false ∧ w.frozen? ⟨b, 1, none⟩ = false ∧ w.frozen? ⟨b, 2, none⟩ = false ∧ w.frozen? ⟨b, 3, none⟩ = false ∧ w.frozen? ⟨b, 4, none⟩ = false :=
  ⟨cell_at h, cell_at h, cell_at h, cell_at h, cell_at h, free_at h 0, free_at h 1, free_at h 2, free_at h 3, free_at h 4⟩
theorem cells6 {w : World} {b : Nat} {x0 x1 x2 x3 x4 x5 : Value} {T : TypeId} (h : w.heap[b]? = some (.cells #[x0, x1, x2, x3, x4, x5] T (0, 0))) :
    w.cell? ⟨b, 0, none⟩ = some x0 ∧ w.cell? ⟨b, 1, none⟩ = some x1 ∧ w.cell? ⟨b, 2, none⟩ = some x2 ∧ w.cell? ⟨b, 3, none⟩ = some x3 ∧ w.cell? ⟨b, 4, none⟩ = some x4 ∧ w.cell? ⟨b, 5, none⟩ = some x5 ∧
    w.frozen? ⟨b, 0, none⟩ = false ∧ w.frozen? ⟨b, 1, none⟩ = false ∧ w.frozen? ⟨b, 2, none⟩ = false ∧ w.frozen? ⟨b, 3, none⟩ = false ∧ w.frozen? ⟨b, 4, none⟩ = false ∧ w.frozen? ⟨b, 5, none⟩ = false :=
  ⟨cell_at h, cell_at h, cell_at h, cell_at h, cell_at h, cell_at h, free_at h 0, free_at h 1, free_at h 2, free_at h 3, free_at h 4, free_at h 5⟩
theorem cells7 {w : World} {b : Nat} {x0 x1 x2 x3 x4 x5 x6 : Value} {T : TypeId} (h : w.heap[b]? = some (.cells #[x0, x1, x2, x3, x4, x5, x6] T (0, 0))) :
    w.cell? ⟨b, 0, none⟩ = some x0 ∧ w.cell? ⟨b, 1, none⟩ = some x1 ∧ w.cell? ⟨b, 2, none⟩ = some x2 ∧ w.cell? ⟨b, 3, none⟩ = some x3 ∧ w.cell? ⟨b, 4, none⟩ = some x4 ∧ w.cell? ⟨b, 5, none⟩ = some x5 ∧ w.cell? ⟨b, 6, none⟩ = some x6 ∧
    w.frozen? ⟨b, 0, none⟩ = false ∧ w.frozen? ⟨b, 1, none⟩ = false ∧ w.frozen? ⟨b, 2, none⟩ = false ∧ w.frozen? ⟨b, 3, none⟩ = false ∧ w.frozen? ⟨b, 4, none⟩ = false ∧ w.frozen? ⟨b, 5, none⟩ = false ∧ w.frozen? ⟨b, 6, none⟩ = false :=
  ⟨cell_at h, cell_at h, cell_at h, cell_at h, cell_at h, cell_at h, cell_at h, free_at h 0, free_at h 1, free_at h 2, free_at h 3, free_at h 4, free_at h 5, free_at h 6⟩
theorem cells9 {w : World} {b : Nat} {x0 x1 x2 x3 x4 x5 x6 x7 x8 : Value} {T : TypeId} (h : w.heap[b]? = some (.cells #[x0, x1, x2, x3, x4, x5, x6, x7, x8] T (0, 0))) :
    w.cell? ⟨b, 0, none⟩ = some x0 ∧ w.cell? ⟨b, 1, none⟩ = some x1 ∧ w.cell? ⟨b, 2, none⟩ = some x2 ∧ w.cell? ⟨b, 3, none⟩ = some x3 ∧ w.cell? ⟨b, 4, none⟩ = some x4 ∧ w.cell? ⟨b, 5, none⟩ = some x5 ∧ w.cell? ⟨b, 6, none⟩ = some x6 ∧ w.cell? ⟨b, 7, none⟩ = some x7 ∧ w.cell? ⟨b, 8, none⟩ = some x8 ∧
    w.frozen? ⟨b, 0, none⟩ = false ∧ w.frozen? ⟨b, 1, none⟩ = false ∧ w.frozen? ⟨b, 2, none⟩ = false ∧ w.frozen? ⟨b, 3, none⟩ = false ∧ w.frozen? ⟨b, 4, none⟩ = false ∧ w.frozen? ⟨b, 5, none⟩ = false ∧ w.frozen? ⟨b, 6, none⟩ = false ∧ w.frozen? ⟨b, 7, none⟩ = false ∧ w.frozen? ⟨b, 8, none⟩ = false :=
  ⟨cell_at h, cell_at h, cell_at h, cell_at h, cell_at h, cell_at h, cell_at h, cell_at h, cell_at h, free_at h 0, free_at h 1, free_at h 2, free_at h 3, free_at h 4, free_at h 5, free_at h 6, free_at h 7, free_at h 8⟩
/- ends -/
theorem ret_int {k : IntKind} {a b : Int} (h : a = b) : Ending.returned (.int k a) = .returned (.int k b) := by rw [h]
theorem ret_int2 {k : IntKind} {a b : Int} {v : Value} (h : a = b) : Ending.returned (.tuple #[.int k a, v]) = .returned (.tuple #[.int k b, v]) := by rw [h]
theorem ret_str {a b : ByteArray} (h : a = b) : Ending.returned (.string a) = .returned (.string b) := by rw [h]
theorem ret_str2 {a b : ByteArray} {v : Value} (h : a = b) : Ending.returned (.tuple #[.string a, v]) = .returned (.tuple #[.string b, v]) := by rw [h]
theorem ret_bool {a b : Bool} (h : a = b) : Ending.returned (.bool a) = .returned (.bool b) := by rw [h]
end Go.Proofs.YtmakanmjdfpcmaaGreat
