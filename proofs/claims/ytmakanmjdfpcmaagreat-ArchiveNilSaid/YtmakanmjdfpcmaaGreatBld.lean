/- strings.Builder, in a block whose type T begins with one: copyCheck, WriteByte, WriteString, String. -/
import Derived.Test.YtmakanmjdfpcmaaGreatProg
import Derived.Test.YtmakanmjdfpcmaaGreatK
import Derived.Test.YtmakanmjdfpcmaaGreatA
import Derived.Lib.FrozenHead
import Derived.Lib.Builder
import Derived.Lib.UnsafeStr
namespace Go.Proofs.YtmakanmjdfpcmaaGreat
open Go.RowKit

theorem Tryz.infoU8 : (Tryz.prog.info? 5).map (fun i => (i.zero, i.size, i.bytes)) = some (some (.int .u8 0), 1, 1) := by kernel_rfl
theorem Tryz.infoBld : (Tryz.prog.info? 91).map (·.size) = some 2 := by kernel_rfl

def bys (l : List UInt8) : List Value := l.map fun c => Value.int .u8 c.toNat
@[simp] theorem bys_length (l : List UInt8) : (bys l).length = l.length := by simp [bys]
theorem bys_append (l r : List UInt8) : bys (l ++ r) = bys l ++ bys r := by simp [bys]

/-- T is of two cells, and begins with a Builder -/
structure HasB (T : TypeId) : Prop where
  lies : liesAt Tryz.prog Tryz.prog.depth T (2 / Tryz.prog.cellsOf T) 0 91 1 = true
  ne : T ≠ 5
theorem hasB : HasB 91 := ⟨by kernel_rfl, by decide⟩

/-- the builder at b, whose buffer lies from B on; it holds l -/
def Bld (T : TypeId) (B : Nat) (w : World) (b : Nat) (l : List UInt8) : Prop := ∃ (p v : Value), w.heap[b]? = some (.cells #[p, v] T (0, 0)) ∧ (p = .pointer none ∨ p = .pointer (some ⟨b, 0, none⟩)) ∧
  w.ownsRow B 5 1 v l.length (bys l)
abbrev bfr (b B : Nat) : Nat → Obj → Prop := fun k _ => k = b ∨ B ≤ k

theorem ownRow_form {w : World} {B : Nat} {e : TypeId} {size : Nat} {v : Value} {n : Nat} {xs : List Value} (h : w.ownsRow B e size v n xs) : ∃ ao cap, v = .slice ao n cap := by
  rcases h.2 with ⟨rfl, rfl⟩ | ⟨g, cap, cur, rfl, _⟩
  · exact ⟨_, _, rfl⟩
  · exact ⟨_, _, rfl⟩
theorem ownRow_ne {w : World} {B b : Nat} {e T : TypeId} {size : Nat} {v : Value} {n : Nat} {xs : List Value} {c : Array Value} {f : Nat × Nat} (h : w.ownsRow B e size v n xs) (hb : w.heap[b]? = some (.cells c T f)) (hT : T ≠ e) : v.ownBlock ≠ some b := by
  rcases h.2 with ⟨rfl, _⟩ | ⟨g, cap, cur, rfl, _, hg, _⟩
  · simp [Value.ownBlock]
  · simp only [Value.ownBlock, ne_eq, Option.some.injEq]
    exact ne_of_ty hg hb (fun e => hT e.symm)
theorem ownRow_from {w : World} {B : Nat} {e : TypeId} {size : Nat} {v : Value} {n : Nat} {xs : List Value} (h : w.ownsRow B e size v n xs) (b : Nat) : RowFrm (bfr b B) w v := by
  intro k o hk ho
  rcases h.2 with ⟨rfl, _⟩ | ⟨g, cap, cur, rfl, hb, _⟩
  · simp [Value.ownBlock] at hk
  · simp [Value.ownBlock] at hk
    subst hk
    exact .inr hb
theorem kept_grown {w w' : World} {row : Option Nat} {k : Nat} {o : Obj} (hg : w.grownBy w' row) (h : w.heap[k]? = some o) (hne : row ≠ some k) : w'.heap[k]? = some o := by
  rw [hg.block k (heap_lt h) (fun e => hne e.symm)]; exact h
theorem Bld.frm {T : TypeId} {B : Nat} {w w' : World} {b : Nat} {l : List UInt8} {P : Nat → Obj → Prop} (h : Bld T B w b l) (hf : Frm P w w') (h1 : ∀ o, ¬ P b o) (h2 : ∀ k o, B ≤ k → k < w.heap.size → ¬ P k o) : Bld T B w' b l := by
  obtain ⟨p, v, hb, hp, hv⟩ := h
  refine ⟨p, v, hf.block _ _ hb (h1 _), hp, hv.1, ?_⟩
  rcases hv.2 with h0 | ⟨g, cap, cur, h3, h4, h5, h6⟩
  · exact .inl h0
  · exact .inr ⟨g, cap, cur, h3, h4, hf.block _ _ h5 (h2 _ _ h4 (heap_lt h5)), h6⟩
theorem Bld.drew {T : TypeId} {B : Nat} {w : World} {b : Nat} {l : List UInt8} (h : Bld T B w b l) : Bld T B w.drew b l := h
theorem Bld.new {T : TypeId} {w : World} {b : Nat} (h : w.heap[b]? = some (.cells #[.pointer none, .slice none 0 0] T (0, 0))) (B : Nat) : Bld T B w b [] :=
  ⟨_, _, h, .inl rfl, rfl, .inl ⟨rfl, rfl⟩⟩

set_option maxHeartbeats 1000000 in
set_option maxRecDepth 100000 in
theorem copyCheck_any {T : TypeId} (hT : HasB T) (B b : Nat) (l : List UInt8) (w : World) (h : Bld T B w b l) :
    Calls Tryz.prog 82 #[.pointer (some ⟨b, 0, none⟩)] w fun e w' => e = .returned (.tuple #[]) ∧
      (∃ v, w'.heap[b]? = some (.cells #[.pointer (some ⟨b, 0, none⟩), v] T (0, 0)) ∧ w'.ownsRow B 5 1 v l.length (bys l)) ∧ Frm (only b) w w' ∧ w'.heap.size = w.heap.size := by
  obtain ⟨p, v, hb, hp, hv⟩ := h
  obtain ⟨j, hj, hjs⟩ := Option.map_eq_some_iff.1 Tryz.infoBld
  obtain ⟨c0, c1, f0, f1⟩ := cells2 hb
  have hsh : w.shape? b = some (T, 2) := by simp [World.shape?, hb]
  have hne := ownRow_ne hv hb hT.ne
  rcases hp with rfl | rfl
  · have k1 := Lib.run_to_unsafe (P := Tryz.prog) w ⟨b, 0, none⟩ Tryz.underlying88 Tryz.underlying211 hj (by rw [hjs]; decide) hsh (Nat.zero_lt_succ 1)
    have k2 := Lib.run_from_unsafe (P := Tryz.prog) w ⟨b, 0, none⟩ Tryz.underlying211 Tryz.underlying88 hj hsh hT.lies
    have HB := hid hb
    have HV := hid hv
    clear hb hv
    go_enter Tryz.func82, Tryz.ntmps82
    go_wp2
    rw [run_callFunc_extern Tryz.func125 (by kernel_rfl) (by kernel_rfl) (by kernel_rfl) (e := Extern.AbiNoEscape.same) (by kernel_rfl)]
    rw [Lib.run_noEscape]
    simp only [Result.andThen]
    rw [Oper.upon_value]
    go_wp2
    go_end0
    refine ⟨rfl, ⟨v, heap_set HB.out, ownsRow_setCell_other HV.out hne _⟩, (Frm.refl _ _).setCell _ _ fun _ _ => rfl, by simp⟩
  · have k1 := Lib.run_neq_ptr_same (P := Tryz.prog) w ⟨b, 0, none⟩ Tryz.underlying88 hj
    have HB := hid hb
    have HV := hid hv
    clear hb hv
    go_enter Tryz.func82, Tryz.ntmps82
    go_wp2
    go_end0
    exact ⟨rfl, ⟨v, HB.out, HV.out⟩, Frm.refl _ _, rfl⟩

set_option maxHeartbeats 1000000 in
set_option maxRecDepth 100000 in
theorem wbyte_any {T : TypeId} (hT : HasB T) (B b : Nat) (l : List UInt8) (c : Int) (w : World) (h : Bld T B w b l) (hB : B ≤ w.heap.size) (hbB : b < B) (hlen : l.length ≤ 1000000000) (hc0 : 0 ≤ c) (hc1 : c < 256) :
    Calls Tryz.prog 202 #[.pointer (some ⟨b, 0, none⟩), .int .u8 c] w fun e w' => e = .returned .nilIface ∧ Bld T B w' b (l ++ [UInt8.ofNat c.toNat]) ∧ Frm (bfr b B) w w' := by
  obtain ⟨i0, hi, hz0, hz1, hz2⟩ := info_parts Tryz.infoU8
  have HC := hid (copyCheck_any hT B b l w h)
  clear h
  go_enter Tryz.func202, Tryz.ntmps202
  go_wp2_with fail
  refine HC.out.mono ?_
  rintro e w1 ⟨rfl, ⟨v, hb1, hv1⟩, hf1, hs1⟩
  obtain ⟨c0, c1, f0, f1⟩ := cells2 hb1
  have hbs : b < w1.heap.size := by omega
  have hBs : B ≤ w1.heap.size := by omega
  have HN := hid (ownRow_ne hv1 hb1 hT.ne)
  have HR := hid (ownRow_from hv1 b)
  have HB := hid hb1
  have HV := hid hv1
  have HF := hid hf1
  have K1 : Hid (l.length < maxLen) := by show _ < maxLen; unfold maxLen; omega
  have K2 : Hid ((l.length + 1) * 1 ≤ 140737488355328) := by show _ ≤ _; omega
  have K3 : Hid (∀ o, B ≤ (w1.alloc o).heap.size) := by intro o; simp; omega
  clear hb1 hv1 hf1 hs1
  go_wp2_with (at_builtin; refine wpList_append_one rfl _ _ 89 rfl B 5 i0 (.int .u8 0) 1 Tryz.underlying89 hi hz0 hz1 hz2 rfl v l.length (bys l) rfl w1.heap.size rfl (.int .u8 c) (HV.out.alloc _) (cell_at (heap_new w1 _)) rfl K1.out K2.out (K3.out _) ?_; intro g cap w2 hown2 hgrow hgg; have hb2 := kept_grown hgrow (heap_old HB.out) HN.out; obtain ⟨d0, d1, q0, q1⟩ := cells2 hb2; have HB2 := hid hb2; have HO2 := hid hown2; have HG2 := hid hgrow; clear hb2 hown2 hgrow hgg)
  go_ret
  have e1 : bys (l ++ [UInt8.ofNat c.toNat]) = bys l ++ [.int .u8 c] := by
    have e2 : (((UInt8.ofNat c.toNat).toNat : Nat) : Int) = c := by rw [UInt8.toNat_ofNat']; omega
    rw [bys_append]; simp only [bys, List.map_cons, List.map_nil, e2]
  refine ⟨rfl, ⟨_, _, heap_set HB2.out, .inr rfl, ?_⟩, ?_⟩
  · rw [List.length_append, e1]
    exact ownsRow_setCell_other HO2.out (ownRow_ne HO2.out HB2.out hT.ne) _
  · have hR := HR.out
    have h1 : Frm (bfr b B) w w1 := HF.out.mono fun k _ _ h => .inl h
    have h2 : Frm (bfr b B) w1 (w2.setCell ⟨b, 1, none⟩ (.slice (some ⟨g, 0, none⟩) (l.length + 1) cap)) := (((Frm.refl _ _).alloc _).grown HG2.out fun k o hk ho => hR k o hk ho).setCell _ _ fun _ _ => .inl rfl
    exact h1.trans h2 fun _ _ _ h => h

set_option maxHeartbeats 1000000 in
set_option maxRecDepth 100000 in
theorem wstring_any {T : TypeId} (hT : HasB T) (B b : Nat) (l : List UInt8) (s : ByteArray) (w : World) (h : Bld T B w b l) (hB : B ≤ w.heap.size) (hbB : b < B) (hlen : l.length ≤ 1000000000) (hs : s.size ≤ 1000000000) :
    Calls Tryz.prog 41 #[.pointer (some ⟨b, 0, none⟩), .string s] w fun e w' => e = .returned (.tuple #[.int .i64 s.size, .nilIface]) ∧ Bld T B w' b (l ++ s.data.toList) ∧ Frm (bfr b B) w w' := by
  obtain ⟨i0, hi, hz0, hz1, hz2⟩ := info_parts Tryz.infoU8
  have HC := hid (copyCheck_any hT B b l w h)
  clear h
  go_enter Tryz.func41, Tryz.ntmps41
  go_wp2_with fail
  refine HC.out.mono ?_
  rintro e w1 ⟨rfl, ⟨v, hb1, hv1⟩, hf1, hs1⟩
  obtain ⟨c0, c1, f0, f1⟩ := cells2 hb1
  have hbs : b < w1.heap.size := by omega
  have hBs : B ≤ w1.heap.size := by omega
  have HN := hid (ownRow_ne hv1 hb1 hT.ne)
  have HR := hid (ownRow_from hv1 b)
  have HB := hid hb1
  have HV := hid hv1
  have HF := hid hf1
  have K1 : Hid (l.length + s.size ≤ maxLen) := by show _ ≤ maxLen; unfold maxLen; omega
  have K2 : Hid ((l.length + s.size) * 1 ≤ 140737488355328) := by show _ ≤ _; omega
  have K3 : Hid (B ≤ w1.heap.size) := by show _ ≤ _; omega
  have hd1 : (s.data.toList).length = s.size := by simp
  have HD := hid hd1
  clear hb1 hv1 hf1 hd1 hs1
  by_cases hs0 : s.size = 0
  · obtain ⟨ao, cap, rfl⟩ := ownRow_form HV.out
    have hsrc : Src Tryz.prog 1 9 (.string s) 0 [] w1 := by
      have h1 := Src.ofString (P := Tryz.prog) w1 (tx := 9) Tryz.underlying9 s
      have h2 : byteCells s = [] := List.eq_nil_of_length_eq_zero (by rw [byteCells_length]; exact hs0)
      rw [h2, hs0] at h1
      exact h1
    have HS := hid hsrc
    have HS0 := hid hs0
    clear hsrc hs0
    go_wp2_with (at_builtin; refine wpList_append_src0 rfl _ _ 89 9 rfl B 5 i0 1 Tryz.underlying89 hi hz1 _ l.length (bys l) rfl HV.out _ rfl HS.out ?_)
    go_ret2
    have h2 : s.data.toList = [] := List.eq_nil_of_length_eq_zero (by rw [HD.out]; exact HS0.out)
    refine ⟨rfl, ⟨_, _, heap_set HB.out, .inr rfl, ?_⟩, ?_⟩
    · rw [h2, List.append_nil]
      exact ownsRow_setCell_other HV.out HN.out _
    · exact (HF.out.mono fun k _ _ h => .inl h).trans ((Frm.refl (bfr b B) _).setCell _ _ fun _ _ => .inl rfl) fun _ _ _ h => h
  · go_wp2_with (at_builtin; refine wpList_append_src rfl _ _ 89 9 rfl B 5 i0 (.int .u8 0) 1 1 Tryz.underlying89 hi hz0 hz1 hz2 rfl v l.length (bys l) rfl HV.out _ s.size (byteCells s) rfl (Src.ofString _ Tryz.underlying9 s) (by omega) K1.out K2.out K3.out ?_; intro g cap w2 hown2 hgrow hgg; have hb2 := kept_grown hgrow HB.out HN.out; obtain ⟨d0, d1, q0, q1⟩ := cells2 hb2; have HB2 := hid hb2; have HO2 := hid hown2; have HG2 := hid hgrow; clear hb2 hown2 hgrow hgg)
    go_ret2
    have e1 : bys s.data.toList = byteCells s := rfl
    refine ⟨rfl, ⟨_, _, heap_set HB2.out, .inr rfl, ?_⟩, ?_⟩
    · rw [List.length_append, HD.out, bys_append, e1]
      exact ownsRow_setCell_other HO2.out (ownRow_ne HO2.out HB2.out hT.ne) _
    · have hR := HR.out
      have h1 : Frm (bfr b B) w w1 := HF.out.mono fun k _ _ h => .inl h
      have h2 : Frm (bfr b B) w1 (w2.setCell ⟨b, 1, none⟩ (.slice (some ⟨g, 0, none⟩) (l.length + s.size) cap)) := ((Frm.refl _ _).grown HG2.out fun k o hk ho => hR k o hk ho).setCell _ _ fun _ _ => .inl rfl
      exact h1.trans h2 fun _ _ _ h => h

/-- the builder at b, that String may have read -/
def BldF (T : TypeId) (B : Nat) (w : World) (b : Nat) (l : List UInt8) : Prop := ∃ (p : Value) (g cap : Nat) (cur : Array Value) (fz : Nat × Nat), w.heap[b]? = some (.cells #[p, .slice (some ⟨g, 0, none⟩) l.length cap] T (0, 0)) ∧
  B ≤ g ∧ w.heap[g]? = some (.cells cur 5 fz) ∧ l.length ≤ cap ∧ cap ≤ maxLen ∧ cur.size = cap ∧ cur.toList.take l.length = bys l
theorem Bld.toF {T : TypeId} {B : Nat} {w : World} {b : Nat} {l : List UInt8} (h : Bld T B w b l) (h0 : l ≠ []) : BldF T B w b l := by
  obtain ⟨p, v, hb, hp, hv⟩ := h
  rcases hv.2 with ⟨_, h1⟩ | ⟨g, cap, cur, rfl, h4, h5, h6, h7, h8, h9⟩
  · exact absurd (List.eq_nil_of_length_eq_zero h1) h0
  · exact ⟨p, g, cap, cur, _, hb, h4, h5, h6, h7, by simpa using h8, by simpa using h9⟩
theorem BldF.frm {T : TypeId} {B : Nat} {w w' : World} {b : Nat} {l : List UInt8} {P : Nat → Obj → Prop} (h : BldF T B w b l) (hf : Frm P w w') (h1 : ∀ o, ¬ P b o) (h2 : ∀ k o, B ≤ k → k < w.heap.size → ¬ P k o) : BldF T B w' b l := by
  obtain ⟨p, g, cap, cur, fz, hb, h4, h5, r⟩ := h
  exact ⟨p, g, cap, cur, fz, hf.block _ _ hb (h1 _), h4, hf.block _ _ h5 (h2 _ _ h4 (heap_lt h5)), r⟩
theorem Frm.freeze {P : Nat → Obj → Prop} {a w : World} (h : Frm P a w) (p : Addr) (n : Nat) (hp : ∀ o, a.heap[p.block]? = some o → P p.block o) : Frm P a (w.freeze p n) := by
  unfold World.freeze
  split
  · exact h
  · refine ⟨h.os, h.tape, h.output, by have := h.size; simpa using this, fun k o hk hP => ?_⟩
    have hne : p.block ≠ k := fun e => by subst e; exact hP (hp _ hk)
    simp only [Array.getElem?_modify, if_neg hne]; exact h.block k o hk hP

theorem heap_freeze {w : World} {g : Nat} {c : Array Value} {T : TypeId} {f : Nat × Nat} (h : w.heap[g]? = some (.cells c T f)) (p : Addr) (n : Nat) : ∃ f', (w.freeze p n).heap[g]? = some (.cells c T f') := by
  unfold World.freeze
  split
  · exact ⟨f, h⟩
  · simp only [Array.getElem?_modify]
    split
    · rw [h]; exact ⟨_, rfl⟩
    · exact ⟨f, h⟩

set_option maxHeartbeats 1000000 in
set_option maxRecDepth 100000 in
theorem bstring_any {T : TypeId} (hT : HasB T) (B b : Nat) (l : List UInt8) (w : World) (h : BldF T B w b l) (h0 : l ≠ []) (hbB : b < B) :
    Calls Tryz.prog 44 #[.pointer (some ⟨b, 0, none⟩)] w fun e w' => e = .returned (.string ⟨l.toArray⟩) ∧ BldF T B w' b l ∧ Frm (from_ B) w w' := by
  obtain ⟨p, g, cap, cur, fz, hb, hBg, hg, hn, hm, hsz, ht⟩ := h
  have hl0 : l.length ≠ 0 := by simpa using h0
  have c1 : w.drew.cell? ⟨b, 1, none⟩ = some (.slice (some ⟨g, 0, none⟩) l.length cap) := cell_at (w := w.drew) hb
  have hSD : (Builtin.unsafeSliceData_ #[89] 157 #[.slice (some ⟨g, 0, none⟩) l.length cap]).run Tryz.prog w.drew = .ok (.pointer (some ⟨g, 0, none⟩)) w.drew :=
    Lib.run_unsafeSliceData_row _ _ _ _ _ _ (by omega)
  have hUS : (Builtin.unsafeString_ #[157, 3] 9 #[.pointer (some ⟨g, 0, none⟩), .int .i64 l.length]).run Tryz.prog w.drew = .ok (.string ⟨l.toArray⟩) (w.drew.freeze ⟨g, 0, none⟩ l.length) := by
    refine Lib.run_unsafeString_row w.drew 157 3 9 5 Tryz.underlying157 (by kernel_rfl) g cur.size (by have hg' : w.drew.heap[g]? = some (.cells cur 5 fz) := hg; simp [World.shape?, hg']) l h0 (by omega) (by unfold maxLen at hm; omega) ?_
    intro j x hx
    have hj : (bys l)[j]? = some (.int .u8 x.toNat) := by simp [bys, hx]
    have hjl : j < l.length := (List.getElem?_eq_some_iff.1 hx).1
    rw [← ht, List.getElem?_take_of_lt hjl] at hj
    have hc : w.drew.cell? ⟨g, j, none⟩ = some (.int .u8 x.toNat) := by
      rw [cell_at (w := w.drew) hg]; simpa using hj
    by_cases hj0 : j = 0
    · subst hj0; simpa [Addr.add] using hc
    · simpa [Addr.add, hj0] using hc
  have hgb : g ≠ b := by omega
  have HB := hid hb
  have HG := hid hg
  have HT := hid ht
  clear hb hg ht
  go_enter Tryz.func44, Tryz.ntmps44
  go_wp2
  go_region
  all_goals
    go_wp2
    go_ret
    have hf : Frm (only g) w (w.drew.freeze ⟨g, 0, none⟩ l.length) := (Frm.refl _ _).drew.freeze _ _ fun _ _ => rfl
    obtain ⟨fz', hg'⟩ := heap_freeze (w := w.drew) HG.out ⟨g, 0, none⟩ l.length
    exact ⟨rfl, ⟨p, g, cap, cur, fz', hf.keep HB.out (fun e => hgb e.symm), hBg, hg', hn, hm, hsz, HT.out⟩, hf.mono fun k o _ hk => by subst hk; exact hBg⟩
end Go.Proofs.YtmakanmjdfpcmaaGreat
