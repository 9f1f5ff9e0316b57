/- Walks of package client: Resend, turn, begin, Get. -/
import Derived.Test.YtmakanmjdfpcmaaGreatClient
import Derived.Deep.RegionWith
namespace Go.Proofs.YtmakanmjdfpcmaaGreat
open Go.RowKit

theorem Tryz.infoMsg : (Tryz.prog.info? 117).map (fun i => (i.zero, i.size, i.bytes)) = some (some (.agg zeroC), 9, 104) := by kernel_rfl
/-- who is asked: those not heard -/
def asksL (H : List Int) (i : Nat) : List Nat := (List.range i).filter fun j => decide ((j : Int) ∉ H)
theorem asksL_succ (H : List Int) (i : Nat) : asksL H (i + 1) = if (i : Int) ∈ H then asksL H i else asksL H i ++ [i] := by
  simp only [asksL, List.range_succ, List.filter_append]
  by_cases h : (i : Int) ∈ H <;> simp [h]
theorem asksL_len (H : List Int) (i : Nat) : (asksL H i).length ≤ i := by
  have := List.length_filter_le (fun j : Nat => decide ((j : Int) ∉ H)) (List.range i)
  simpa [asksL] using this
/-- the cells of the Asks to l -/
def asksC (id op : Nat) (n : ByteArray) (l : List Nat) : List Value := l.flatMap fun j => (msgC 1 id j op n).toList
theorem asksC_snoc (id op : Nat) (n : ByteArray) (l : List Nat) (j : Nat) : asksC id op n (l ++ [j]) = asksC id op n l ++ (msgC 1 id j op n).toList := by simp [asksC]
theorem src_msg {w : World} (nb k f t o : Nat) (n : ByteArray) (h : w.heap[nb]? = some (.cells (msgC k f t o n) 117 (0, 0))) : Src Tryz.prog 9 101 (.slice (some ⟨nb, 0, none⟩) 1 1) 1 (msgC k f t o n).toList w := by
  refine Src.ofSlice w Tryz.underlying101 ⟨nb, 0, none⟩ 1 1 _ rfl (fun j u hj => ?_) (fun u hu => ?_)
  · have h1 : w.cell? ⟨nb, j, none⟩ = some u := by rw [cell_at h]; simpa using hj
    by_cases h0 : j = 0
    · subst h0; simpa [Addr.add] using h1
    · simpa [Addr.add, h0] using h1
  · simp at hu
    rcases hu with h | h | h | h | h | h | h | h <;> subst h <;> rfl

theorem heap_at_drew' {w : World} {o : Obj} {k : Nat} (h : k = w.heap.size) : (w.alloc o).drew.heap[k]? = some o := heap_at h
theorem own_ge {w : World} {B : Nat} {e : TypeId} {size : Nat} {v : Value} {n : Nat} {xs : List Value} (h : w.ownsRow B e size v n xs) {q : Nat} (hq : some q = v.ownBlock) : B ≤ q := by
  rcases h.2 with ⟨rfl, _⟩ | ⟨g, cap, cur, rfl, hb, _⟩
  · simp [Value.ownBlock] at hq
  · simp [Value.ownBlock] at hq
    subst hq; exact hb

set_option maxHeartbeats 4000000 in
set_option maxRecDepth 100000 in
theorem resend_asks (k id rep op nk nf nt no en hb : Nat) (H : List Int) (nn wn : ByteArray) (w : World) (hk : Cli w k (cli id rep op 1 (.map (some hb)) nk nf nt no nn wn en)) (hH : Heard w hb H) (hr : rep ≤ 15) :
    Calls Tryz.prog 61 #[.pointer (some ⟨k, 0, none⟩)] w fun e w' => ∃ v, e = .returned v ∧ w'.ownsRow w.heap.size 117 9 v (asksL H rep).length (asksC id op wn (asksL H rep)) ∧ Frm nothing w w' := by
  obtain ⟨i0, hi, hz0, hz1, hz2⟩ := info_parts Tryz.infoMsg
  have hkl := heap_lt hk
  have HK := hid hk
  have HH := hid hH
  have c0 := cell_at (i := 0) hk
  have c1 := cell_at (i := 1) hk
  have c2 := cell_at (i := 2) hk
  have c3 := cell_at (i := 3) hk
  have c5 := cell_at (i := 5) hk
  have c19 := cell_at (i := 19) hk
  clear hk hH
  go_enter Tryz.func61, Tryz.ntmps61
  go_wp2
  go_loopg [3, 19] rep (fun g v i wr => ∃ j : Nat, j + g = rep ∧ i = .int .i64 j ∧ wr.ownsRow w.heap.size 117 9 v (asksL H j).length (asksC id op wn (asksL H j)) ∧ Frm nothing w wr)
  case atStart => exact ⟨0, by omega, rfl, ⟨rfl, .inl ⟨rfl, rfl⟩⟩, Frm.refl _ _⟩
  case round =>
    obtain ⟨j, hj, rfl, hown, hf⟩ := hrel
    have HJ := hid hj
    have HO := hid hown
    have HF := hid hf
    have hk2 := hf.keep HK.out (fun h => h)
    have d0 := cell_at (i := 0) hk2
    have d2 := cell_at (i := 2) hk2
    have d3 := cell_at (i := 3) hk2
    have d5 := cell_at (i := 5) hk2
    have d19 := cell_at (i := 19) hk2
    have hk2l := heap_lt hk2
    have hH2 := HH.out.frm hf (fun _ _ h => h)
    have hjr : j ≤ rep := by omega
    clear hj hown hf hk2
    by_cases hlt : j < rep
    · have hlk := hH2.look j (by simp [Lit.wf, IntKind.min, IntKind.max, IntKind.signed, IntKind.bits]; omega)
      have HS := hid (asksL_succ H j)
      have hal := asksL_len H j
      have K1 : Hid ((asksL H j).length + 1 ≤ maxLen) := by show _ ≤ maxLen; unfold maxLen; omega
      have K2 : Hid (((asksL H j).length + 1) * 104 ≤ 140737488355328) := by show _ ≤ _; omega
      clear hal
      clear hH2
      by_cases hm : (j : Int) ∈ H
      · have hm2 : decide ((j : Int) ∈ H) = true := by simpa using hm
        rw [hm2] at hlk
        clear hm2
        go_wp2
        go_roundg (rep - (j + 1))
        case measure => have := HJ.out; omega
        case rel =>
          refine ⟨j + 1, by have := HJ.out; omega, by go_num, ?_, HF.out⟩
          rw [HS.out, if_pos hm]; exact HO.out
      · have hm2 : decide ((j : Int) ∈ H) = false := by simpa using hm
        rw [hm2] at hlk
        clear hm2
        go_wp2
        go_region
        all_goals
          go_wp2_with (at_builtin; go_must (refine wpList_append_src rfl (.tmp 68) (.tmp 70) 101 101 rfl w.heap.size 117 i0 (.agg zeroC) 9 104 Tryz.underlying101 hi hz0 hz1 hz2 rfl u3 (asksL H j).length (asksC id op wn (asksL H j)) rfl ?_ _ 1 (msgC 1 id j op wn).toList rfl ?_ (by omega) K1.out K2.out ?_ ?_))
          · exact (HO.out.alloc _).alloc _
          · exact src_msg _ 1 id j op wn (heap_at_drew' (by simp))
          · have := HF.out.size; simp; omega
          · intro g cap w2 hown2 hgrow hgg
            have HO2 := hid hown2
            have HG2 := hid hgrow
            clear hown2 hgrow hgg
            go_wp2
            go_roundg (rep - (j + 1))
            case measure => have := HJ.out; omega
            case rel =>
              refine ⟨j + 1, by have := HJ.out; omega, by go_num, ?_, ?_⟩
              · have h1 := HO2.out
                rw [HS.out, if_neg hm, asksC_snoc, List.length_append]
                exact h1
              · refine Frm.grown (a := w) ?_ HG2.out fun q o hq ho => ?_
                · exact ((HF.out.alloc _).alloc _).drew
                · exact absurd (heap_lt ho) (Nat.not_lt.2 (own_ge HO.out hq.symm))
    · have hj0 : j = rep := by have := HJ.out; omega
      subst hj0
      clear hH2
      go_wp2
      go_ret
      exact ⟨_, rfl, HO.out, HF.out⟩

set_option maxHeartbeats 1000000 in
set_option maxRecDepth 100000 in
theorem turn_asks (k id rep op ph nk nf nt no en : Nat) (hm : Value) (nn wn : ByteArray) (w : World) (hk : Cli w k (cli id rep op ph hm nk nf nt no nn wn en)) (hr : rep ≤ 15) :
    Calls Tryz.prog 130 #[.pointer (some ⟨k, 0, none⟩), .int .i64 1] w fun e w' => ∃ v hb B, e = .returned v ∧ w.heap.size ≤ hb ∧ w.heap.size ≤ B ∧ Cli w' k (cli id rep op 1 (.map (some hb)) nk nf nt no nn wn en) ∧ Heard w' hb [] ∧
      w'.ownsRow B 117 9 v (asksL [] rep).length (asksC id op wn (asksL [] rep)) ∧ Frm (only k) w w' := by
  have hmm := @run_makeMap Tryz.prog
  have hkl := heap_lt hk
  have HK := hid hk
  have f3 := free_at hk 3
  have f5 := free_at hk 5
  have c3 := cell_at (i := 3) hk
  have c5 := cell_at (i := 5) hk
  clear hk
  have HR : Hid (∀ w1, Cli w1 k (cli id rep op 1 (.map (some w.heap.size)) nk nf nt no nn wn en) → Heard w1 w.heap.size [] → Calls Tryz.prog 61 #[.pointer (some ⟨k, 0, none⟩)] w1 fun e w' => ∃ v, e = .returned v ∧ w'.ownsRow w1.heap.size 117 9 v (asksL [] rep).length (asksC id op wn (asksL [] rep)) ∧ Frm nothing w1 w') :=
    fun w1 h1 h2 => resend_asks k id rep op nk nf nt no en w.heap.size [] nn wn w1 h1 h2 hr
  go_enter Tryz.func130, Tryz.ntmps130
  go_wp2_with fail
  have h1 : Cli (((w.setCell ⟨k, 3, none⟩ (.int .i64 1)).setCell ⟨k, 5, none⟩ (.map (some w.heap.size))).alloc (.map #[] 0)) k (cli id rep op 1 (.map (some w.heap.size)) nk nf nt no nn wn en) := heap_old (heap_set (heap_set HK.out))
  have h2 : Heard (((w.setCell ⟨k, 3, none⟩ (.int .i64 1)).setCell ⟨k, 5, none⟩ (.map (some w.heap.size))).alloc (.map #[] 0)) w.heap.size [] := Heard.new (heap_at (by simp))
  refine (HR.out _ h1 h2).mono ?_
  rintro e w' ⟨v, rfl, hown, hf⟩
  have HO := hid hown
  have HF := hid hf
  have H1 := hid h1
  have H2 := hid h2
  clear hown hf h1 h2
  go_wp2
  go_ret
  refine ⟨v, w.heap.size, _, rfl, Nat.le_refl _, ?_, HF.out.keep H1.out (fun h => h), H2.out.frm HF.out (fun _ _ h => h), HO.out, ?_⟩
  · simp
  · exact ((((Frm.refl _ w).setCell _ _ fun _ _ => rfl).setCell _ _ fun _ _ => rfl).alloc _).trans HF.out fun _ _ _ h => h.elim
end Go.Proofs.YtmakanmjdfpcmaaGreat
