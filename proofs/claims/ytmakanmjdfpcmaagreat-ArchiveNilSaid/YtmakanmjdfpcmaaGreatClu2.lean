/- Walks of package cluster: send. -/
import Derived.Test.YtmakanmjdfpcmaaGreatClu1
namespace Go.Proofs.YtmakanmjdfpcmaaGreat
open Go.RowKit

theorem ownRow_frm {w w' : World} {B : Nat} {e : TypeId} {size : Nat} {v : Value} {n : Nat} {xs : List Value} {P : Nat → Obj → Prop} (h : w.ownsRow B e size v n xs) (hf : Frm P w w') (hP : ∀ k c, ¬ P k (.cells c e (0, 0))) : w'.ownsRow B e size v n xs := by
  refine ⟨h.1, ?_⟩
  rcases h.2 with h0 | ⟨g, cap, cur, h3, h4, h5, h6⟩
  · exact .inl h0
  · exact .inr ⟨g, cap, cur, h3, h4, hf.block _ _ h5 (hP _ _), h6⟩
theorem ownRow_ty {w : World} {B : Nat} {e : TypeId} {size : Nat} {v : Value} {n : Nat} {xs : List Value} (h : w.ownsRow B e size v n xs) {k : Nat} {o : Obj} (hk : v.ownBlock = some k) (ho : w.heap[k]? = some o) : Obj.ty o = some e := by
  rcases h.2 with ⟨rfl, _⟩ | ⟨g, cap, cur, rfl, h4, h5, h6⟩
  · simp [Value.ownBlock] at hk
  · simp [Value.ownBlock] at hk
    subst hk
    rw [h5] at ho; cases ho; rfl
set_option maxHeartbeats 4000000 in
set_option maxRecDepth 100000 in
theorem send_ok (B c g cap : Nat) (L net : List Msg) (sv uv nv ev : Value) (clock : Nat) (w : World) (hc : Clu w c sv uv nv clock ev) (hn : w.ownsRow B 9 1 nv net.length (netC net))
    (hL : w.ownsRow 0 117 9 (.slice (some ⟨g, 0, none⟩) L.length cap) L.length (msgsC L)) (hok : ∀ m ∈ L, m.Ok) (hlen : net.length + L.length < 400) (hB : B ≤ c) :
    Calls Tryz.prog 60 #[.pointer (some ⟨c, 0, none⟩), .slice (some ⟨g, 0, none⟩) L.length cap] w fun e w' => e = .returned (.tuple #[]) ∧ ∃ nv', Clu w' c sv uv nv' clock ev ∧ w'.ownsRow B 9 1 nv' (net ++ L).length (netC (net ++ L)) ∧ Frm (sfrm B c) w w' := by
  obtain ⟨i0, hi, hz0, hz1, hz2⟩ := info_parts Tryz.infoStr
  have HC := hid hc
  have HN := hid hn
  have HL := hid hL
  have HOK := hid hok
  clear hc hn hL hok
  go_enter Tryz.func60, Tryz.ntmps60
  go_wp2
  go_loopg [10] L.length (fun q i wr => ∃ (j : Nat) (nv' : Value), j + q = L.length ∧ i = .int .i64 j ∧ Clu wr c sv uv nv' clock ev ∧ wr.ownsRow B 9 1 nv' (net ++ L.take j).length (netC (net ++ L.take j)) ∧ Frm (sfrm B c) w wr)
  case atStart => exact ⟨0, nv, by omega, rfl, HC.out, by simpa using HN.out, Frm.refl _ _⟩
  case round =>
    obtain ⟨j, nv', hj, rfl, hc, hn, hf⟩ := hrel
    have HJ := hid hj
    have HC1 := hid hc
    have HN1 := hid hn
    have HF := hid hf
    have hjl : j ≤ L.length := by omega
    clear hj hc hn hf
    by_cases hlt : j < L.length
    · obtain ⟨g', cap', cur, hv, _, hg0, _, _, _, ht⟩ : ∃ (g' cap' : Nat) (cur : Array Value), (Value.slice (some ⟨g, 0, none⟩) L.length cap) = .slice (some ⟨g', 0, none⟩) L.length cap' ∧ 0 ≤ g' ∧ w.heap[g']? = some (.cells cur 117 (0, 0)) ∧ L.length ≤ cap' ∧ cap' ≤ maxLen ∧ cur.size = cap' * 9 ∧ cur.toList.take (L.length * 9) = msgsC L := by
        rcases HL.out.2 with ⟨h1, _⟩ | h1
        · cases h1
        · exact h1
      obtain ⟨rfl, rfl⟩ : g = g' ∧ cap = cap' := by simpa using hv
      clear hv
      have hgc : g ≠ c := ne_of_ty hg0 HC.out (by decide)
      have hg1 := HF.out.keep hg0 (fun hp => by rcases hp with hp | hp; exact hgc hp; simp [Obj.ty] at hp)
      have hcell : ∀ i v, i < 9 → L[j].cells[i]? = some v → wr.cell? ⟨g, j * 9 + i, none⟩ = some v := by
        intro i v hi9 hv
        rw [cell_at hg1]
        have h1 := msgsC_get L j i hlt hi9
        rw [← ht, hv, List.getElem?_take_of_lt (by omega)] at h1
        rw [← h1, Nat.mul_comm 9 j]
        simp
      have hok := HOK.out L[j] (List.getElem_mem hlt)
      have HTK : Hid (L.take (j + 1) = L.take j ++ [L[j]]) := by show _ = _; rw [List.take_succ_eq_append_getElem hlt]
      generalize L[j] = m at *
      have d0 := hcell 0 _ (by omega) rfl
      have d1 := hcell 1 _ (by omega) rfl
      have d2 := hcell 2 _ (by omega) rfl
      have d3 := hcell 3 _ (by omega) rfl
      have d4 := hcell 4 _ (by omega) rfl
      have d5 := hcell 5 _ (by omega) rfl
      have d6 := hcell 6 _ (by omega) rfl
      have d7 := hcell 7 _ (by omega) rfl
      have d8 := hcell 8 _ (by omega) rfl
      rw [Nat.add_zero] at d0
      have HE := hid fun w' => encode_ok m.k m.f m.t m.o m.n w' hok
      obtain ⟨ao, cp, rfl⟩ := ownRow_form HN1.out
      have hnl : (net ++ L.take j).length < 400 := by simp; omega
      have hnl2 : ((net ++ L.take j).length : Int) < 500 := by omega
      have HNL := hid hnl
      clear hcell hg1 hgc hg0 ht hok hnl
      generalize hlq : (net ++ L.take j).length = q at *
      have HQ := hid hlq
      clear hlq
      go_wp2_with fail
      refine (HE.out _).mono ?_
      rintro e w2 ⟨rfl, hf2⟩
      have HC2 : Hid (Clu w2 c sv uv (.slice ao q cp) clock ev) := hf2.keep (heap_old HC1.out) (fun h => h)
      have HN2 : Hid (w2.ownsRow B 9 1 (.slice ao q cp) q (netC (net ++ L.take j))) := ownRow_frm (HN1.out.alloc _) hf2 (fun _ _ h => h)
      have HNE := hid (ownRow_ne HN2.out HC2.out (by decide))
      have HF2 := hid ((HF.out.alloc (.cells m.cells 117)).trans hf2 fun _ _ _ h => h.elim)
      have c2 := cell_at (i := 2) HC2.out
      have f2 := free_at HC2.out 2
      have hcl := heap_lt HC2.out
      have K1 : Hid (q < maxLen) := by show q < maxLen; unfold maxLen; have := HNL.out; omega
      have K2 : Hid ((q + 1) * 16 ≤ 140737488355328) := by show _ ≤ _; have := HNL.out; omega
      have K3 : Hid (∀ o, B ≤ (w2.alloc o).heap.size) := fun o => by simp; omega
      clear hf2 d0 d1 d2 d3 d4 d5 d6 d7 d8
      go_wp2_with (at_builtin; refine wpList_append_one rfl _ _ 33 rfl B 9 i0 (.string ⟨#[]⟩) 16 Tryz.underlying33 hi hz0 hz1 hz2 rfl (.slice ao q cp) q (netC (net ++ L.take j)) rfl w2.heap.size rfl (.string (encS m.k m.f m.t m.o m.n)) (HN2.out.alloc _) (cell_at (heap_new w2 _)) rfl K1.out K2.out (K3.out _) ?_; intro g2 cap2 w3 hown3 hgrow hgg; have hc3 := kept_grown hgrow (heap_old HC2.out) HNE.out; have e2 := cell_at (i := 2) hc3; have ef2 := free_at hc3 2; have HC3 := hid hc3; have HO3 := hid hown3; have HG3 := hid hgrow; clear hc3 hown3 hgrow hgg)
      go_roundg (L.length - (j + 1))
      case measure => have := HJ.out; omega
      case rel =>
        have hne3 := ownRow_ne HO3.out HC3.out (by decide)
        refine ⟨j + 1, _, by have := HJ.out; omega, by go_num, heap_set HC3.out, ?_, ?_⟩
        · rw [HTK.out, ← List.append_assoc]
          have h1 := ownsRow_setCell_other HO3.out (a := ⟨c, 2, none⟩) hne3 (.slice (some ⟨g2, 0, none⟩) (q + 1) cap2)
          have h2 : netC (net ++ L.take j ++ [m]) = netC (net ++ L.take j) ++ [.string (encS m.k m.f m.t m.o m.n)] := by simp [netC, Msg.enc]
          rw [h2, List.length_append, List.length_singleton, HQ.out]
          exact h1
        · refine Frm.setCell ?_ _ _ fun _ _ => .inl rfl
          refine Frm.grown (a := w) (HF2.out.alloc _) HG3.out fun k o hk ho => ?_
          by_cases hs : sfrm B c k o
          · exact hs
          · exact .inr ⟨own_ge HN2.out hk.symm, ownRow_ty HN2.out hk (HF2.out.keep ho hs)⟩
    · have hj0 : j = L.length := by have := HJ.out; omega
      subst hj0
      go_wp2
      go_end0
      refine ⟨rfl, nv', HC1.out, ?_, HF.out⟩
      have h := HN1.out
      rw [List.take_length] at h
      exact h
theorem own_rebase {w : World} {A B : Nat} {e : TypeId} {size g n cap : Nat} {xs : List Value} (h : w.ownsRow A e size (.slice (some ⟨g, 0, none⟩) n cap) n xs) (hB : B ≤ g) : w.ownsRow B e size (.slice (some ⟨g, 0, none⟩) n cap) n xs :=
  ⟨h.1, h.2.imp id fun ⟨g', cap, cur, h3, _, h5⟩ => ⟨g', cap, cur, h3, by cases h3; exact hB, h5⟩⟩
theorem own_base {w : World} {B : Nat} {e : TypeId} {size : Nat} {v : Value} {n : Nat} {xs : List Value} (h : w.ownsRow B e size v n xs) : w.ownsRow 0 e size v n xs :=
  ⟨h.1, h.2.imp id fun ⟨g, cap, cur, h3, _, h5⟩ => ⟨g, cap, cur, h3, Nat.zero_le _, h5⟩⟩
end Go.Proofs.YtmakanmjdfpcmaaGreat
