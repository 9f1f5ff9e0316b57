/- Get of a name that nobody has. -/
import Derived.Test.YtmakanmjdfpcmaaGreatCluTell
namespace Go.Proofs.YtmakanmjdfpcmaaGreat
open Go.RowKit

theorem CS.later {w : World} {B c : Nat} {sv uv nv : Value} {clock : Nat} {ev : Value} {X : List Nat} {up : Nat → Bool} {a b u k e0 : Nat} {net : List Msg} {m : Nat} {xs : List Value} {cs : Array Value} {H : Option (List Int)}
    (h : CS w B c sv uv nv clock ev X up a u k e0 net m xs cs H) (hb : w.heap.size ≤ b) : CS w B c sv uv nv clock ev X up b u k e0 net m xs cs none :=
  ⟨h.base, h.clu, h.sites, h.len, h.nodup, fun q hq => (h.ats q hq).later hb, h.users, h.user, h.evs, h.net, h.cli, fun L hL => by cases hL⟩
theorem one_not {w : World} {b : Nat} {cs : Array Value} {T : TypeId} (h : w.heap[b]? = some (.cells cs T (0, 0))) : ∀ q c S, S ≠ T → ¬ (w.heap[q]? = some (.cells c S (0, 0)) ∧ only b q (.cells c S (0, 0))) := by
  intro q c S hS hp
  obtain ⟨p1, p2⟩ := hp
  have p3 : q = b := p2
  subst p3
  rw [h] at p1; cases p1; exact hS rfl
def asks3 (o : Nat) (n : ByteArray) : List Msg := [⟨1, 3, 0, o, n⟩, ⟨1, 3, 1, o, n⟩, ⟨1, 3, 2, o, n⟩]

set_option maxHeartbeats 4000000 in
set_option maxRecDepth 100000 in
theorem get_ok {w : World} {B c : Nat} {sv uv nv : Value} {clock : Nat} {ev : Value} {X : List Nat} {up : Nat → Bool} {a u k e0 : Nat} {net : List Msg} {m : Nat} {xs : List Value} {op nk nf nt no en : Nat} {hm : Value} {nn wn : ByteArray} {H : Option (List Int)} (n : ByteArray)
    (h : CS w B c sv uv nv clock ev X up a u k e0 net m xs (cli 3 3 op 0 hm nk nf nt no nn wn en) H) (hn : NameOk n) (hop : op ≤ 50000) (hl : net.length ≤ 300) (hcl : clock ≤ 40000) (hmm : m ≤ 1000) :
    Calls Tryz.prog 13 #[.pointer (some ⟨c, 0, none⟩), .int .i64 0, .string n] w fun e w' => e = .returned (.int .i64 0) ∧ ∃ nv' ev' hb, w.heap.size ≤ hb ∧
      CS w' B c sv uv nv' (clock + 1) ev' X up hb u k m (net ++ asks3 (op + 1) n) (m + 1) (xs ++ (evC (op + 1) n (clock + 1) 0 0).toList) (cli 3 3 (op + 1) 1 (.map (some hb)) 0 0 0 0 ⟨#[]⟩ n en) (some []) ∧ Frm (wfrm B hb) w w' := by
  have HH := hid h
  obtain ⟨gu, ucap, rfl⟩ := own_some h.users (by omega)
  have HP := hid (people_ok c 1 ucap (some ⟨gu, 0, none⟩) sv nv ev clock w h.clu (by omega))
  have HT : Hid (Calls Tryz.prog 47 #[.pointer (some ⟨c, 0, none⟩), .int .i64 1, .slice (some ⟨w.heap.size, 0, none⟩) 1 1] (w.alloc (.cells #[.int .i64 0] 3)) fun e w' => e = .returned (.int .i64 0) ∧ Clu w' c sv (.slice (some ⟨gu, 0, none⟩) 1 ucap) nv (clock + 1) ev ∧ Frm (only c) (w.alloc (.cells #[.int .i64 0] 3)) w') :=
    tick_ok c w.heap.size sv _ _ ev clock 1 0 _ (heap_old h.clu) (heap_new w _) (by omega) (by omega) (by omega)
  clear h
  go_enter Tryz.func13, Tryz.ntmps13
  go_wp2_with fail
  refine HP.out.mono ?_
  rintro e w' ⟨rfl, rfl⟩
  go_wp2_with fail
  refine HT.out.mono ?_
  rintro e w1 ⟨rfl, hc1, hf1⟩
  have hF1 : Frm (only c) w w1 := ((Frm.refl _ _).alloc _).trans hf1 fun _ _ _ h => h
  have hft := hF1.there
  have hno := one_not (Clu.block HH.out.clu)
  have hus1 := ownRow_frm HH.out.users hft fun q b => hno _ _ _ (by decide)
  have hu1 := hft.keep HH.out.user (hno _ _ _ (by decide))
  have he1 := ownRow_frm HH.out.evs hft fun q b => hno _ _ _ (by decide)
  have hn1 := ownRow_frm HH.out.net hft fun q b => hno _ _ _ (by decide)
  have hk1 : Cli w1 k _ := hft.keep HH.out.cli (hno _ _ _ (by decide))
  have H1 := hid (And.intro hc1 (And.intro hus1 (And.intro hu1 (And.intro he1 (And.intro hn1 (And.intro hk1 hF1))))))
  have HG := hid (cget_ok k 3 3 op nk nf nt no en hm nn wn n w1 hk1 (by omega) hop hn)
  have c1 := cell_at (i := 1) hc1
  have hrow := row_cell hus1 0 (.pointer (some ⟨u, 0, none⟩)) rfl
  have u0 := cell_at (i := 0) hu1
  clear hf1 hF1 hft hno hc1 hus1 hu1 he1 hn1 hk1
  go_wp2_with fail
  refine HG.out.mono ?_
  rintro e w2 ⟨v, hb, B2, rfl, hbl, hB, hk2, hh2, ho2, hf2⟩
  obtain ⟨hc1, hus1, hu1, he1, hn1, hk1, hF1⟩ := H1.out
  have hft := hf2.there
  have hno := one_not (show w1.heap[k]? = some (.cells _ 147 (0, 0)) from hk1)
  have hc2 : Clu w2 c _ _ _ _ _ := hft.keep (Clu.block hc1) (hno _ _ _ (by decide))
  have hus2 := ownRow_frm hus1 hft fun q b => hno _ _ _ (by decide)
  have hu2 := hft.keep hu1 (hno _ _ _ (by decide))
  have he2 := ownRow_frm he1 hft fun q b => hno _ _ _ (by decide)
  have hn2 := ownRow_frm hn1 hft fun q b => hno _ _ _ (by decide)
  have hL : asksL [] 3 = [0, 1, 2] := by decide
  rw [hL] at ho2
  have ho3 := own_base ho2
  obtain ⟨g, cap, rfl⟩ := own_some ho3 (by decide)
  have hBG := begins_ok B c u g cap m e0 (some ⟨k, 0, none⟩) (asks3 (op + 1) n) net xs _ _ _ _ (clock + 1) n w2 hc2 hus2 hu2 he2 hn2 (by simpa [asksC, msgsC, asks3] using ho3) (by simp [asks3]) (by
    intro q hq
    simp [asks3] at hq
    rcases hq with rfl | rfl | rfl <;> exact ⟨by show 1 ≤ 1; omega, by show 1 ≤ 4; omega, by show 3 ≤ 1023; omega, by simp, by show op + 1 ≤ 60000; omega, hn⟩) (by simp [asks3]; omega) (by omega) (by omega) HH.out.base.1
  have HBG := hid hBG
  have H2 := hid (And.intro hbl (And.intro hk2 (And.intro hh2 hf2)))
  clear hft hno hc1 hus1 hu1 he1 hn1 hk1 hF1 hc2 hus2 hu2 he2 hn2 hL ho2 ho3 hBG hbl hB hk2 hh2 hf2
  go_wp2_with fail
  refine HBG.out.mono ?_
  rintro e w3 ⟨rfl, nv', ev', hc3, hu3, he3, hn3, hf3⟩
  go_wp2_with fail
  go_ret
  obtain ⟨hc1, hus1, hu1, he1, hn1, hk1, hF1⟩ := H1.out
  obtain ⟨hbl, hk2, hh2, hf2⟩ := H2.out
  have hsz := hF1.size
  have hc2 : Clu w2 c _ _ _ _ _ := hf2.there.keep (Clu.block hc1) (one_not (show w1.heap[k]? = some (.cells _ 147 (0, 0)) from hk1) _ _ _ (by decide))
  have hu2 := hf2.there.keep hu1 (one_not (show w1.heap[k]? = some (.cells _ 147 (0, 0)) from hk1) _ _ _ (by decide))
  unfold Clu at hc1 hc2
  unfold Cli at hk1 hk2
  have hW1 : Frm (wfrm B hb) w w1 := hF1.there.mono fun q o _ hp => by
    obtain ⟨p1, p2⟩ := hp
    have p3 : q = c := p2
    subst p3
    rw [Clu.block HH.out.clu] at p1; cases p1; exact .inr ⟨HH.out.base.1, .inl rfl⟩
  have hW2 : Frm (wfrm B hb) w1 w2 := hf2.there.mono fun q o _ hp => by
    obtain ⟨p1, p2⟩ := hp
    have p3 : q = k := p2
    subst p3
    rw [hk1] at p1; cases p1; exact .inr ⟨HH.out.base.2.2, .inr (.inr (.inr (.inr rfl)))⟩
  have hW3 : Frm (wfrm B hb) w2 w3 := hf3.there.mono fun q o _ hp => by
    obtain ⟨p1, p2⟩ := hp
    rcases p2 with p2 | p2 | p2 | p2
    · subst p2; rw [hc2] at p1; cases p1; exact .inr ⟨HH.out.base.1, .inl rfl⟩
    · subst p2; rw [hu2] at p1; cases p1; exact .inr ⟨HH.out.base.2.1, .inr (.inl rfl)⟩
    · exact .inr ⟨p2.1, .inr (.inr (.inl p2.2))⟩
    · exact .inr ⟨p2.1, .inr (.inr (.inr (.inl p2.2)))⟩
  have hW := (hW1.trans hW2 fun _ _ _ h => h).trans hW3 fun _ _ _ h => h
  have hno3 : ∀ q o, Obj.ty o ≠ some 71 → Obj.ty o ≠ some 85 → Obj.ty o ≠ some 9 → Obj.ty o ≠ some 87 → ¬ (w2.heap[q]? = some o ∧ gfrm B c u q o) := by
    intro q o h1 h2 h3 h4 hp
    obtain ⟨p1, p2⟩ := hp
    rcases p2 with p2 | p2 | p2 | p2
    · subst p2; rw [hc2] at p1; cases p1; exact h1 rfl
    · subst p2; rw [hu2] at p1; cases p1; exact h2 rfl
    · exact h3 p2.2
    · exact h4 p2.2
  refine ⟨rfl, nv', ev', hb, by omega, (HH.out.later (b := hb) (by omega)).step hW (fun b T f hq => by have := heap_lt hq; omega) hc3 hu3 he3 hn3 ?_ ?_, hW⟩
  · exact hf3.there.keep hk2 (hno3 _ _ (by simp [Obj.ty]) (by simp [Obj.ty]) (by simp [Obj.ty]) (by simp [Obj.ty]))
  · rintro L ⟨rfl⟩
    exact hh2.frm hf3.there fun es n => hno3 _ _ (by simp [Obj.ty]) (by simp [Obj.ty]) (by simp [Obj.ty]) (by simp [Obj.ty])
end Go.Proofs.YtmakanmjdfpcmaaGreat
