/- vitrinelaw24.awake. -/
import Derived.Test.YtmakanmjdfpcmaaGreatCluEv
namespace Go.Proofs.YtmakanmjdfpcmaaGreat
open Go.RowKit

abbrev na : ByteArray := ⟨#[97]⟩
theorem na_ok : NameOk na := ⟨by decide, by decide, by decide⟩
theorem cs_new {w w1 : World} {c : Nat} {sv uv : Value} {X : List Nat} {u k : Nat} (hc : w.heap.size ≤ c) (hu : w.heap.size ≤ u) (hk : w.heap.size ≤ k) (hclu : Clu w1 c sv uv (.slice none 0 0) 0 (.slice none 0 0)) (hs : w1.ownsRow 0 75 1 sv 3 (X.map ptr)) (hl : X.length = 3) (hn : X.Nodup)
    (hup : ∀ (q : Nat) (h : q < X.length), SiteUp w1 X[q] q w1.heap.size) (hus : w1.ownsRow 0 83 1 uv 1 [ptr u]) (hu1 : w1.heap[u]? = some (.cells #[ptr k, .int .i64 0] 85 (0, 0))) (hcl : Cli w1 k (cli 3 3 0 0 (.map none) 0 0 0 0 ⟨#[]⟩ ⟨#[]⟩ 41)) :
    CS w1 w.heap.size c sv uv (.slice none 0 0) 0 (.slice none 0 0) X (fun _ => true) w1.heap.size u k 0 [] 0 [] (cli 3 3 0 0 (.map none) 0 0 0 0 ⟨#[]⟩ ⟨#[]⟩ 41) none :=
  ⟨⟨hc, hu, hk⟩, hclu, hs, hl, hn, fun q h => by unfold SiteAt; rw [if_pos rfl]; exact hup q h, hus, hu1, ⟨rfl, .inl ⟨rfl, rfl⟩⟩, ⟨rfl, .inl ⟨rfl, rfl⟩⟩, hcl, fun L h => by cases h⟩

set_option maxHeartbeats 4000000 in
set_option maxRecDepth 100000 in
theorem cawake (w : World) : Calls Tryz.prog 7 #[] w fun e w' => e = .returned (.bool true) ∧ Frm nothing w w' := by
  go_enter Tryz.func7, Tryz.ntmps7
  go_wp2_with fail
  refine (new_ok w).mono ?_
  rintro e w1 ⟨c, sv, uv, X, u, k, rfl, hc, hu, hk, hclu, hs, hl, hn, hup, hus, hu1, hcl, hf1⟩
  have HS1 := hid (cs_new hc hu hk hclu hs hl hn hup hus hu1 hcl)
  have HF1 := hid hf1
  clear hc hu hk hclu hs hl hn hup hus hu1 hcl hf1
  unfold ptr
  go_wp2_with fail
  refine (get_ok na HS1.out na_ok (by omega) (by decide) (by omega) (by omega)).mono ?_
  rintro e w2 ⟨rfl, nv2, ev2, hb, hbl, hs2, hf2⟩
  have HF2 := hid hf2
  have HS2 := hid hs2
  have HN2 : Hid (Calls Tryz.prog 20 #[.pointer (some ⟨c, 0, none⟩)] w2 fun e w' => e = .returned (.int .i64 3) ∧ w2 = w') := by
    obtain ⟨g, cap, rfl⟩ := own_some hs2.net (by decide)
    exact net_ok c 3 cap (some ⟨g, 0, none⟩) sv uv ev2 1 w2 hs2.clu (by omega)
  clear hf2 hs2
  go_wp2_with fail
  refine HN2.out.mono ?_
  rintro e w' ⟨rfl, rfl⟩
  go_wp2_with fail
  refine (deliver_ask HS2.out 0 0 1 na (by decide) rfl (by omega) rfl ⟨by show 1 ≤ 1; omega, by show 1 ≤ 4; omega, by show 3 ≤ 1023; omega, by show 0 ≤ 1023; omega, by show 1 ≤ 60000; omega, na_ok⟩ (by decide) (by omega)).mono ?_
  rintro e w3 ⟨rfl, nv3, hs3, hf3⟩
  have HF3 := hid (HS2.out.toW hf3)
  have HS3 := hid hs3
  clear hf3 hs3
  go_wp2_with fail
  refine (deliver_ask HS3.out 0 1 1 na (by decide) rfl (by omega) rfl ⟨by show 1 ≤ 1; omega, by show 1 ≤ 4; omega, by show 3 ≤ 1023; omega, by show 1 ≤ 1023; omega, by show 1 ≤ 60000; omega, na_ok⟩ (by decide) (by omega)).mono ?_
  rintro e w4 ⟨rfl, nv4, hs4, hf4⟩
  have HF4 := hid (HS3.out.toW hf4)
  have HS4 := hid hs4
  have HN4 : Hid (Calls Tryz.prog 20 #[.pointer (some ⟨c, 0, none⟩)] w4 fun e w' => e = .returned (.int .i64 3) ∧ w4 = w') := by
    obtain ⟨g, cap, rfl⟩ := own_some hs4.net (by decide)
    exact net_ok c 3 cap (some ⟨g, 0, none⟩) sv uv ev2 3 w4 hs4.clu (by omega)
  clear hf4 hs4
  go_wp2_with fail
  refine HN4.out.mono ?_
  rintro e w' ⟨rfl, rfl⟩
  go_wp2_with fail
  refine (deliver_tell 1 0 1 na HS4.out (by decide) rfl (by omega) (by decide) (by decide) ⟨by show 1 ≤ 2; omega, by show 2 ≤ 4; omega, by show 0 ≤ 1023; omega, by show 3 ≤ 1023; omega, by show 1 ≤ 60000; omega, na_ok⟩ (by decide) (by omega) (by omega) (by omega)).mono ?_
  rintro e w5 ⟨rfl, last, nv5, nk, nf, nt, no, nn, hlast, hs5, hf5⟩
  have hl5 : last = false := hlast.trans (by decide)
  subst hl5
  have HF5 := hid hf5
  have HS5 := hid hs5
  clear hf5 hs5 hlast
  go_wp2_with fail
  refine (deliver_tell 1 1 1 na HS5.out (by decide) rfl (by omega) (by decide) (by decide) ⟨by show 1 ≤ 2; omega, by show 2 ≤ 4; omega, by show 1 ≤ 1023; omega, by show 3 ≤ 1023; omega, by show 1 ≤ 60000; omega, na_ok⟩ (by decide) (by omega) (by omega) (by omega)).mono ?_
  rintro e w6 ⟨rfl, last, nv6, nk, nf, nt, no, nn, hlast, hs6, hf6⟩
  have hl6 : last = true := hlast.trans (by decide)
  subst hl6
  have HF6 := hid hf6
  have HS6 := hid hs6
  have HE6 : Hid (Calls Tryz.prog 16 #[.pointer (some ⟨c, 0, none⟩)] w6 fun e w' => ∃ g cap, e = .returned (.slice (some ⟨g, 0, none⟩) 1 cap) ∧ w'.ownsRow 0 87 10 (.slice (some ⟨g, 0, none⟩) 1 cap) 1 (evC 1 na 1 5 41).toList ∧ Frm nothing w6 w') := by
    obtain ⟨g, cap, rfl⟩ := own_some hs6.evs (by decide)
    exact events_ok c g 1 cap _ sv uv nv6 5 w6 hs6.clu (own_base hs6.evs) (by omega) (by omega) (by simp [evC, Value.oneCell'])
  clear hf6 hs6 hlast
  go_wp2_with fail
  refine HE6.out.mono ?_
  rintro e w7 ⟨g, cap, rfl, ho7, hf7⟩
  have HF7 := hid hf7
  have e6 := row_cellN ho7 6 (.int .i64 5) rfl
  have e9 := row_cellN ho7 9 (.int .i64 41) rfl
  clear ho7 hf7
  go_wp2_with fail
  go_ret
  refine ⟨rfl, ?_⟩
  have hsz := HF1.out.size
  have hq : ∀ (q : Nat) (o : Obj), q < w.heap.size → wfrm w.heap.size hb q o → nothing q o := by
    intro q o hq hp
    rcases hp with hp | hp
    · omega
    · have := hp.1; omega
  exact (((((HF1.out.trans HF2.out hq).trans HF3.out hq).trans HF4.out hq).trans HF5.out hq).trans HF6.out hq).trans HF7.out fun _ _ _ h => h
end Go.Proofs.YtmakanmjdfpcmaaGreat
