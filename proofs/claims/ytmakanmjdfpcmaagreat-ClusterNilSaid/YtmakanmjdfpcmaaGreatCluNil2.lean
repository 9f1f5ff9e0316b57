/- ClusterNil: the walk. -/
import Derived.Test.YtmakanmjdfpcmaaGreatCluNil
import Derived.Test.YtmakanmjdfpcmaaGreatCluAwake
namespace Go.Proofs.YtmakanmjdfpcmaaGreat
open Go.RowKit

set_option maxHeartbeats 4000000 in
set_option maxRecDepth 100000 in
theorem cnil_any (n : Int) (w : World) : Calls Tryz.prog 4 #[.int .i64 n] w fun e w' => e = .returned (.bool true) ∧ Frm nothing w w' := by
  go_enter Tryz.func4, Tryz.ntmps4
  have HF : Hid (Frm nothing w w) := Frm.refl _ _
  go_wp2_with (first
    | (go_at_call 17; refine (nsync _ _ _).mono ?_; rintro e w1 ⟨rfl, hf1⟩; have HF1 := hid hf1; clear hf1)
    | (go_at_call 18; refine (nentries _ _).mono ?_; rintro e w2 ⟨rfl, hf2⟩; have HF2 := hid hf2; clear hf2)
    | (go_at_call 14; refine (nresult _ _).mono ?_; rintro e w3 ⟨rfl, hf3⟩; have HF3 := hid hf3; clear hf3)
    | (go_at_call 11; refine (nput _ _ _ _).mono ?_; rintro e w4 ⟨rfl, hf4⟩; have HF4 := hid hf4; clear hf4)
    | (go_at_call 13; refine (nget _ _ _).mono ?_; rintro e w5 ⟨rfl, hf5⟩; have HF5 := hid hf5; clear hf5)
    | (go_at_call 19; refine (nresend _ _).mono ?_; rintro e w6 ⟨rfl, hf6⟩; have HF6 := hid hf6; clear hf6)
    | (go_at_call 20; refine (nnet _).mono ?_; rintro e w' ⟨rfl, rfl⟩)
    | (go_at_call 21; refine (ndeliver _ _).mono ?_; rintro e w7 ⟨rfl, hf7⟩; have HF7 := hid hf7; clear hf7)
    | (go_at_call 22; refine (ndrop _ _).mono ?_; rintro e w8 ⟨rfl, hf8⟩; have HF8 := hid hf8; clear hf8)
    | (go_at_call 23; refine (nagain _ _).mono ?_; rintro e w9 ⟨rfl, hf9⟩; have HF9 := hid hf9; clear hf9)
    | (go_at_call 24; refine (ndown _ _).mono ?_; rintro e w10 ⟨rfl, hf10⟩; have HF10 := hid hf10; clear hf10)
    | (go_at_call 25; refine (narm _ _ _).mono ?_; rintro e w11 ⟨rfl, hf11⟩; have HF11 := hid hf11; clear hf11)
    | (go_at_call 26; refine (nstart _ _ _).mono ?_; rintro e w12 ⟨rfl, hf12⟩; have HF12 := hid hf12; clear hf12)
    | (go_at_call 27; refine (ncompact _ _).mono ?_; rintro e w13 ⟨rfl, hf13⟩; have HF13 := hid hf13; clear hf13)
    | (go_at_call 16; refine (nevents _).mono ?_; rintro e w' ⟨rfl, rfl⟩)
    | (go_at_call 7; refine (cawake _).mono ?_; rintro e w14 ⟨rfl, hf14⟩; have HF14 := hid hf14; clear hf14))
  go_ret
  refine ⟨rfl, ?_⟩
  clear HF
  with_reducible repeat (first | exact Frm.refl _ _ | apply Frm.drew | apply Frm.drewN | apply Frm.alloc)
  refine Frm.trans (P := nothing) (Q := nothing) ?_ HF14.out fun _ _ _ h => h
  with_reducible repeat (first | exact Frm.refl _ _ | apply Frm.drew | apply Frm.drewN | apply Frm.alloc)
  refine Frm.trans (P := nothing) (Q := nothing) ?_ HF13.out fun _ _ _ h => h
  with_reducible repeat (first | exact Frm.refl _ _ | apply Frm.drew | apply Frm.drewN | apply Frm.alloc)
  refine Frm.trans (P := nothing) (Q := nothing) ?_ HF12.out fun _ _ _ h => h
  with_reducible repeat (first | exact Frm.refl _ _ | apply Frm.drew | apply Frm.drewN | apply Frm.alloc)
  refine Frm.trans (P := nothing) (Q := nothing) ?_ HF11.out fun _ _ _ h => h
  with_reducible repeat (first | exact Frm.refl _ _ | apply Frm.drew | apply Frm.drewN | apply Frm.alloc)
  refine Frm.trans (P := nothing) (Q := nothing) ?_ HF10.out fun _ _ _ h => h
  with_reducible repeat (first | exact Frm.refl _ _ | apply Frm.drew | apply Frm.drewN | apply Frm.alloc)
  refine Frm.trans (P := nothing) (Q := nothing) ?_ HF9.out fun _ _ _ h => h
  with_reducible repeat (first | exact Frm.refl _ _ | apply Frm.drew | apply Frm.drewN | apply Frm.alloc)
  refine Frm.trans (P := nothing) (Q := nothing) ?_ HF8.out fun _ _ _ h => h
  with_reducible repeat (first | exact Frm.refl _ _ | apply Frm.drew | apply Frm.drewN | apply Frm.alloc)
  refine Frm.trans (P := nothing) (Q := nothing) ?_ HF7.out fun _ _ _ h => h
  with_reducible repeat (first | exact Frm.refl _ _ | apply Frm.drew | apply Frm.drewN | apply Frm.alloc)
  refine Frm.trans (P := nothing) (Q := nothing) ?_ HF6.out fun _ _ _ h => h
  with_reducible repeat (first | exact Frm.refl _ _ | apply Frm.drew | apply Frm.drewN | apply Frm.alloc)
  refine Frm.trans (P := nothing) (Q := nothing) ?_ HF5.out fun _ _ _ h => h
  with_reducible repeat (first | exact Frm.refl _ _ | apply Frm.drew | apply Frm.drewN | apply Frm.alloc)
  refine Frm.trans (P := nothing) (Q := nothing) ?_ HF4.out fun _ _ _ h => h
  with_reducible repeat (first | exact Frm.refl _ _ | apply Frm.drew | apply Frm.drewN | apply Frm.alloc)
  refine Frm.trans (P := nothing) (Q := nothing) ?_ HF3.out fun _ _ _ h => h
  with_reducible repeat (first | exact Frm.refl _ _ | apply Frm.drew | apply Frm.drewN | apply Frm.alloc)
  refine Frm.trans (P := nothing) (Q := nothing) ?_ HF2.out fun _ _ _ h => h
  with_reducible repeat (first | exact Frm.refl _ _ | apply Frm.drew | apply Frm.drewN | apply Frm.alloc)
  refine Frm.trans (P := nothing) (Q := nothing) ?_ HF1.out fun _ _ _ h => h
  with_reducible repeat (first | exact Frm.refl _ _ | apply Frm.drew | apply Frm.drewN | apply Frm.alloc)
end Go.Proofs.YtmakanmjdfpcmaaGreat
