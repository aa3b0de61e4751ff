-- written by a program of mine (wip/tools/print2.py), which turns the kit's printer a little
import Derived.Test.YtehekppkicjimaaDoorSQFKx0
import Derived.Test.YtehekppkicjimaaDoorSQFKx17
import Derived.Test.YtehekppkicjimaaDoorSErr
namespace Go.Proofs.YtehekppkicjimaaDoor.QFK
open Go.RowKit Go.Proofs.YtehekppkicjimaaDoorW.PrintWords Go.Proofs.YtehekppkicjimaaDoorW.PrintLast Go.Proofs.YtehekppkicjimaaDoorW.PrintMore
attribute [local go_sem] max2_int min2_int max_two min_two max_three min_three max_four min_four
set_option linter.unusedVariables false
set_option linter.unusedSimpArgs false

attribute [local go_sem] Sent.alloc Sent.drew Sent.drewN Sent.c0 Sent.c1
/-! ### optimaref3_anyBig: function 33 -/
def optimaref3_anyBig.l0 : Nat → List Int → Int → Option (Bool)
 | 0, _, _ => none
 | k + 1, x0, x3 => if x3 < (x0.length : Int) then (if 0 ≤ x3 then ((optimaref3_big.f (rd x0 x3)).bind fun t303 => (if t303 = true then (some true) else (optimaref3_anyBig.l0 k x0 (wrap64 (x3 + 1))))) else (none)) else (some false)
def optimaref3_anyBig.f (k : Nat) (l0 : List Int) : Option (Bool) := optimaref3_anyBig.l0 k l0 0
theorem optimaref3_anyBig.mono_l : ∀ k, (∀ y0 y1, LeO (optimaref3_anyBig.l0 k y0 y1) (optimaref3_anyBig.l0 (k + 1) y0 y1))
 | 0 => fun _ _ r h => by simp [optimaref3_anyBig.l0] at h
 | k + 1 => by
  have ih0 := optimaref3_anyBig.mono_l k
  intro y0 y1
  unfold optimaref3_anyBig.l0
  repeat' first | (with_reducible exact ih0 _ _) | (with_reducible exact LeO.refl _) | (with_reducible refine LeO.ite ?_ ?_) | (with_reducible refine LeO.bind ?_ (fun _ => ?_))
theorem optimaref3_anyBig.mono : ∀ a0 k, LeO (optimaref3_anyBig.f k a0) (optimaref3_anyBig.f (k + 1) a0) := by
 intro a0 k
 have ih0 := optimaref3_anyBig.mono_l k
 unfold optimaref3_anyBig.f
 repeat' (with_reducible exact ih0 _ _)
set_option maxHeartbeats 8000000 in
set_option maxRecDepth 100000 in
theorem optimaref3_anyBig.calls (k : Nat) (A0 : Option Addr) (c0 : Nat) (l0 : List Int) (r : Bool) (w : World) (hr0 : Kd.C (Kd.int .i64) w A0 l0.length l0) (hc0 : l0.length ≤ c0) (h : optimaref3_anyBig.f k l0 = some r) :
 Calls Tryd.prog 33 #[.slice A0 l0.length c0] w fun e w' => e = .returned (.bool r) ∧ Drawn0 w w' := by
 have HR0 := Aside0.mk hr0
 have HC0 := Aside0.mk hc0
 clear hr0 hc0
 have H : (optimaref3_anyBig.l0 k l0 0) = some r := h
 clear h
 have H' := Aside0.mk H
 clear H
 go_enter Tryd.func33, Tryd.ntmps33
 go_wp2
 go_loopg [3] k (fun kq v3 w' => ∃ (x3_1 : Int), v3 = .int .i64 x3_1 ∧ Aside0 (optimaref3_anyBig.l0 kq l0 x3_1 = some r) ∧ Aside0 (kq ≤ k) ∧ Drawn0 w w')
 case atStart => exact ⟨(0), (by rfl), H', ⟨Nat.le_refl _⟩, by exact Drawn0.refl _⟩
 clear H'
 obtain ⟨x3_1, rfl, HA, HK1, ⟨m1, rfl⟩⟩ := hrel
 rcases gk with _ | k1
 ·exact absurd HA.out (by simp [optimaref3_anyBig.l0])
 have H := HA.out
 clear HA
 simp only [optimaref3_anyBig.l0] at H
 by_cases c2 : x3_1 < (l0.length : Int)
 ·rw [if_pos c2] at H
  have c2b0 : decide (x3_1 < (l0.length : Int)) = true := decide_eq_true c2
  clear c2
  by_cases c3 : 0 ≤ x3_1
  ·rw [if_pos c3] at H
   have c3b0 : decide (0 ≤ x3_1) = true := decide_eq_true c3
   clear c3
   replace H := Option.bind_eq_some_iff.mp H
   obtain ⟨t303, A40, H⟩ := H
   replace H : (if t303 = true then (some true) else (optimaref3_anyBig.l0 k1 l0 (wrap64 (x3_1 + 1)))) = some r := H
   have A4 := Aside0.mk A40
   clear A40
   by_cases c5 : t303 = true
   ·subst c5
    have H1 : (some true) = some r := by rw [if_pos rfl] at H; exact H
    clear H
    have H := H1
    clear H1
    obtain rfl := Option.some.inj H
    have p302 : 0 ≤ (x3_1 : Int) := of_decide_eq_true (by (with_reducible assumption))
    have q302 : x3_1 < (l0.length : Int) := of_decide_eq_true (by (with_reducible assumption))
    obtain ⟨ad302, e302, hx302_0⟩ := Kd.at_int HR0.out x3_1 p302 q302
    cases e302
    replace p302 := eq_true p302
    replace q302 := eq_true q302
    go_wp2_with (((with_reducible refine gate_callee (f := 17) rfl ?_); refine goesL_ (some 15) rfl rfl Tryd.func17 (by kernel_rfl) rfl #[.int .i64 (rd l0 x3_1)] rfl (by (try simp only [List.map_toArray, List.map_cons, List.map_nil]); rfl) ?_; (with_reducible refine (optimaref3_big.calls (rd l0 x3_1) true _ A4.out).mono ?_); rintro e w' ⟨rfl, ⟨nd, rfl⟩⟩; refine ⟨_, rfl, ?_⟩))
    go_ret
    exact ⟨by rfl, by repeat (first | exact Drawn0.refl _ | apply Drawn0.step)⟩
   replace c5 := Bool.eq_false_iff.mpr c5
   subst c5
   have H1 : (optimaref3_anyBig.l0 k1 l0 (wrap64 (x3_1 + 1))) = some r := by rw [if_neg (show ¬ (false = true) by decide)] at H; exact H
   clear H
   have H := H1
   clear H1
   have H' := Aside0.mk H
   clear H
   have p302 : 0 ≤ (x3_1 : Int) := of_decide_eq_true (by (with_reducible assumption))
   have q302 : x3_1 < (l0.length : Int) := of_decide_eq_true (by (with_reducible assumption))
   obtain ⟨ad302, e302, hx302_0⟩ := Kd.at_int HR0.out x3_1 p302 q302
   cases e302
   replace p302 := eq_true p302
   replace q302 := eq_true q302
   go_wp2_with (((with_reducible refine gate_callee (f := 17) rfl ?_); refine goesL_ (some 15) rfl rfl Tryd.func17 (by kernel_rfl) rfl #[.int .i64 (rd l0 x3_1)] rfl (by (try simp only [List.map_toArray, List.map_cons, List.map_nil]); rfl) ?_; (with_reducible refine (optimaref3_big.calls (rd l0 x3_1) false _ A4.out).mono ?_); rintro e w' ⟨rfl, ⟨nd, rfl⟩⟩; refine ⟨_, rfl, ?_⟩))
   go_roundg k1
   case measure => have := HK1.out; omega
   case rel => exact ⟨(wrap64 (x3_1 + 1)), (by rfl), H', ⟨by have := HK1.out; omega⟩, by repeat (first | exact Drawn0.refl _ | apply Drawn0.step)⟩
  rw [if_neg c3] at H
  exact absurd H (by simp)
 rw [if_neg c2] at H
 have c2b0 : decide (x3_1 < (l0.length : Int)) = false := decide_eq_false c2
 clear c2
 obtain rfl := Option.some.inj H
 go_wp2
 go_ret
 exact ⟨by rfl, by repeat (first | exact Drawn0.refl _ | apply Drawn0.step)⟩

end Go.Proofs.YtehekppkicjimaaDoor.QFK
