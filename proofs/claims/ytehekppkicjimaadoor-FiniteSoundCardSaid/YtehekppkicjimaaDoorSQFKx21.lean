-- written by a program of mine (wip/tools/print2.py), which turns the kit's printer a little
import Derived.Test.YtehekppkicjimaaDoorSQFKx0
import Derived.Test.YtehekppkicjimaaDoorSErr
namespace Go.Proofs.YtehekppkicjimaaDoor.QFK
open Go.RowKit Go.Proofs.YtehekppkicjimaaDoorW.PrintWords Go.Proofs.YtehekppkicjimaaDoorW.PrintLast Go.Proofs.YtehekppkicjimaaDoorW.PrintMore
attribute [local go_sem] max2_int min2_int max_two min_two max_three min_three max_four min_four
set_option linter.unusedVariables false
set_option linter.unusedSimpArgs false

attribute [local go_sem] Sent.alloc Sent.drew Sent.drewN Sent.c0 Sent.c1
/-! ### optimaref3_in: function 21 -/
def optimaref3_in.l0 : Nat → List Int → Int → Int → Option (Bool)
 | 0, _, _, _ => none
 | k + 1, x0, x1, x5 => if x5 < (x0.length : Int) then (if 0 ≤ x5 then (if (rd x0 x5) = x1 then (some true) else (optimaref3_in.l0 k x0 x1 (wrap64 (x5 + 1)))) else (none)) else (some false)
def optimaref3_in.f (k : Nat) (l0 : List Int) (a1 : Int) : Option (Bool) := optimaref3_in.l0 k l0 a1 0
theorem optimaref3_in.mono_l : ∀ k, (∀ y0 y1 y2, LeO (optimaref3_in.l0 k y0 y1 y2) (optimaref3_in.l0 (k + 1) y0 y1 y2))
 | 0 => fun _ _ _ r h => by simp [optimaref3_in.l0] at h
 | k + 1 => by
  have ih0 := optimaref3_in.mono_l k
  intro y0 y1 y2
  unfold optimaref3_in.l0
  repeat' first | (with_reducible exact ih0 _ _ _) | (with_reducible exact LeO.refl _) | (with_reducible refine LeO.ite ?_ ?_)
theorem optimaref3_in.mono : ∀ a0 a1 k, LeO (optimaref3_in.f k a0 a1) (optimaref3_in.f (k + 1) a0 a1) := by
 intro a0 a1 k
 have ih0 := optimaref3_in.mono_l k
 unfold optimaref3_in.f
 repeat' (with_reducible exact ih0 _ _ _)
set_option maxHeartbeats 8000000 in
set_option maxRecDepth 100000 in
theorem optimaref3_in.calls (k : Nat) (A0 : Option Addr) (c0 : Nat) (l0 : List Int) (a1 : Int) (r : Bool) (w : World) (hr0 : Kd.C (Kd.int .i64) w A0 l0.length l0) (hc0 : l0.length ≤ c0) (h : optimaref3_in.f k l0 a1 = some r) :
 Calls Tryd.prog 21 #[.slice A0 l0.length c0, .int .i64 a1] w fun e w' => e = .returned (.bool r) ∧ Drawn0 w w' := by
 have HR0 := Aside0.mk hr0
 have HC0 := Aside0.mk hc0
 clear hr0 hc0
 have H : (optimaref3_in.l0 k l0 a1 0) = some r := h
 clear h
 have H' := Aside0.mk H
 clear H
 go_enter Tryd.func21, Tryd.ntmps21
 go_wp2
 go_loopg [5] k (fun kq v5 w' => ∃ (x5_1 : Int), v5 = .int .i64 x5_1 ∧ Aside0 (optimaref3_in.l0 kq l0 a1 x5_1 = some r) ∧ Aside0 (kq ≤ k) ∧ Drawn0 w w')
 case atStart => exact ⟨(0), (by rfl), H', ⟨Nat.le_refl _⟩, by exact Drawn0.refl _⟩
 clear H'
 try clear c2
 try clear p2
 obtain ⟨x5_1, rfl, HA, HK1, ⟨m1, rfl⟩⟩ := hrel
 rcases gk with _ | k1
 ·exact absurd HA.out (by simp [optimaref3_in.l0])
 have H := HA.out
 clear HA
 simp only [optimaref3_in.l0] at H
 by_cases c3 : x5_1 < (l0.length : Int)
 ·rw [if_pos c3] at H
  have c3b0 : decide (x5_1 < (l0.length : Int)) = true := decide_eq_true c3
  clear c3
  by_cases c4 : 0 ≤ x5_1
  ·rw [if_pos c4] at H
   have c4b0 : decide (0 ≤ x5_1) = true := decide_eq_true c4
   clear c4
   by_cases c5 : (rd l0 x5_1) = a1
   ·rw [if_pos c5] at H
    have c5b0 : ((rd l0 x5_1) == a1) = true := beq_iff_eq.mpr c5
    have c5b1 : ((rd l0 x5_1) != a1) = false := bne_eq_false_iff_eq.mpr c5
    clear c5
    obtain rfl := Option.some.inj H
    have p331 : 0 ≤ (x5_1 : Int) := of_decide_eq_true (by (with_reducible assumption))
    have q331 : x5_1 < (l0.length : Int) := of_decide_eq_true (by (with_reducible assumption))
    obtain ⟨ad331, e331, hx331_0⟩ := Kd.at_int HR0.out x5_1 p331 q331
    cases e331
    replace p331 := eq_true p331
    replace q331 := eq_true q331
    go_wp2
    go_ret
    exact ⟨by rfl, by repeat (first | exact Drawn0.refl _ | apply Drawn0.step)⟩
   rw [if_neg c5] at H
   have c5b0 : ((rd l0 x5_1) == a1) = false := beq_eq_false_iff_ne.mpr c5
   have c5b1 : ((rd l0 x5_1) != a1) = true := bne_iff_ne.mpr c5
   have H' := Aside0.mk H
   clear H
   have p331 : 0 ≤ (x5_1 : Int) := of_decide_eq_true (by (with_reducible assumption))
   have q331 : x5_1 < (l0.length : Int) := of_decide_eq_true (by (with_reducible assumption))
   obtain ⟨ad331, e331, hx331_0⟩ := Kd.at_int HR0.out x5_1 p331 q331
   cases e331
   replace p331 := eq_true p331
   replace q331 := eq_true q331
   go_wp2
   go_roundg k1
   case measure => have := HK1.out; omega
   case rel => exact ⟨(wrap64 (x5_1 + 1)), (by rfl), H', ⟨by have := HK1.out; omega⟩, by repeat (first | exact Drawn0.refl _ | apply Drawn0.step)⟩
  rw [if_neg c4] at H
  exact absurd H (by simp)
 rw [if_neg c3] at H
 have c3b0 : decide (x5_1 < (l0.length : Int)) = false := decide_eq_false c3
 clear c3
 obtain rfl := Option.some.inj H
 go_wp2
 go_ret
 exact ⟨by rfl, by repeat (first | exact Drawn0.refl _ | apply Drawn0.step)⟩

end Go.Proofs.YtehekppkicjimaaDoor.QFK
