-- written by a program of mine (wip/tools/print2.py), which turns the kit's printer a little
import Derived.Test.YtehekppkicjimaaDoorSQFKx0
import Derived.Test.YtehekppkicjimaaDoorSErr
namespace Go.Proofs.YtehekppkicjimaaDoor.QFK
open Go.RowKit Go.Proofs.YtehekppkicjimaaDoorW.PrintWords Go.Proofs.YtehekppkicjimaaDoorW.PrintLast Go.Proofs.YtehekppkicjimaaDoorW.PrintMore
attribute [local go_sem] max2_int min2_int max_two min_two max_three min_three max_four min_four
set_option linter.unusedVariables false
set_option linter.unusedSimpArgs false

attribute [local go_sem] Sent.alloc Sent.drew Sent.drewN Sent.c0 Sent.c1
/-! ### optimaref3_big: function 17 -/
def optimaref3_big.f (a0 : Int) : Option (Bool) := if a0 > 100000000 then (some true) else (some (decide (a0 < (-100000000))))
set_option maxHeartbeats 8000000 in
set_option maxRecDepth 100000 in
theorem optimaref3_big.calls (a0 : Int) (r : Bool) (w : World) (h : optimaref3_big.f a0 = some r) :
 Calls Tryd.prog 17 #[.int .i64 a0] w fun e w' => e = .returned (.bool r) ∧ Drawn0 w w' := by
 have H : (if a0 > 100000000 then (some true) else (some (decide (a0 < (-100000000))))) = some r := h
 clear h
 by_cases c2 : a0 > 100000000
 ·rw [if_pos c2] at H
  have c2b0 : decide (100000000 < a0) = true := decide_eq_true c2
  clear c2
  obtain rfl := Option.some.inj H
  go_enter Tryd.func17, Tryd.ntmps17
  go_wp2
  go_ret
  exact ⟨by rfl, by exact Drawn0.refl _⟩
 rw [if_neg c2] at H
 have c2b0 : decide (100000000 < a0) = false := decide_eq_false c2
 clear c2
 obtain rfl := Option.some.inj H
 go_enter Tryd.func17, Tryd.ntmps17
 go_wp2
 go_ret
 exact ⟨by rfl, by exact Drawn0.refl _⟩

end Go.Proofs.YtehekppkicjimaaDoor.QFK
