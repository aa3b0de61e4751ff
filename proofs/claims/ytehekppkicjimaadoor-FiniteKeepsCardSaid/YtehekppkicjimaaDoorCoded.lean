/- plain.Code and coded at a sentinel (or nil): the sentinel's place in plain.Code's list. Conditions: 'Sent'. -/
import Derived.Test.YtehekppkicjimaaDoorAs
import Derived.Test.YtehekppkicjimaaDoorQFKx0
namespace Go.Proofs.YtehekppkicjimaaDoor.QFK
open Go.RowKit Go.Proofs.YtehekppkicjimaaDoorW.PrintWords Go.Proofs.YtehekppkicjimaaDoorW.PrintLast Go.Proofs.YtehekppkicjimaaDoorW.PrintMore Go.Proofs.YtehekppkicjimaaDoor
set_option linter.unusedVariables false

/-- the sentinels in the order in which plain.Code asks -/
def ordE : List Int := [2, 1, 3, 0, 4, 5, 6, 7, 8, 9]
def codeE : Option Int → Int
  | none => 0
  | some g => (ordE.findIdx (· == g) : Nat) + 1
theorem is_sent [Sn : Sents] (g h : Int) (w : World) (hS : Sent w) (g0 : 0 ≤ g) (g1 : g < 10) (h0 : 0 ≤ h) (h1 : h < 10) :
    Calls Tryd.prog 35 #[.iface 135 (.pointer (some (Sn.E g))), .iface 135 (.pointer (some (Sn.E h)))] w fun e w' => e = .returned (.bool (g == h)) ∧ w = w' := by
  by_cases e : g = h
  · subst e
    exact (is_same _ w).mono fun e w' he => ⟨by simpa using he.1, he.2.symm⟩
  · obtain ⟨ca, ta, ha⟩ := hS.blk g g0 g1
    obtain ⟨cb, tb, hb⟩ := hS.blk h h0 h1
    exact (is_other _ _ ca cb ta tb w (hS.inj g h g0 g1 h0 h1 e) ha hb).mono fun e' w' he => ⟨by rw [he.1]; simp [e], he.2.symm⟩

def ordN : Nat → Int
  | 0 => 2 | 1 => 1 | 2 => 3 | 3 => 0 | 4 => 4 | 5 => 5 | 6 => 6 | 7 => 7 | 8 => 8 | 9 => 9 | _ => 10
def cntE (g : Int) : Nat → Int
  | 0 => 0
  | k + 1 => if g = ordN k then (k : Int) + 1 else cntE g k
theorem cnt_new : ∀ k : Nat, k < 10 → cntE (ordN k) k = 0 := by decide
theorem cnt_all : ∀ g : Nat, g < 10 → cntE g 10 = codeE (some g) ∧ 0 < cntE g 10 := by decide
theorem ordN_in : ∀ k : Nat, k < 10 → 0 ≤ ordN k ∧ ordN k < 10 := by decide
theorem cnt_bd (g : Int) (k : Nat) : 0 ≤ cntE g k ∧ cntE g k ≤ k := by
  induction k with
  | zero => simp [cntE]
  | succ k ih => rw [cntE]; split <;> omega
set_option maxHeartbeats 4000000 in
set_option maxRecDepth 100000 in
theorem code_sent [Sn : Sents] (g : Nat) (w : World) (hS : Sent w) (g1 : g < 10) :
    Calls Tryd.prog 20 #[errW (some (g : Int))] w fun e w' => e = .returned (.tuple #[.int .i64 (codeE (some g)), .int .i64 (-1)]) ∧ Below w.heap.size w w' := by
  have hu28 := Tryd.underlying28
  have hc0 := hS.cell 0 (by omega)
  have hc1 := hS.cell 1 (by omega)
  have hc2 := hS.cell 2 (by omega)
  have hc3 := hS.cell 3 (by omega)
  have hc4 := hS.cell 4 (by omega)
  have hc5 := hS.cell 5 (by omega)
  have hc6 := hS.cell 6 (by omega)
  have hc7 := hS.cell 7 (by omega)
  have hc8 := hS.cell 8 (by omega)
  have hc9 := hS.cell 9 (by omega)
  have HS := Aside0.mk hS
  clear hS
  rw [errW_some]
  simp only [errW_some] at hc0 hc1 hc2 hc3 hc4 hc5 hc6 hc7 hc8 hc9
  go_enter Tryd.func20, Tryd.ntmps20
  go_wp2
  clear hc0 hc1 hc2 hc3 hc4 hc5 hc6 hc7 hc8 hc9
  generalize hW : w.alloc _ = w1
  have HB := Aside0.mk (show Below w.heap.size w w1 by rw [← hW]; exact below_alloc (Below.refl _ _) _)
  have HCELL := Aside0.mk (show ∀ k : Nat, k < 10 → w1.cell? ⟨w.heap.size, k, none⟩ = some (errW (some (ordN k))) by
    intro k hk
    rw [← hW]
    have hc : k = 0 ∨ k = 1 ∨ k = 2 ∨ k = 3 ∨ k = 4 ∨ k = 5 ∨ k = 6 ∨ k = 7 ∨ k = 8 ∨ k = 9 := by omega
    rcases hc with rfl | rfl | rfl | rfl | rfl | rfl | rfl | rfl | rfl | rfl <;> simp [errW, ordN])
  clear hW
  go_loop [22, 4, 5, 6] (fun v22 v4 v5 v6 => ∃ k : Nat, k ≤ 10 ∧ v22 = .int .i64 k ∧ v4 = .int .i64 (cntE g k)) (fun v22 _ _ _ => 10 - (intOf v22).toNat)
  case atStart => exact ⟨0, by omega, rfl, rfl⟩
  case round =>
    obtain ⟨k, hk, rfl, rfl⟩ := hrel
    by_cases hlt : k < 10
    · have hcell := HCELL.out k hlt
      rw [errW_some] at hcell
      have hko := ordN_in k hlt
      have HKO := Aside0.mk hko
      clear hko
      by_cases hm : (g : Int) = ordN k
      · have hmb : ((g : Int) == ordN k) = true := beq_iff_eq.2 hm
        have HM := Aside0.mk hm
        have h0 : cntE (g : Int) k = 0 := by rw [hm]; exact cnt_new k hlt
        have HST := Aside0.mk (show cntE (g : Int) (k + 1) = (k : Int) + 1 by rw [cntE, if_pos hm])
        clear hm
        go_wp2_with (go_at_call 35; refine (is_sent g (ordN k) _ (HS.out.below HB.out) (by omega) (by omega) HKO.out.1 HKO.out.2).mono ?_; rintro e w' ⟨rfl, rfl⟩)
        go_round
        case rel => exact ⟨k + 1, by omega, by go_num, by rw [HST.out]⟩
        case measure => simp [intOf]; omega
      · have hmb : ((g : Int) == ordN k) = false := beq_eq_false_iff_ne.2 hm
        have HST := Aside0.mk (show cntE (g : Int) (k + 1) = cntE g k by rw [cntE, if_neg hm])
        clear hm
        go_wp2_with (go_at_call 35; refine (is_sent g (ordN k) _ (HS.out.below HB.out) (by omega) (by omega) HKO.out.1 HKO.out.2).mono ?_; rintro e w' ⟨rfl, rfl⟩)
        go_round
        case rel => exact ⟨k + 1, by omega, by go_num, by rw [HST.out]⟩
        case measure => simp [intOf]; omega
    · obtain rfl : k = 10 := by omega
      have hall := cnt_all g g1
      have HALL := Aside0.mk hall.1
      have hpos := hall.2
      have hz : (cntE (g : Int) 10 == 0) = false := beq_eq_false_iff_ne.2 (by omega)
      clear hall hpos
      go_wp2_with (go_at_call 36; refine (as_miss _ _ _ ((HS.out.below HB.out).alloc _).c10).mono ?_; rintro e w' ⟨rfl, hb⟩; have HB2 := Aside0.mk hb; clear hb)
      go_ret2
      exact ⟨by rw [HALL.out]; rfl, below_step (below_alloc HB.out _) HB2.out⟩
theorem code_nil [Sn : Sents] (w : World) :
    Calls Tryd.prog 20 #[.nilIface] w fun e w' => e = .returned (.tuple #[.int .i64 0, .int .i64 (-1)]) ∧ Below w.heap.size w w' := by
  have hu28 := Tryd.underlying28
  go_enter Tryd.func20, Tryd.ntmps20
  go_wp2
  go_ret2
  exact ⟨rfl, Below.refl _ _⟩

/-- coded: is an error of this number? -/
def optimalaw3_coded.f (a0 : Option Int) (a1 : Int) : Option Bool :=
  match a0 with
  | none => some ((0 : Int) == a1)
  | some g => if 0 ≤ g ∧ g < 10 then some (codeE (some g) == a1) else none
theorem coded_any [Sn : Sents] (v : Value) (n a1 : Int) (w : World) (hc : ∀ w : World, Sent w → Calls Tryd.prog 20 #[v] w fun e w' => e = .returned (.tuple #[.int .i64 n, .int .i64 (-1)]) ∧ Below w.heap.size w w') (hS : Sent w) :
    Calls Tryd.prog 10 #[v, .int .i64 a1] w fun e w' => e = .returned (.bool (n == a1)) ∧ Below w.heap.size w w' := by
  have HC := Aside0.mk hc
  have HS := Aside0.mk hS
  clear hc hS
  go_enter Tryd.func10, Tryd.ntmps10
  go_wp2_with (go_at_call 20; refine (HC.out _ HS.out).mono ?_; rintro e w' ⟨rfl, hb⟩; have HB := Aside0.mk hb; clear hb)
  go_ret
  exact ⟨rfl, HB.out⟩
theorem optimalaw3_coded.calls [Sn : Sents] (a0 : Option Int) (a1 : Int) (r : Bool) (w : World) (h : optimalaw3_coded.f a0 a1 = some r) (hS : Sent w := by first | assumption | exact Sent.ofB hS HB | (refine Sent.below hS ?_; (repeat (first | exact HB.out | apply below_alloc | apply pw_below_drewN | apply below_drew | (refine below_set ?_ (Aside0.out (by assumption)))))) | (repeat (first | exact hS | apply Sent.alloc | apply Sent.drewN | apply Sent.drew))) :
    Calls Tryd.prog 10 #[errW a0, .int .i64 a1] w fun e w' => e = .returned (.bool r) ∧ Below w.heap.size w w' := by
  cases a0 with
  | none =>
    obtain rfl := Option.some.inj h
    exact coded_any _ _ _ _ (fun w _ => code_nil w) hS
  | some g =>
    simp only [optimalaw3_coded.f] at h
    split at h
    · rename_i hg
      obtain rfl := Option.some.inj h
      obtain ⟨n, rfl⟩ := Int.eq_ofNat_of_zero_le hg.1
      exact coded_any _ _ _ _ (fun w hS => code_sent n w hS (by omega)) hS
    · cases h
end Go.Proofs.YtehekppkicjimaaDoor.QFK
