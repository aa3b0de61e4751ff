-- written by a program of mine (wip/tools/print2.py), which turns the kit's printer a little
import Derived.Test.YtehekppkicjimaaDoorSQFKx0
import Derived.Test.YtehekppkicjimaaDoorSQFKx15
import Derived.Test.YtehekppkicjimaaDoorSQFKx9
import Derived.Test.YtehekppkicjimaaDoorSKeeps
namespace Go.Proofs.YtehekppkicjimaaDoor.QFK
open Go.RowKit Go.Proofs.YtehekppkicjimaaDoorW.PrintWords Go.Proofs.YtehekppkicjimaaDoorW.PrintLast Go.Proofs.YtehekppkicjimaaDoorW.PrintMore
attribute [local go_sem] max2_int min2_int max_two min_two max_three min_three max_four min_four
set_option linter.unusedVariables false
set_option linter.unusedSimpArgs false

attribute [local go_sem] Sent.alloc Sent.drew Sent.drewN Sent.c0 Sent.c1
/-! ### finite_Keeps: function 5 -/
mutual
def finite_Keeps.l0 : Nat → List Int → List Int → Int → Int → List (List Int) → List (S44) → Option (Bool × Option Int)
 | 0, _, _, _, _, _, _ => none
 | k + 1, x1, x23, x24, x25, x269000, x269001 => if x25 < x24 then (if 0 ≤ x25 then (if x25 < (x23.length : Int) then (if x25 < (x269000.length : Int) then ((slices_Contains_int_int.f k (rd_L1 x269000 x25) (rd x23 x25)).bind fun t273 => (if t273 = true then (finite_Keeps.l0 k x1 x23 x24 (wrap64 (x25 + 1)) x269000 x269001) else (some (false, none)))) else (none)) else (none)) else (none)) else (finite_Keeps.l1 k x1 x269001 (x269001.length : Int) 0)
def finite_Keeps.l1 : Nat → List Int → List (S44) → Int → Int → Option (Bool × Option Int)
 | 0, _, _, _, _ => none
 | k + 1, x1, x40, x41, x42 => if x42 < x41 then (if 0 ≤ x42 then (if x42 < (x40.length : Int) then ((finite_keeps.f ((rd_T44 x40 x42).f0) ((rd_T44 x40 x42).f1) ((rd_T44 x40 x42).f2) ((rd_T44 x40 x42).f3) ((rd_T44 x40 x42).f4) ((rd_T44 x40 x42).f5) x1).bind fun t276 => (if t276 = true then (finite_Keeps.l1 k x1 x40 x41 (wrap64 (x42 + 1))) else (some (false, none)))) else (none)) else (none)) else (some (true, none))
end
def finite_Keeps.f (k : Nat) (l0_0 : List (List Int)) (l0_1 : List (S44)) (l1 : List Int) : Option (Bool × Option Int) := (finite_Valid.f k l0_0 l0_1).bind fun t269 => (if t269.isNone = true then (if (l1.length : Int) = (l0_0.length : Int) then (finite_Keeps.l0 k l1 l1 (l1.length : Int) 0 l0_0 l0_1) else (some (false, some 0))) else (some (false, some (t269.getD 0))))
theorem finite_Keeps.mono_l : ∀ k, (∀ y0 y1 y2 y3 y4 y5, LeO (finite_Keeps.l0 k y0 y1 y2 y3 y4 y5) (finite_Keeps.l0 (k + 1) y0 y1 y2 y3 y4 y5)) ∧ (∀ y0 y1 y2 y3, LeO (finite_Keeps.l1 k y0 y1 y2 y3) (finite_Keeps.l1 (k + 1) y0 y1 y2 y3))
 | 0 => ⟨fun _ _ _ _ _ _ r h => by simp [finite_Keeps.l0] at h, fun _ _ _ _ r h => by simp [finite_Keeps.l1] at h⟩
 | k + 1 => by
  obtain ⟨ih0, ih1⟩ := finite_Keeps.mono_l k
  refine ⟨?_, ?_⟩
  ·intro y0 y1 y2 y3 y4 y5
   unfold finite_Keeps.l0
   repeat' first | (with_reducible exact ih0 _ _ _ _ _ _) | (with_reducible exact ih1 _ _ _ _) | (with_reducible exact slices_Contains_int_int.mono _ _ _) | (with_reducible exact LeO.refl _) | (with_reducible refine LeO.ite ?_ ?_) | (with_reducible refine LeO.bind ?_ (fun _ => ?_))
  intro y0 y1 y2 y3
  unfold finite_Keeps.l1
  repeat' first | (with_reducible exact ih1 _ _ _ _) | (with_reducible exact LeO.refl _) | (with_reducible refine LeO.ite ?_ ?_) | (with_reducible refine LeO.bind ?_ (fun _ => ?_))
theorem finite_Keeps.mono : ∀ a0 a1 a2 k, LeO (finite_Keeps.f k a0 a1 a2) (finite_Keeps.f (k + 1) a0 a1 a2) := by
 intro a0 a1 a2 k
 obtain ⟨ih0, ih1⟩ := finite_Keeps.mono_l k
 unfold finite_Keeps.f
 repeat' first | (with_reducible exact ih0 _ _ _ _ _ _) | (with_reducible exact finite_Valid.mono _ _ _) | (with_reducible exact LeO.refl _) | (with_reducible refine LeO.ite ?_ ?_) | (with_reducible refine LeO.bind ?_ (fun _ => ?_))
set_option maxHeartbeats 8000000 in
set_option maxRecDepth 100000 in
theorem finite_Keeps.calls [Sn : Sents] (k : Nat) (A0_0 : Option Addr) (c0_0 : Nat) (l0_0 : List (List Int)) (A0_1 : Option Addr) (c0_1 : Nat) (l0_1 : List (S44)) (A1 : Option Addr) (c1 : Nat) (l1 : List Int) (r1 : Bool) (r2 : Option Int) (w : World) (hr0_0 : Kd.C (Kd.slice 3 (Kd.int .i64)) w A0_0 l0_0.length l0_0) (hc0_0 : l0_0.length ≤ c0_0) (hr0_1 : Kd.C k44 w A0_1 l0_1.length l0_1) (hc0_1 : l0_1.length ≤ c0_1) (hr1 : Kd.C (Kd.int .i64) w A1 l1.length l1) (hc1 : l1.length ≤ c1) (h : finite_Keeps.f k l0_0 l0_1 l1 = some (r1, r2)) (hS : Sent w := by first | assumption | exact Sent.ofB hS HB | (refine Sent.below hS ?_; (repeat (first | exact HB.out | apply below_alloc | apply pw_below_drewN | apply below_drew | (refine below_set ?_ (Aside0.out (by assumption)))))) | (repeat (first | exact hS | apply Sent.alloc | apply Sent.drewN | apply Sent.drew))) :
 Calls Tryd.prog 5 #[.agg #[.slice A0_0 l0_0.length c0_0, .slice A0_1 l0_1.length c0_1], .slice A1 l1.length c1] w fun e w' => e = .returned (.tuple #[.bool r1, errW r2]) ∧ Below w.heap.size w w' := by
 have hu25 := Tryd.underlying25
 have hu44 := Tryd.underlying44
 have hu28 := Tryd.underlying28
 have HR0_0 := Aside0.mk hr0_0
 have HC0_0 := Aside0.mk hc0_0
 clear hr0_0 hc0_0
 have HR0_1 := Aside0.mk hr0_1
 have HC0_1 := Aside0.mk hc0_1
 clear hr0_1 hc0_1
 have HR1 := Aside0.mk hr1
 have HC1 := Aside0.mk hc1
 clear hr1 hc1
 have HB := Aside0.mk (Below.refl w.heap.size w)
 have H : ((finite_Valid.f k l0_0 l0_1).bind fun t269 => (if t269.isNone = true then (if (l1.length : Int) = (l0_0.length : Int) then (finite_Keeps.l0 k l1 l1 (l1.length : Int) 0 l0_0 l0_1) else (some (false, some 0))) else (some (false, some (t269.getD 0))))) = some (r1, r2) := h
 clear h
 replace H := Option.bind_eq_some_iff.mp H
 obtain ⟨t269, A30, H⟩ := H
 replace H : (if t269.isNone = true then (if (l1.length : Int) = (l0_0.length : Int) then (finite_Keeps.l0 k l1 l1 (l1.length : Int) 0 l0_0 l0_1) else (some (false, some 0))) else (some (false, some (t269.getD 0)))) = some (r1, r2) := H
 have A3 := Aside0.mk A30
 clear A30
 rcases t269 with _ | q270
 ·have H1 : (if (l1.length : Int) = (l0_0.length : Int) then (finite_Keeps.l0 k l1 l1 (l1.length : Int) 0 l0_0 l0_1) else (some (false, some 0))) = some (r1, r2) := by rw [if_pos (show (none : Option Int).isNone = true by rfl)] at H; exact H
  clear H
  have H := H1
  clear H1
  try simp only [errW_none, errW_some]
  by_cases c4 : (l1.length : Int) = (l0_0.length : Int)
  ·rw [if_pos c4] at H
   have c4b0 : ((l1.length : Int) == (l0_0.length : Int)) = true := beq_iff_eq.mpr c4
   have c4b1 : ((l1.length : Int) != (l0_0.length : Int)) = false := bne_eq_false_iff_eq.mpr c4
   have c4b2 : (l1.length == l0_0.length) = true := by (simp at c4 ⊢; omega)
   clear c4
   have H' := Aside0.mk H
   clear H
   go_enter Tryd.func5, Tryd.ntmps5
   (try clear hSr)
   (try have hSr := Sent.ofB hS HB)
   go_wp2_with (first | ((with_reducible refine gate_dst (N := 2) rfl ?_); refine box_event ?hg (N := 2) ?hd (cs := #[.slice A0_0 l0_0.length c0_0, .slice A0_1 l0_1.length c0_1]) (t := 25) ?hr ?_; (case hd => rfl); (case hg => rfl); (case hr => (go_simp; done)); intro gb268 hg w5 hbox hb; have n0_ := Aside0.mk (below_step (by exact HB.out) hb); have n1_ := Aside0.mk (hbox); have n2_ := Aside0.mk ((by rw [hg]; exact (below_size (by exact HB.out)) : w.heap.size ≤ gb268)); have n3_ := Aside0.mk ((by rw [hg]; exact (below_size (by exact HB.out)) : w.heap.size ≤ gb268)); clear HB; have HB := n0_; have BK268 := n1_; have GW268 := n2_; have GE268 := n3_; clear n0_ n1_ n2_ n3_; clear hb hbox hg; have hcz6_0 : w5.cell? ⟨gb268, 0, none⟩ = some (.slice A0_0 l0_0.length c0_0) := (blk_cell BK268.out 0).trans rfl; have hcz6_1 : w5.cell? ⟨gb268, 1, none⟩ = some (.slice A0_1 l0_1.length c0_1) := (blk_cell BK268.out 1).trans rfl; have hfz6_0 := blk_frozen BK268.out 0; have hfz6_1 := blk_frozen BK268.out 1) | (go_at_call 9; (with_reducible refine (finite_Valid.calls k _ _ l0_0 _ _ l0_1 none _ ?side1 ?side2 ?side3 ?side4 A3.out).mono ?_); (case side1 => repeat (exact (Kd.C_below HR0_0.out HB.out))); (case side2 => exact HC0_0.out); (case side3 => repeat (exact (Kd.C_below HR0_1.out HB.out))); (case side4 => exact HC0_1.out); rintro e w7 ⟨rfl, hb⟩; have n0_ := Aside0.mk (blk_below (g := gb268) (o := .cells #[.slice A0_0 l0_0.length c0_0, .slice A0_1 l0_1.length c0_1] 25 (0, 0)) (by exact BK268.out) hb); have n1_ := Aside0.mk (below_step (by exact HB.out) hb); clear BK268; clear HB; have BK268 := n0_; have HB := n1_; clear n0_ n1_; (try clear hb); (try clear hb2); (try clear hk); (try clear hi); (try simp only [errW_none, errW_some]); have hcz8_0 : w7.cell? ⟨gb268, 0, none⟩ = some (.slice A0_0 l0_0.length c0_0) := (blk_cell BK268.out 0).trans rfl; have hcz8_1 : w7.cell? ⟨gb268, 1, none⟩ = some (.slice A0_1 l0_1.length c0_1) := (blk_cell BK268.out 1).trans rfl; have hfz8_0 := blk_frozen BK268.out 0; have hfz8_1 := blk_frozen BK268.out 1))
   (try clear hSr)
   (try have hSr := Sent.ofB hS HB)
   repeat (go_quiet (fail); try go_wp2_with (fail))
   go_loopg [25] k (fun kq v25 w' => ∃ (x25_1 : Int), v25 = .int .i64 x25_1 ∧ Aside0 (finite_Keeps.l0 kq l1 l1 (l1.length : Int) x25_1 l0_0 l0_1 = some (r1, r2)) ∧ Aside0 (kq ≤ k) ∧ Aside0 (w'.heap[gb268]? = some (.cells #[(.slice A0_0 l0_0.length c0_0), (.slice A0_1 l0_1.length c0_1)] 25 (0, 0))) ∧ Aside0 (Below w.heap.size w w'))
   case atStart => exact ⟨(0), (by rfl), H', ⟨Nat.le_refl _⟩, ⟨by exact BK268.out⟩, ⟨by exact HB.out⟩⟩
   clear H'
   try clear c1
   try clear p2
   try clear q2
   try clear c4
   try clear c4b0
   try clear c4b1
   try clear c4b2
   try clear c5
   try clear hcz6_0
   try clear hcz6_1
   try clear hcz8_0
   try clear hcz8_1
   try clear hfz6_0
   try clear hfz6_1
   try clear hfz8_0
   try clear hfz8_1
   try clear q270
   obtain ⟨x25_1, rfl, HA, HK1, BK268, HB⟩ := hrel
   rcases gk with _ | k1
   ·exact absurd HA.out (by simp [finite_Keeps.l0])
   have H := HA.out
   clear HA
   simp only [finite_Keeps.l0] at H
   by_cases c9 : x25_1 < (l1.length : Int)
   ·rw [if_pos c9] at H
    have c9b0 : decide (x25_1 < (l1.length : Int)) = true := decide_eq_true c9
    clear c9
    by_cases c10 : 0 ≤ x25_1
    ·rw [if_pos c10] at H
     have c10b0 : decide (0 ≤ x25_1) = true := decide_eq_true c10
     clear c10
     by_cases c11 : x25_1 < (l1.length : Int)
     ·rw [if_pos c11] at H
      have c11b0 : decide (x25_1 < (l1.length : Int)) = true := decide_eq_true c11
      clear c11
      by_cases c12 : x25_1 < (l0_0.length : Int)
      ·rw [if_pos c12] at H
       have c12b0 : decide (x25_1 < (l0_0.length : Int)) = true := decide_eq_true c12
       clear c12
       replace H := Option.bind_eq_some_iff.mp H
       obtain ⟨t273, A130, H⟩ := H
       replace H : (if t273 = true then (finite_Keeps.l0 k1 l1 l1 (l1.length : Int) (wrap64 (x25_1 + 1)) l0_0 l0_1) else (some (false, none))) = some (r1, r2) := H
       have A13 := Aside0.mk A130
       clear A130
       by_cases c14 : t273 = true
       ·subst c14
        have H1 : (finite_Keeps.l0 k1 l1 l1 (l1.length : Int) (wrap64 (x25_1 + 1)) l0_0 l0_1) = some (r1, r2) := by rw [if_pos rfl] at H; exact H
        clear H
        have H := H1
        clear H1
        have H' := Aside0.mk H
        clear H
        have p271 : 0 ≤ (x25_1 : Int) := of_decide_eq_true (by (with_reducible assumption))
        have q271 : x25_1 < (l1.length : Int) := of_decide_eq_true (by (with_reducible assumption))
        obtain ⟨ad271, e271, hx271_0⟩ := Kd.at_int HR1.out x25_1 p271 q271
        cases e271
        replace hx271_0 := (HB.out.cell (World.block_lt_of_cell? w _ hx271_0)).trans hx271_0
        replace p271 := eq_true p271
        replace q271 := eq_true q271
        have hcz15_0 : wr.cell? ⟨gb268, 0, none⟩ = some (.slice A0_0 l0_0.length c0_0) := (blk_cell BK268.out 0).trans rfl
        have hcz15_1 : wr.cell? ⟨gb268, 1, none⟩ = some (.slice A0_1 l0_1.length c0_1) := (blk_cell BK268.out 1).trans rfl
        have hfz15_0 := blk_frozen BK268.out 0
        have hfz15_1 := blk_frozen BK268.out 1
        have p272 : 0 ≤ (x25_1 : Int) := of_decide_eq_true (by (with_reducible assumption))
        have q272 : x25_1 < (l0_0.length : Int) := of_decide_eq_true (by (with_reducible assumption))
        obtain ⟨ad272, A272_0, c272_0, e272, hx272_0, hl272_0, hi272_0⟩ := at_L1 HR0_0.out x25_1 p272 q272
        cases e272
        replace hx272_0 := (HB.out.cell (World.block_lt_of_cell? w _ hx272_0)).trans hx272_0
        have HR272_0 := Aside0.mk hi272_0
        have HC272_0 := Aside0.mk hl272_0
        clear hi272_0 hl272_0
        replace p272 := eq_true p272
        replace q272 := eq_true q272
        (try clear hSr)
        (try have hSr := Sent.ofB hS HB)
        go_wp2_with ((go_at_call 15; (with_reducible refine (slices_Contains_int_int.calls k1 _ _ (rd_L1 l0_0 x25_1) (rd l1 x25_1) true _ ?side1 ?side2 A13.out).mono ?_); (case side1 => repeat (exact (Kd.C_below HR272_0.out HB.out))); (case side2 => exact HC272_0.out); rintro e w' ⟨rfl, ⟨nd, rfl⟩⟩; (try fail)))
        (try clear hSr)
        (try have hSr := Sent.ofB hS HB)
        repeat (go_quiet (fail); try go_wp2_with (fail))
        go_roundg k1
        case measure => have := HK1.out; omega
        case rel => exact ⟨(wrap64 (x25_1 + 1)), (by rfl), H', ⟨by have := HK1.out; omega⟩, ⟨by (with_reducible repeat (refine blk_drewN ?_ _)); exact BK268.out⟩, ⟨by repeat ((with_reducible first | exact HB.out | apply pw_below_drewN))⟩⟩
       replace c14 := Bool.eq_false_iff.mpr c14
       subst c14
       have H1 : (some (false, none)) = some (r1, r2) := by rw [if_neg (show ¬ (false = true) by decide)] at H; exact H
       clear H
       have H := H1
       clear H1
       simp only [Option.some.injEq, Prod.mk.injEq] at H
       obtain ⟨rfl, rfl⟩ := H
       have p271 : 0 ≤ (x25_1 : Int) := of_decide_eq_true (by (with_reducible assumption))
       have q271 : x25_1 < (l1.length : Int) := of_decide_eq_true (by (with_reducible assumption))
       obtain ⟨ad271, e271, hx271_0⟩ := Kd.at_int HR1.out x25_1 p271 q271
       cases e271
       replace hx271_0 := (HB.out.cell (World.block_lt_of_cell? w _ hx271_0)).trans hx271_0
       replace p271 := eq_true p271
       replace q271 := eq_true q271
       have hcz16_0 : wr.cell? ⟨gb268, 0, none⟩ = some (.slice A0_0 l0_0.length c0_0) := (blk_cell BK268.out 0).trans rfl
       have hcz16_1 : wr.cell? ⟨gb268, 1, none⟩ = some (.slice A0_1 l0_1.length c0_1) := (blk_cell BK268.out 1).trans rfl
       have hfz16_0 := blk_frozen BK268.out 0
       have hfz16_1 := blk_frozen BK268.out 1
       have p272 : 0 ≤ (x25_1 : Int) := of_decide_eq_true (by (with_reducible assumption))
       have q272 : x25_1 < (l0_0.length : Int) := of_decide_eq_true (by (with_reducible assumption))
       obtain ⟨ad272, A272_0, c272_0, e272, hx272_0, hl272_0, hi272_0⟩ := at_L1 HR0_0.out x25_1 p272 q272
       cases e272
       replace hx272_0 := (HB.out.cell (World.block_lt_of_cell? w _ hx272_0)).trans hx272_0
       have HR272_0 := Aside0.mk hi272_0
       have HC272_0 := Aside0.mk hl272_0
       clear hi272_0 hl272_0
       replace p272 := eq_true p272
       replace q272 := eq_true q272
       (try clear hSr)
       (try have hSr := Sent.ofB hS HB)
       go_wp2_with ((go_at_call 15; (with_reducible refine (slices_Contains_int_int.calls k1 _ _ (rd_L1 l0_0 x25_1) (rd l1 x25_1) false _ ?side1 ?side2 A13.out).mono ?_); (case side1 => repeat (exact (Kd.C_below HR272_0.out HB.out))); (case side2 => exact HC272_0.out); rintro e w' ⟨rfl, ⟨nd, rfl⟩⟩; (try fail)))
       (try clear hSr)
       (try have hSr := Sent.ofB hS HB)
       repeat (go_quiet (fail); try go_wp2_with (fail))
       go_ret2
       exact ⟨by rfl, by repeat ((with_reducible first | exact HB.out | apply pw_below_drewN))⟩
      rw [if_neg c12] at H
      exact absurd H (by simp)
     rw [if_neg c11] at H
     exact absurd H (by simp)
    rw [if_neg c10] at H
    exact absurd H (by simp)
   rw [if_neg c9] at H
   have c9b0 : decide (x25_1 < (l1.length : Int)) = false := decide_eq_false c9
   clear c9
   have H' := Aside0.mk H
   clear H
   have hcz17_0 : wr.cell? ⟨gb268, 0, none⟩ = some (.slice A0_0 l0_0.length c0_0) := (blk_cell BK268.out 0).trans rfl
   have hcz17_1 : wr.cell? ⟨gb268, 1, none⟩ = some (.slice A0_1 l0_1.length c0_1) := (blk_cell BK268.out 1).trans rfl
   have hfz17_0 := blk_frozen BK268.out 0
   have hfz17_1 := blk_frozen BK268.out 1
   (try clear hSr)
   (try have hSr := Sent.ofB hS HB)
   go_wp2
   (try clear hSr)
   (try have hSr := Sent.ofB hS HB)
   repeat (go_quiet (fail); try go_wp2)
   go_loopg [42] k1 (fun kq v42 w' => ∃ (x42_2 : Int), v42 = .int .i64 x42_2 ∧ Aside0 (finite_Keeps.l1 kq l1 l0_1 (l0_1.length : Int) x42_2 = some (r1, r2)) ∧ Aside0 (kq ≤ k1) ∧ Aside0 (w'.heap[gb268]? = some (.cells #[(.slice A0_0 l0_0.length c0_0), (.slice A0_1 l0_1.length c0_1)] 25 (0, 0))) ∧ Aside0 (Below w.heap.size w w'))
   case atStart => exact ⟨(0), (by rfl), H', ⟨Nat.le_refl _⟩, ⟨by exact BK268.out⟩, ⟨by exact HB.out⟩⟩
   clear H'
   try clear c1
   try clear c2
   try clear p2
   try clear q2
   try clear hx2
   try clear c4
   try clear c4b0
   try clear c4b1
   try clear c4b2
   try clear c5
   try clear p6
   try clear c9
   try clear c9b0
   try clear c10
   try clear c10b0
   try clear c11
   try clear c11b0
   try clear c12
   try clear c12b0
   try clear c14
   try clear hcz15_0
   try clear hcz15_1
   try clear hcz16_0
   try clear hcz16_1
   try clear hcz17_0
   try clear hcz17_1
   try clear hcz6_0
   try clear hcz6_1
   try clear hcz8_0
   try clear hcz8_1
   try clear hfz15_0
   try clear hfz15_1
   try clear hfz16_0
   try clear hfz16_1
   try clear hfz17_0
   try clear hfz17_1
   try clear hfz6_0
   try clear hfz6_1
   try clear hfz8_0
   try clear hfz8_1
   try clear hx271_0
   try clear hx272_0
   try clear p2
   try clear p271
   try clear p272
   try clear q2
   try clear q270
   try clear q271
   try clear q272
   obtain ⟨x42_2, rfl, HA, HK2, BK268, HB⟩ := hrel
   rcases gk with _ | k2
   ·exact absurd HA.out (by simp [finite_Keeps.l1])
   have H := HA.out
   clear HA
   simp only [finite_Keeps.l1] at H
   by_cases c18 : x42_2 < (l0_1.length : Int)
   ·rw [if_pos c18] at H
    have c18b0 : decide (x42_2 < (l0_1.length : Int)) = true := decide_eq_true c18
    clear c18
    by_cases c19 : 0 ≤ x42_2
    ·rw [if_pos c19] at H
     have c19b0 : decide (0 ≤ x42_2) = true := decide_eq_true c19
     clear c19
     by_cases c20 : x42_2 < (l0_1.length : Int)
     ·rw [if_pos c20] at H
      have c20b0 : decide (x42_2 < (l0_1.length : Int)) = true := decide_eq_true c20
      clear c20
      replace H := Option.bind_eq_some_iff.mp H
      obtain ⟨t276, A210, H⟩ := H
      replace H : (if t276 = true then (finite_Keeps.l1 k2 l1 l0_1 (l0_1.length : Int) (wrap64 (x42_2 + 1))) else (some (false, none))) = some (r1, r2) := H
      have A21 := Aside0.mk A210
      clear A210
      by_cases c22 : t276 = true
      ·subst c22
       have H1 : (finite_Keeps.l1 k2 l1 l0_1 (l0_1.length : Int) (wrap64 (x42_2 + 1))) = some (r1, r2) := by rw [if_pos rfl] at H; exact H
       clear H
       have H := H1
       clear H1
       have H' := Aside0.mk H
       clear H
       have p274 : 0 ≤ (x42_2 : Int) := of_decide_eq_true (by (with_reducible assumption))
       have q274 : x42_2 < (l0_1.length : Int) := of_decide_eq_true (by (with_reducible assumption))
       obtain ⟨ad274, A274_1, c274_1, A274_2, c274_2, A274_3, c274_3, A274_5, c274_5, e274, hx274_0, hx274_1, hx274_2, hx274_3, hx274_4, hx274_5, hl274_1, hi274_1, hl274_2, hi274_2, hl274_3, hi274_3, hl274_5, hi274_5⟩ := at_T44 HR0_1.out x42_2 p274 q274
       cases e274
       replace hx274_0 := (HB.out.cell (World.block_lt_of_cell? w _ hx274_0)).trans hx274_0
       replace hx274_1 := (HB.out.cell (World.block_lt_of_cell? w _ hx274_1)).trans hx274_1
       replace hx274_2 := (HB.out.cell (World.block_lt_of_cell? w _ hx274_2)).trans hx274_2
       replace hx274_3 := (HB.out.cell (World.block_lt_of_cell? w _ hx274_3)).trans hx274_3
       replace hx274_4 := (HB.out.cell (World.block_lt_of_cell? w _ hx274_4)).trans hx274_4
       replace hx274_5 := (HB.out.cell (World.block_lt_of_cell? w _ hx274_5)).trans hx274_5
       have HR274_1 := Aside0.mk hi274_1
       have HC274_1 := Aside0.mk hl274_1
       clear hi274_1 hl274_1
       have HR274_2 := Aside0.mk hi274_2
       have HC274_2 := Aside0.mk hl274_2
       clear hi274_2 hl274_2
       have HR274_3 := Aside0.mk hi274_3
       have HC274_3 := Aside0.mk hl274_3
       clear hi274_3 hl274_3
       have HR274_5 := Aside0.mk hi274_5
       have HC274_5 := Aside0.mk hl274_5
       clear hi274_5 hl274_5
       replace p274 := eq_true p274
       replace q274 := eq_true q274
       (try clear hSr)
       (try have hSr := Sent.ofB hS HB)
       go_wp2_with (first | ((with_reducible refine gate_dst (N := 10) rfl ?_); refine box_event ?hg (N := 10) ?hd (cs := #[.int .i64 0, .slice none 0 0, .slice none 0 0, .slice none 0 0, .int .i64 0, .slice none 0 0]) (t := 44) ?hr ?_; (case hd => rfl); (case hg => rfl); (case hr => (go_simp; done)); intro gb275 hg w23 hbox hb; have n0_ := Aside0.mk (blk_below (g := gb268) (o := .cells #[.slice A0_0 l0_0.length c0_0, .slice (some ad274) l0_1.length c0_1] 25 (0, 0)) (by exact BK268.out) hb); have n1_ := Aside0.mk (below_step (by exact HB.out) hb); have n2_ := Aside0.mk (hbox); have n3_ := Aside0.mk ((by rw [hg]; exact (below_size (by exact HB.out)) : w.heap.size ≤ gb275)); have n4_ := Aside0.mk ((by rw [hg]; exact (below_size (by exact HB.out)) : w.heap.size ≤ gb275)); have n5_ := Aside0.mk ((by rw [hg]; exact Nat.ne_of_lt (blk_lt (g := gb268) (o := .cells #[.slice A0_0 l0_0.length c0_0, .slice (some ad274) l0_1.length c0_1] 25 (0, 0)) (by exact BK268.out)) : gb268 ≠ gb275)); have n6_ := Aside0.mk ((by rw [hg]; exact Nat.ne_of_gt (blk_lt (g := gb268) (o := .cells #[.slice A0_0 l0_0.length c0_0, .slice (some ad274) l0_1.length c0_1] 25 (0, 0)) (by exact BK268.out)) : gb275 ≠ gb268)); clear BK268; clear HB; have BK268 := n0_; have HB := n1_; have BK275 := n2_; have GW275 := n3_; have GE275 := n4_; have NB268_275 := n5_; have NB275_268 := n6_; clear n0_ n1_ n2_ n3_ n4_ n5_ n6_; clear hb hbox hg; have hnb24 := NB275_268.out; have hnc24 := NB268_275.out; have hcz25_0 : w23.cell? ⟨gb275, 0, none⟩ = some (.int .i64 0) := (blk_cell BK275.out 0).trans rfl; have hcz25_1 : w23.cell? ⟨gb275, 1, none⟩ = some (.slice none 0 0) := (blk_cell BK275.out 1).trans rfl; have hcz25_2 : w23.cell? ⟨gb275, 2, none⟩ = some (.slice none 0 0) := (blk_cell BK275.out 2).trans rfl; have hcz25_3 : w23.cell? ⟨gb275, 3, none⟩ = some (.slice none 0 0) := (blk_cell BK275.out 3).trans rfl; have hcz25_4 : w23.cell? ⟨gb275, 4, none⟩ = some (.int .i64 0) := (blk_cell BK275.out 4).trans rfl; have hcz25_5 : w23.cell? ⟨gb275, 5, none⟩ = some (.slice none 0 0) := (blk_cell BK275.out 5).trans rfl; have hfz25_0 := blk_frozen BK275.out 0; have hfz25_1 := blk_frozen BK275.out 1; have hfz25_2 := blk_frozen BK275.out 2; have hfz25_3 := blk_frozen BK275.out 3; have hfz25_4 := blk_frozen BK275.out 4; have hfz25_5 := blk_frozen BK275.out 5) | (go_at_call 16; (with_reducible refine (finite_keeps.calls ((rd_T44 l0_1 x42_2).f0) _ _ ((rd_T44 l0_1 x42_2).f1) _ _ ((rd_T44 l0_1 x42_2).f2) _ _ ((rd_T44 l0_1 x42_2).f3) ((rd_T44 l0_1 x42_2).f4) _ _ ((rd_T44 l0_1 x42_2).f5) _ _ l1 true _ ?side1 ?side2 ?side3 ?side4 ?side5 ?side6 ?side7 ?side8 ?side9 ?side10 A21.out).mono ?_); (case side1 => exact Kd.C_below HR274_1.out (by repeat ((with_reducible first | exact HB.out | refine below_set ?_ GE275.out)))); (case side2 => exact HC274_1.out); (case side3 => exact Kd.C_below HR274_2.out (by repeat ((with_reducible first | exact HB.out | refine below_set ?_ GE275.out)))); (case side4 => exact HC274_2.out); (case side5 => exact Kd.C_below HR274_3.out (by repeat ((with_reducible first | exact HB.out | refine below_set ?_ GE275.out)))); (case side6 => exact HC274_3.out); (case side7 => exact Kd.C_below HR274_5.out (by repeat ((with_reducible first | exact HB.out | refine below_set ?_ GE275.out)))); (case side8 => exact HC274_5.out); (case side9 => exact Kd.C_below HR1.out (by repeat ((with_reducible first | exact HB.out | refine below_set ?_ GE275.out)))); (case side10 => exact HC1.out); rintro e w26 ⟨rfl, hb⟩; have n0_ := Aside0.mk (blk_below (g := gb268) (o := .cells #[.slice A0_0 l0_0.length c0_0, .slice (some ad274) l0_1.length c0_1] 25 (0, 0)) (by refine blk_far ?_ NB268_275.out _; refine blk_far ?_ NB268_275.out _; refine blk_far ?_ NB268_275.out _; refine blk_far ?_ NB268_275.out _; refine blk_far ?_ NB268_275.out _; refine blk_far ?_ NB268_275.out _; exact BK268.out) hb); have n1_ := Aside0.mk (blk_below (g := gb275) (o := .cells #[.int .i64 ((rd_T44 l0_1 x42_2).f0), .slice A274_1 ((rd_T44 l0_1 x42_2).f1).length c274_1, .slice A274_2 ((rd_T44 l0_1 x42_2).f2).length c274_2, .slice A274_3 ((rd_T44 l0_1 x42_2).f3).length c274_3, .int .i64 ((rd_T44 l0_1 x42_2).f4), .slice A274_5 ((rd_T44 l0_1 x42_2).f5).length c274_5] 44 (0, 0)) (by refine blk_put (cs := #[.int .i64 ((rd_T44 l0_1 x42_2).f0), .slice A274_1 ((rd_T44 l0_1 x42_2).f1).length c274_1, .slice A274_2 ((rd_T44 l0_1 x42_2).f2).length c274_2, .slice A274_3 ((rd_T44 l0_1 x42_2).f3).length c274_3, .int .i64 ((rd_T44 l0_1 x42_2).f4), .slice none 0 0]) ?_ 5 _ rfl; refine blk_put (cs := #[.int .i64 ((rd_T44 l0_1 x42_2).f0), .slice A274_1 ((rd_T44 l0_1 x42_2).f1).length c274_1, .slice A274_2 ((rd_T44 l0_1 x42_2).f2).length c274_2, .slice A274_3 ((rd_T44 l0_1 x42_2).f3).length c274_3, .int .i64 0, .slice none 0 0]) ?_ 4 _ rfl; refine blk_put (cs := #[.int .i64 ((rd_T44 l0_1 x42_2).f0), .slice A274_1 ((rd_T44 l0_1 x42_2).f1).length c274_1, .slice A274_2 ((rd_T44 l0_1 x42_2).f2).length c274_2, .slice none 0 0, .int .i64 0, .slice none 0 0]) ?_ 3 _ rfl; refine blk_put (cs := #[.int .i64 ((rd_T44 l0_1 x42_2).f0), .slice A274_1 ((rd_T44 l0_1 x42_2).f1).length c274_1, .slice none 0 0, .slice none 0 0, .int .i64 0, .slice none 0 0]) ?_ 2 _ rfl; refine blk_put (cs := #[.int .i64 ((rd_T44 l0_1 x42_2).f0), .slice none 0 0, .slice none 0 0, .slice none 0 0, .int .i64 0, .slice none 0 0]) ?_ 1 _ rfl; refine blk_put (cs := #[.int .i64 0, .slice none 0 0, .slice none 0 0, .slice none 0 0, .int .i64 0, .slice none 0 0]) ?_ 0 _ rfl; exact BK275.out) hb); have n2_ := Aside0.mk (below_step (by repeat ((with_reducible first | exact HB.out | refine below_set ?_ GE275.out))) hb); clear BK268; clear BK275; clear HB; have BK268 := n0_; have BK275 := n1_; have HB := n2_; clear n0_ n1_ n2_; (try clear hb); (try clear hb2); (try clear hk); (try clear hi)))
       (try clear hSr)
       (try have hSr := Sent.ofB hS HB)
       repeat (go_quiet (fail); try go_wp2_with (fail))
       go_roundg k2
       case measure => have := HK1.out; have := HK2.out; omega
       case rel => exact ⟨(wrap64 (x42_2 + 1)), (by rfl), H', ⟨by have := HK1.out; have := HK2.out; omega⟩, ⟨by exact BK268.out⟩, ⟨by exact HB.out⟩⟩
      replace c22 := Bool.eq_false_iff.mpr c22
      subst c22
      have H1 : (some (false, none)) = some (r1, r2) := by rw [if_neg (show ¬ (false = true) by decide)] at H; exact H
      clear H
      have H := H1
      clear H1
      simp only [Option.some.injEq, Prod.mk.injEq] at H
      obtain ⟨rfl, rfl⟩ := H
      have p274 : 0 ≤ (x42_2 : Int) := of_decide_eq_true (by (with_reducible assumption))
      have q274 : x42_2 < (l0_1.length : Int) := of_decide_eq_true (by (with_reducible assumption))
      obtain ⟨ad274, A274_1, c274_1, A274_2, c274_2, A274_3, c274_3, A274_5, c274_5, e274, hx274_0, hx274_1, hx274_2, hx274_3, hx274_4, hx274_5, hl274_1, hi274_1, hl274_2, hi274_2, hl274_3, hi274_3, hl274_5, hi274_5⟩ := at_T44 HR0_1.out x42_2 p274 q274
      cases e274
      replace hx274_0 := (HB.out.cell (World.block_lt_of_cell? w _ hx274_0)).trans hx274_0
      replace hx274_1 := (HB.out.cell (World.block_lt_of_cell? w _ hx274_1)).trans hx274_1
      replace hx274_2 := (HB.out.cell (World.block_lt_of_cell? w _ hx274_2)).trans hx274_2
      replace hx274_3 := (HB.out.cell (World.block_lt_of_cell? w _ hx274_3)).trans hx274_3
      replace hx274_4 := (HB.out.cell (World.block_lt_of_cell? w _ hx274_4)).trans hx274_4
      replace hx274_5 := (HB.out.cell (World.block_lt_of_cell? w _ hx274_5)).trans hx274_5
      have HR274_1 := Aside0.mk hi274_1
      have HC274_1 := Aside0.mk hl274_1
      clear hi274_1 hl274_1
      have HR274_2 := Aside0.mk hi274_2
      have HC274_2 := Aside0.mk hl274_2
      clear hi274_2 hl274_2
      have HR274_3 := Aside0.mk hi274_3
      have HC274_3 := Aside0.mk hl274_3
      clear hi274_3 hl274_3
      have HR274_5 := Aside0.mk hi274_5
      have HC274_5 := Aside0.mk hl274_5
      clear hi274_5 hl274_5
      replace p274 := eq_true p274
      replace q274 := eq_true q274
      (try clear hSr)
      (try have hSr := Sent.ofB hS HB)
      go_wp2_with (first | ((with_reducible refine gate_dst (N := 10) rfl ?_); refine box_event ?hg (N := 10) ?hd (cs := #[.int .i64 0, .slice none 0 0, .slice none 0 0, .slice none 0 0, .int .i64 0, .slice none 0 0]) (t := 44) ?hr ?_; (case hd => rfl); (case hg => rfl); (case hr => (go_simp; done)); intro gb275 hg w27 hbox hb; have n0_ := Aside0.mk (blk_below (g := gb268) (o := .cells #[.slice A0_0 l0_0.length c0_0, .slice (some ad274) l0_1.length c0_1] 25 (0, 0)) (by exact BK268.out) hb); have n1_ := Aside0.mk (below_step (by exact HB.out) hb); have n2_ := Aside0.mk (hbox); have n3_ := Aside0.mk ((by rw [hg]; exact (below_size (by exact HB.out)) : w.heap.size ≤ gb275)); have n4_ := Aside0.mk ((by rw [hg]; exact (below_size (by exact HB.out)) : w.heap.size ≤ gb275)); have n5_ := Aside0.mk ((by rw [hg]; exact Nat.ne_of_lt (blk_lt (g := gb268) (o := .cells #[.slice A0_0 l0_0.length c0_0, .slice (some ad274) l0_1.length c0_1] 25 (0, 0)) (by exact BK268.out)) : gb268 ≠ gb275)); have n6_ := Aside0.mk ((by rw [hg]; exact Nat.ne_of_gt (blk_lt (g := gb268) (o := .cells #[.slice A0_0 l0_0.length c0_0, .slice (some ad274) l0_1.length c0_1] 25 (0, 0)) (by exact BK268.out)) : gb275 ≠ gb268)); clear BK268; clear HB; have BK268 := n0_; have HB := n1_; have BK275 := n2_; have GW275 := n3_; have GE275 := n4_; have NB268_275 := n5_; have NB275_268 := n6_; clear n0_ n1_ n2_ n3_ n4_ n5_ n6_; clear hb hbox hg; have hnb28 := NB275_268.out; have hnc28 := NB268_275.out; have hcz29_0 : w27.cell? ⟨gb275, 0, none⟩ = some (.int .i64 0) := (blk_cell BK275.out 0).trans rfl; have hcz29_1 : w27.cell? ⟨gb275, 1, none⟩ = some (.slice none 0 0) := (blk_cell BK275.out 1).trans rfl; have hcz29_2 : w27.cell? ⟨gb275, 2, none⟩ = some (.slice none 0 0) := (blk_cell BK275.out 2).trans rfl; have hcz29_3 : w27.cell? ⟨gb275, 3, none⟩ = some (.slice none 0 0) := (blk_cell BK275.out 3).trans rfl; have hcz29_4 : w27.cell? ⟨gb275, 4, none⟩ = some (.int .i64 0) := (blk_cell BK275.out 4).trans rfl; have hcz29_5 : w27.cell? ⟨gb275, 5, none⟩ = some (.slice none 0 0) := (blk_cell BK275.out 5).trans rfl; have hfz29_0 := blk_frozen BK275.out 0; have hfz29_1 := blk_frozen BK275.out 1; have hfz29_2 := blk_frozen BK275.out 2; have hfz29_3 := blk_frozen BK275.out 3; have hfz29_4 := blk_frozen BK275.out 4; have hfz29_5 := blk_frozen BK275.out 5) | (go_at_call 16; (with_reducible refine (finite_keeps.calls ((rd_T44 l0_1 x42_2).f0) _ _ ((rd_T44 l0_1 x42_2).f1) _ _ ((rd_T44 l0_1 x42_2).f2) _ _ ((rd_T44 l0_1 x42_2).f3) ((rd_T44 l0_1 x42_2).f4) _ _ ((rd_T44 l0_1 x42_2).f5) _ _ l1 false _ ?side1 ?side2 ?side3 ?side4 ?side5 ?side6 ?side7 ?side8 ?side9 ?side10 A21.out).mono ?_); (case side1 => exact Kd.C_below HR274_1.out (by repeat ((with_reducible first | exact HB.out | refine below_set ?_ GE275.out)))); (case side2 => exact HC274_1.out); (case side3 => exact Kd.C_below HR274_2.out (by repeat ((with_reducible first | exact HB.out | refine below_set ?_ GE275.out)))); (case side4 => exact HC274_2.out); (case side5 => exact Kd.C_below HR274_3.out (by repeat ((with_reducible first | exact HB.out | refine below_set ?_ GE275.out)))); (case side6 => exact HC274_3.out); (case side7 => exact Kd.C_below HR274_5.out (by repeat ((with_reducible first | exact HB.out | refine below_set ?_ GE275.out)))); (case side8 => exact HC274_5.out); (case side9 => exact Kd.C_below HR1.out (by repeat ((with_reducible first | exact HB.out | refine below_set ?_ GE275.out)))); (case side10 => exact HC1.out); rintro e w30 ⟨rfl, hb⟩; have n0_ := Aside0.mk (blk_below (g := gb268) (o := .cells #[.slice A0_0 l0_0.length c0_0, .slice (some ad274) l0_1.length c0_1] 25 (0, 0)) (by refine blk_far ?_ NB268_275.out _; refine blk_far ?_ NB268_275.out _; refine blk_far ?_ NB268_275.out _; refine blk_far ?_ NB268_275.out _; refine blk_far ?_ NB268_275.out _; refine blk_far ?_ NB268_275.out _; exact BK268.out) hb); have n1_ := Aside0.mk (blk_below (g := gb275) (o := .cells #[.int .i64 ((rd_T44 l0_1 x42_2).f0), .slice A274_1 ((rd_T44 l0_1 x42_2).f1).length c274_1, .slice A274_2 ((rd_T44 l0_1 x42_2).f2).length c274_2, .slice A274_3 ((rd_T44 l0_1 x42_2).f3).length c274_3, .int .i64 ((rd_T44 l0_1 x42_2).f4), .slice A274_5 ((rd_T44 l0_1 x42_2).f5).length c274_5] 44 (0, 0)) (by refine blk_put (cs := #[.int .i64 ((rd_T44 l0_1 x42_2).f0), .slice A274_1 ((rd_T44 l0_1 x42_2).f1).length c274_1, .slice A274_2 ((rd_T44 l0_1 x42_2).f2).length c274_2, .slice A274_3 ((rd_T44 l0_1 x42_2).f3).length c274_3, .int .i64 ((rd_T44 l0_1 x42_2).f4), .slice none 0 0]) ?_ 5 _ rfl; refine blk_put (cs := #[.int .i64 ((rd_T44 l0_1 x42_2).f0), .slice A274_1 ((rd_T44 l0_1 x42_2).f1).length c274_1, .slice A274_2 ((rd_T44 l0_1 x42_2).f2).length c274_2, .slice A274_3 ((rd_T44 l0_1 x42_2).f3).length c274_3, .int .i64 0, .slice none 0 0]) ?_ 4 _ rfl; refine blk_put (cs := #[.int .i64 ((rd_T44 l0_1 x42_2).f0), .slice A274_1 ((rd_T44 l0_1 x42_2).f1).length c274_1, .slice A274_2 ((rd_T44 l0_1 x42_2).f2).length c274_2, .slice none 0 0, .int .i64 0, .slice none 0 0]) ?_ 3 _ rfl; refine blk_put (cs := #[.int .i64 ((rd_T44 l0_1 x42_2).f0), .slice A274_1 ((rd_T44 l0_1 x42_2).f1).length c274_1, .slice none 0 0, .slice none 0 0, .int .i64 0, .slice none 0 0]) ?_ 2 _ rfl; refine blk_put (cs := #[.int .i64 ((rd_T44 l0_1 x42_2).f0), .slice none 0 0, .slice none 0 0, .slice none 0 0, .int .i64 0, .slice none 0 0]) ?_ 1 _ rfl; refine blk_put (cs := #[.int .i64 0, .slice none 0 0, .slice none 0 0, .slice none 0 0, .int .i64 0, .slice none 0 0]) ?_ 0 _ rfl; exact BK275.out) hb); have n2_ := Aside0.mk (below_step (by repeat ((with_reducible first | exact HB.out | refine below_set ?_ GE275.out))) hb); clear BK268; clear BK275; clear HB; have BK268 := n0_; have BK275 := n1_; have HB := n2_; clear n0_ n1_ n2_; (try clear hb); (try clear hb2); (try clear hk); (try clear hi)))
      (try clear hSr)
      (try have hSr := Sent.ofB hS HB)
      repeat (go_quiet (fail); try go_wp2_with (fail))
      go_ret2
      exact ⟨by rfl, by exact HB.out⟩
     rw [if_neg c20] at H
     exact absurd H (by simp)
    rw [if_neg c19] at H
    exact absurd H (by simp)
   rw [if_neg c18] at H
   have c18b0 : decide (x42_2 < (l0_1.length : Int)) = false := decide_eq_false c18
   clear c18
   simp only [Option.some.injEq, Prod.mk.injEq] at H
   obtain ⟨rfl, rfl⟩ := H
   (try clear hSr)
   (try have hSr := Sent.ofB hS HB)
   go_wp2
   (try clear hSr)
   (try have hSr := Sent.ofB hS HB)
   repeat (go_quiet (fail); try go_wp2)
   go_ret2
   exact ⟨by rfl, by exact HB.out⟩
  rw [if_neg c4] at H
  have c4b0 : ((l1.length : Int) == (l0_0.length : Int)) = false := beq_eq_false_iff_ne.mpr c4
  have c4b1 : ((l1.length : Int) != (l0_0.length : Int)) = true := bne_iff_ne.mpr c4
  have c4b2 : (l1.length == l0_0.length) = false := by (simp at c4 ⊢; omega)
  simp only [Option.some.injEq, Prod.mk.injEq] at H
  obtain ⟨rfl, rfl⟩ := H
  go_enter Tryd.func5, Tryd.ntmps5
  (try clear hSr)
  (try have hSr := Sent.ofB hS HB)
  go_wp2_with (first | ((with_reducible refine gate_dst (N := 2) rfl ?_); refine box_event ?hg (N := 2) ?hd (cs := #[.slice A0_0 l0_0.length c0_0, .slice A0_1 l0_1.length c0_1]) (t := 25) ?hr ?_; (case hd => rfl); (case hg => rfl); (case hr => (go_simp; done)); intro gb268 hg w31 hbox hb; have n0_ := Aside0.mk (below_step (by exact HB.out) hb); have n1_ := Aside0.mk (hbox); have n2_ := Aside0.mk ((by rw [hg]; exact (below_size (by exact HB.out)) : w.heap.size ≤ gb268)); have n3_ := Aside0.mk ((by rw [hg]; exact (below_size (by exact HB.out)) : w.heap.size ≤ gb268)); clear HB; have HB := n0_; have BK268 := n1_; have GW268 := n2_; have GE268 := n3_; clear n0_ n1_ n2_ n3_; clear hb hbox hg; have hcz32_0 : w31.cell? ⟨gb268, 0, none⟩ = some (.slice A0_0 l0_0.length c0_0) := (blk_cell BK268.out 0).trans rfl; have hcz32_1 : w31.cell? ⟨gb268, 1, none⟩ = some (.slice A0_1 l0_1.length c0_1) := (blk_cell BK268.out 1).trans rfl; have hfz32_0 := blk_frozen BK268.out 0; have hfz32_1 := blk_frozen BK268.out 1) | (go_at_call 9; (with_reducible refine (finite_Valid.calls k _ _ l0_0 _ _ l0_1 none _ ?side1 ?side2 ?side3 ?side4 A3.out).mono ?_); (case side1 => repeat (exact (Kd.C_below HR0_0.out HB.out))); (case side2 => exact HC0_0.out); (case side3 => repeat (exact (Kd.C_below HR0_1.out HB.out))); (case side4 => exact HC0_1.out); rintro e w33 ⟨rfl, hb⟩; have n0_ := Aside0.mk (blk_below (g := gb268) (o := .cells #[.slice A0_0 l0_0.length c0_0, .slice A0_1 l0_1.length c0_1] 25 (0, 0)) (by exact BK268.out) hb); have n1_ := Aside0.mk (below_step (by exact HB.out) hb); clear BK268; clear HB; have BK268 := n0_; have HB := n1_; clear n0_ n1_; (try clear hb); (try clear hb2); (try clear hk); (try clear hi); (try simp only [errW_none, errW_some]); have hcz34_0 : w33.cell? ⟨gb268, 0, none⟩ = some (.slice A0_0 l0_0.length c0_0) := (blk_cell BK268.out 0).trans rfl; have hcz34_1 : w33.cell? ⟨gb268, 1, none⟩ = some (.slice A0_1 l0_1.length c0_1) := (blk_cell BK268.out 1).trans rfl; have hfz34_0 := blk_frozen BK268.out 0; have hfz34_1 := blk_frozen BK268.out 1))
  (try clear hSr)
  (try have hSr := Sent.ofB hS HB)
  repeat (go_quiet (fail); try go_wp2_with (fail))
  go_ret2
  exact ⟨by rfl, by repeat ((with_reducible first | exact HB.out | apply pw_below_drewN))⟩
 have H1 : (some (false, some q270)) = some (r1, r2) := by rw [if_neg (show ¬ (some q270).isNone = true by simp)] at H; exact H
 clear H
 have H := H1
 clear H1
 try simp only [errW_none, errW_some]
 simp only [Option.some.injEq, Prod.mk.injEq] at H
 obtain ⟨rfl, rfl⟩ := H
 go_enter Tryd.func5, Tryd.ntmps5
 (try clear hSr)
 (try have hSr := Sent.ofB hS HB)
 go_wp2_with (first | ((with_reducible refine gate_dst (N := 2) rfl ?_); refine box_event ?hg (N := 2) ?hd (cs := #[.slice A0_0 l0_0.length c0_0, .slice A0_1 l0_1.length c0_1]) (t := 25) ?hr ?_; (case hd => rfl); (case hg => rfl); (case hr => (go_simp; done)); intro gb268 hg w35 hbox hb; have n0_ := Aside0.mk (below_step (by exact HB.out) hb); have n1_ := Aside0.mk (hbox); have n2_ := Aside0.mk ((by rw [hg]; exact (below_size (by exact HB.out)) : w.heap.size ≤ gb268)); have n3_ := Aside0.mk ((by rw [hg]; exact (below_size (by exact HB.out)) : w.heap.size ≤ gb268)); clear HB; have HB := n0_; have BK268 := n1_; have GW268 := n2_; have GE268 := n3_; clear n0_ n1_ n2_ n3_; clear hb hbox hg; have hcz36_0 : w35.cell? ⟨gb268, 0, none⟩ = some (.slice A0_0 l0_0.length c0_0) := (blk_cell BK268.out 0).trans rfl; have hcz36_1 : w35.cell? ⟨gb268, 1, none⟩ = some (.slice A0_1 l0_1.length c0_1) := (blk_cell BK268.out 1).trans rfl; have hfz36_0 := blk_frozen BK268.out 0; have hfz36_1 := blk_frozen BK268.out 1) | (go_at_call 9; (with_reducible refine (finite_Valid.calls k _ _ l0_0 _ _ l0_1 (some q270) _ ?side1 ?side2 ?side3 ?side4 A3.out).mono ?_); (case side1 => repeat (exact (Kd.C_below HR0_0.out HB.out))); (case side2 => exact HC0_0.out); (case side3 => repeat (exact (Kd.C_below HR0_1.out HB.out))); (case side4 => exact HC0_1.out); rintro e w37 ⟨rfl, hb⟩; have n0_ := Aside0.mk (blk_below (g := gb268) (o := .cells #[.slice A0_0 l0_0.length c0_0, .slice A0_1 l0_1.length c0_1] 25 (0, 0)) (by exact BK268.out) hb); have n1_ := Aside0.mk (below_step (by exact HB.out) hb); clear BK268; clear HB; have BK268 := n0_; have HB := n1_; clear n0_ n1_; (try clear hb); (try clear hb2); (try clear hk); (try clear hi); (try simp only [errW_none, errW_some])))
 (try clear hSr)
 (try have hSr := Sent.ofB hS HB)
 repeat (go_quiet (fail); try go_wp2_with (fail))
 go_ret2
 exact ⟨by rfl, by exact HB.out⟩

end Go.Proofs.YtehekppkicjimaaDoor.QFK
