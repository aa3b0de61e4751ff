-- written by a program of mine (wip/tools/print2.py), which turns the kit's printer a little
import Derived.Test.YtehekppkicjimaaDoorSQFKx0
import Derived.Test.YtehekppkicjimaaDoorSErr
namespace Go.Proofs.YtehekppkicjimaaDoor.QFK
open Go.RowKit Go.Proofs.YtehekppkicjimaaDoorW.PrintWords Go.Proofs.YtehekppkicjimaaDoorW.PrintLast Go.Proofs.YtehekppkicjimaaDoorW.PrintMore
attribute [local go_sem] max2_int min2_int max_two min_two max_three min_three max_four min_four
set_option linter.unusedVariables false
set_option linter.unusedSimpArgs false

attribute [local go_sem] Sent.alloc Sent.drew Sent.drewN Sent.c0 Sent.c1
/-! ### optimalaw3_fewPuzzle: function 7 -/
mutual
def optimalaw3_fewPuzzle.j0 : Nat → Bool → List (List Int) → List (S44) → Option (Bool)
 | 0, _, _, _ => none
 | k + 1, x17, x297000, x297001 => if x17 = true then (some false) else (optimalaw3_fewPuzzle.l0 k 1 0 x297000 x297001)
def optimalaw3_fewPuzzle.l0 : Nat → Int → Int → List (List Int) → List (S44) → Option (Bool)
 | 0, _, _, _, _ => none
 | k + 1, x3, x4, x297000, x297001 => if x4 < (x297000.length : Int) then (if 0 ≤ x4 then (if ((rd_L1 x297000 x4).length : Int) > 12 then (some false) else (optimalaw3_fewPuzzle.l0 k (wrap64 (x3 * (wrap64 (1 + ((rd_L1 x297000 x4).length : Int))))) (wrap64 (x4 + 1)) x297000 x297001)) else (none)) else (optimalaw3_fewPuzzle.l1 k x3 0 x297000 x297001)
def optimalaw3_fewPuzzle.l1 : Nat → Int → Int → List (List Int) → List (S44) → Option (Bool)
 | 0, _, _, _, _ => none
 | k + 1, x3, x5, x297000, x297001 => if x5 < (x297001.length : Int) then (if 0 ≤ x5 then (if (((rd_T44 x297001 x5).f1).length : Int) > 8 then (optimalaw3_fewPuzzle.j3 k x3 x5 true x297000 x297001 ((rd_T44 x297001 x5).f0) ((rd_T44 x297001 x5).f1) ((rd_T44 x297001 x5).f2) ((rd_T44 x297001 x5).f3) ((rd_T44 x297001 x5).f4) ((rd_T44 x297001 x5).f5)) else (if (((rd_T44 x297001 x5).f2).length : Int) > 8 then (optimalaw3_fewPuzzle.j3 k x3 x5 true x297000 x297001 ((rd_T44 x297001 x5).f0) ((rd_T44 x297001 x5).f1) ((rd_T44 x297001 x5).f2) ((rd_T44 x297001 x5).f3) ((rd_T44 x297001 x5).f4) ((rd_T44 x297001 x5).f5)) else (if (((rd_T44 x297001 x5).f3).length : Int) > 8 then (optimalaw3_fewPuzzle.j3 k x3 x5 true x297000 x297001 ((rd_T44 x297001 x5).f0) ((rd_T44 x297001 x5).f1) ((rd_T44 x297001 x5).f2) ((rd_T44 x297001 x5).f3) ((rd_T44 x297001 x5).f4) ((rd_T44 x297001 x5).f5)) else (optimalaw3_fewPuzzle.j3 k x3 x5 (decide ((((rd_T44 x297001 x5).f5).length : Int) > 12)) x297000 x297001 ((rd_T44 x297001 x5).f0) ((rd_T44 x297001 x5).f1) ((rd_T44 x297001 x5).f2) ((rd_T44 x297001 x5).f3) ((rd_T44 x297001 x5).f4) ((rd_T44 x297001 x5).f5))))) else (none)) else (some (decide (x3 < 40000)))
def optimalaw3_fewPuzzle.j3 : Nat → Int → Int → Bool → List (List Int) → List (S44) → Int → List Int → List Int → List Int → Int → List (List Int) → Option (Bool)
 | 0, _, _, _, _, _, _, _, _, _, _, _ => none
 | k + 1, x3, x5, x74, x297000, x297001, x301000, x301001, x301002, x301003, x301004, x301005 => if x74 = true then (some false) else (optimalaw3_fewPuzzle.l2 k x3 x5 0 x297000 x297001 x301000 x301001 x301002 x301003 x301004 x301005)
def optimalaw3_fewPuzzle.l2 : Nat → Int → Int → Int → List (List Int) → List (S44) → Int → List Int → List Int → List Int → Int → List (List Int) → Option (Bool)
 | 0, _, _, _, _, _, _, _, _, _, _, _ => none
 | k + 1, x3, x5, x7, x297000, x297001, x301000, x301001, x301002, x301003, x301004, x301005 => if x7 < (x301005.length : Int) then (if 0 ≤ x7 then (if ((rd_L1 x301005 x7).length : Int) > 8 then (some false) else (optimalaw3_fewPuzzle.l2 k x3 x5 (wrap64 (x7 + 1)) x297000 x297001 x301000 x301001 x301002 x301003 x301004 x301005)) else (none)) else (optimalaw3_fewPuzzle.l1 k x3 (wrap64 (x5 + 1)) x297000 x297001)
end
def optimalaw3_fewPuzzle.f (k : Nat) (l0_0 : List (List Int)) (l0_1 : List (S44)) : Option (Bool) := if (l0_0.length : Int) > 6 then (optimalaw3_fewPuzzle.j0 k true l0_0 l0_1) else (optimalaw3_fewPuzzle.j0 k (decide ((l0_1.length : Int) > 8)) l0_0 l0_1)
theorem optimalaw3_fewPuzzle.mono_l : ∀ k, (∀ y0 y1 y2, LeO (optimalaw3_fewPuzzle.j0 k y0 y1 y2) (optimalaw3_fewPuzzle.j0 (k + 1) y0 y1 y2)) ∧ (∀ y0 y1 y2 y3, LeO (optimalaw3_fewPuzzle.l0 k y0 y1 y2 y3) (optimalaw3_fewPuzzle.l0 (k + 1) y0 y1 y2 y3)) ∧ (∀ y0 y1 y2 y3, LeO (optimalaw3_fewPuzzle.l1 k y0 y1 y2 y3) (optimalaw3_fewPuzzle.l1 (k + 1) y0 y1 y2 y3)) ∧ (∀ y0 y1 y2 y3 y4 y5 y6 y7 y8 y9 y10, LeO (optimalaw3_fewPuzzle.j3 k y0 y1 y2 y3 y4 y5 y6 y7 y8 y9 y10) (optimalaw3_fewPuzzle.j3 (k + 1) y0 y1 y2 y3 y4 y5 y6 y7 y8 y9 y10)) ∧ (∀ y0 y1 y2 y3 y4 y5 y6 y7 y8 y9 y10, LeO (optimalaw3_fewPuzzle.l2 k y0 y1 y2 y3 y4 y5 y6 y7 y8 y9 y10) (optimalaw3_fewPuzzle.l2 (k + 1) y0 y1 y2 y3 y4 y5 y6 y7 y8 y9 y10))
 | 0 => ⟨fun _ _ _ r h => by simp [optimalaw3_fewPuzzle.j0] at h, fun _ _ _ _ r h => by simp [optimalaw3_fewPuzzle.l0] at h, fun _ _ _ _ r h => by simp [optimalaw3_fewPuzzle.l1] at h, fun _ _ _ _ _ _ _ _ _ _ _ r h => by simp [optimalaw3_fewPuzzle.j3] at h, fun _ _ _ _ _ _ _ _ _ _ _ r h => by simp [optimalaw3_fewPuzzle.l2] at h⟩
 | k + 1 => by
  obtain ⟨ih0, ih1, ih2, ih3, ih4⟩ := optimalaw3_fewPuzzle.mono_l k
  refine ⟨?_, ?_, ?_, ?_, ?_⟩
  ·intro y0 y1 y2
   unfold optimalaw3_fewPuzzle.j0
   repeat' first | (with_reducible exact ih1 _ _ _ _) | (with_reducible exact LeO.refl _) | (with_reducible refine LeO.ite ?_ ?_)
  ·intro y0 y1 y2 y3
   unfold optimalaw3_fewPuzzle.l0
   repeat' first | (with_reducible exact ih1 _ _ _ _) | (with_reducible exact ih2 _ _ _ _) | (with_reducible exact LeO.refl _) | (with_reducible refine LeO.ite ?_ ?_)
  ·intro y0 y1 y2 y3
   unfold optimalaw3_fewPuzzle.l1
   repeat' first | (with_reducible exact ih3 _ _ _ _ _ _ _ _ _ _ _) | (with_reducible exact LeO.refl _) | (with_reducible refine LeO.ite ?_ ?_)
  ·intro y0 y1 y2 y3 y4 y5 y6 y7 y8 y9 y10
   unfold optimalaw3_fewPuzzle.j3
   repeat' first | (with_reducible exact ih4 _ _ _ _ _ _ _ _ _ _ _) | (with_reducible exact LeO.refl _) | (with_reducible refine LeO.ite ?_ ?_)
  intro y0 y1 y2 y3 y4 y5 y6 y7 y8 y9 y10
  unfold optimalaw3_fewPuzzle.l2
  repeat' first | (with_reducible exact ih2 _ _ _ _) | (with_reducible exact ih4 _ _ _ _ _ _ _ _ _ _ _) | (with_reducible exact LeO.refl _) | (with_reducible refine LeO.ite ?_ ?_)
theorem optimalaw3_fewPuzzle.mono : ∀ a0 a1 k, LeO (optimalaw3_fewPuzzle.f k a0 a1) (optimalaw3_fewPuzzle.f (k + 1) a0 a1) := by
 intro a0 a1 k
 obtain ⟨ih0, ih1, ih2, ih3, ih4⟩ := optimalaw3_fewPuzzle.mono_l k
 unfold optimalaw3_fewPuzzle.f
 repeat' first | (with_reducible exact ih0 _ _ _) | (with_reducible refine LeO.ite ?_ ?_)
set_option maxHeartbeats 8000000 in
set_option maxRecDepth 100000 in
theorem optimalaw3_fewPuzzle.calls (k : Nat) (A0_0 : Option Addr) (c0_0 : Nat) (l0_0 : List (List Int)) (A0_1 : Option Addr) (c0_1 : Nat) (l0_1 : List (S44)) (r : Bool) (w : World) (hr0_0 : Kd.C (Kd.slice 3 (Kd.int .i64)) w A0_0 l0_0.length l0_0) (hc0_0 : l0_0.length ≤ c0_0) (hr0_1 : Kd.C k44 w A0_1 l0_1.length l0_1) (hc0_1 : l0_1.length ≤ c0_1) (h : optimalaw3_fewPuzzle.f k l0_0 l0_1 = some r) :
 Calls Tryd.prog 7 #[.agg #[.slice A0_0 l0_0.length c0_0, .slice A0_1 l0_1.length c0_1]] w fun e w' => e = .returned (.bool r) ∧ Below w.heap.size w w' := by
 have hu25 := Tryd.underlying25
 have hu44 := Tryd.underlying44
 have HR0_0 := Aside0.mk hr0_0
 have HC0_0 := Aside0.mk hc0_0
 clear hr0_0 hc0_0
 have HR0_1 := Aside0.mk hr0_1
 have HC0_1 := Aside0.mk hc0_1
 clear hr0_1 hc0_1
 have HB := Aside0.mk (Below.refl w.heap.size w)
 have H : (if (l0_0.length : Int) > 6 then (optimalaw3_fewPuzzle.j0 k true l0_0 l0_1) else (optimalaw3_fewPuzzle.j0 k (decide ((l0_1.length : Int) > 8)) l0_0 l0_1)) = some r := h
 clear h
 have HC2 := Aside0.mk H
 clear H
 go_enter Tryd.func7, Tryd.ntmps7
 go_upto_region 1 with (((with_reducible refine gate_dst (N := 1) rfl ?_); (try (refine gate_guard (by rfl) ?_; dsimp only)); refine box_event ?hg (N := 1) ?hd (cs := #[.slice A0_0 l0_0.length c0_0, .slice A0_1 l0_1.length c0_1]) (t := 25) ?hr ?_; (case hd => rfl); (case hg => rfl); (case hr => (go_simp; done)); intro gb296 hg w3 hbox hb; have n0_ := Aside0.mk (below_step (by exact HB.out) hb); have n1_ := Aside0.mk (hbox); have n2_ := Aside0.mk ((by rw [hg]; exact (below_size (by exact HB.out)) : w.heap.size ≤ gb296)); have n3_ := Aside0.mk ((by rw [hg]; exact (below_size (by exact HB.out)) : w.heap.size ≤ gb296)); clear HB; have HB := n0_; have BK296 := n1_; have GW296 := n2_; have GE296 := n3_; clear n0_ n1_ n2_ n3_; clear hb hbox hg))
 (try simp only [Act.put, List.setIfInBounds_toArray, List.set_cons_zero, List.set_cons_succ])
 go_cut [17] (fun v17 wc => ∃ (kq : Nat) (x17_1 : Bool), v17 = .bool x17_1 ∧ Aside0 (optimalaw3_fewPuzzle.j0 kq x17_1 l0_0 l0_1 = some r) ∧ Aside0 (kq ≤ k) ∧ Aside0 (wc.heap[gb296]? = some (.cells #[(.slice A0_0 l0_0.length c0_0), (.slice A0_1 l0_1.length c0_1)] 25 (0, 0))) ∧ Aside0 (Below w.heap.size w wc))
 case first =>
  have H := HC2.out
  clear HC2
  by_cases c4 : (l0_0.length : Int) > 6
  ·rw [if_pos c4] at H
   have c4b0 : decide (6 < (l0_0.length : Int)) = true := decide_eq_true c4
   have c4b1 : decide (6 < l0_0.length) = true := decide_eq_true (by omega)
   clear c4
   (skip)
   have H' := Aside0.mk H
   clear H
   have hcz5_0 : w3.cell? ⟨gb296, 0, none⟩ = some (.slice A0_0 l0_0.length c0_0) := (blk_cell BK296.out 0).trans rfl
   have hcz5_1 : w3.cell? ⟨gb296, 1, none⟩ = some (.slice A0_1 l0_1.length c0_1) := (blk_cell BK296.out 1).trans rfl
   have hfz5_0 := blk_frozen BK296.out 0
   have hfz5_1 := blk_frozen BK296.out 1
   go_wp2
   go_meet
   case rel => exact ⟨_, (true), (by rfl), H', ⟨by omega⟩, ⟨by exact BK296.out⟩, ⟨by exact HB.out⟩⟩
  rw [if_neg c4] at H
  have c4b0 : decide (6 < (l0_0.length : Int)) = false := decide_eq_false c4
  have c4b1 : decide (6 < l0_0.length) = false := decide_eq_false (by omega)
  clear c4
  (skip)
  have H' := Aside0.mk H
  clear H
  have hcz6_0 : w3.cell? ⟨gb296, 0, none⟩ = some (.slice A0_0 l0_0.length c0_0) := (blk_cell BK296.out 0).trans rfl
  have hcz6_1 : w3.cell? ⟨gb296, 1, none⟩ = some (.slice A0_1 l0_1.length c0_1) := (blk_cell BK296.out 1).trans rfl
  have hfz6_0 := blk_frozen BK296.out 0
  have hfz6_1 := blk_frozen BK296.out 1
  go_wp2
  go_meet
  case rel => exact ⟨_, (decide ((l0_1.length : Int) > 8)), (by rfl), H', ⟨by omega⟩, ⟨by exact BK296.out⟩, ⟨by exact HB.out⟩⟩
 clear HC2
 try clear p2
 try clear c4
 try clear c4b0
 try clear c4b1
 try clear hcz5_0
 try clear hcz5_1
 try clear hcz6_0
 try clear hcz6_1
 try clear hfz5_0
 try clear hfz5_1
 try clear hfz6_0
 try clear hfz6_1
 obtain ⟨kq, x17_1, rfl, HA, HJ1, BK296, HB⟩ := hcut
 rcases kq with _ | kj1
 ·exact absurd HA.out (by simp [optimalaw3_fewPuzzle.j0])
 have H := HA.out
 clear HA
 simp only [optimalaw3_fewPuzzle.j0] at H
 by_cases c7 : x17_1 = true
 ·subst c7
  have H1 : (some false) = some r := by rw [if_pos rfl] at H; exact H
  clear H
  have H := H1
  clear H1
  obtain rfl := Option.some.inj H
  go_wp2
  go_ret
  exact ⟨by rfl, by exact HB.out⟩
 replace c7 := Bool.eq_false_iff.mpr c7
 subst c7
 have H1 : (optimalaw3_fewPuzzle.l0 kj1 1 0 l0_0 l0_1) = some r := by rw [if_neg (show ¬ (false = true) by decide)] at H; exact H
 clear H
 have H := H1
 clear H1
 have H' := Aside0.mk H
 clear H
 go_wp2
 go_loopg [3, 4] kj1 (fun kq v3 v4 w' => ∃ (x3_2 : Int) (x4_2 : Int), v3 = .int .i64 x3_2 ∧ v4 = .int .i64 x4_2 ∧ Aside0 (optimalaw3_fewPuzzle.l0 kq x3_2 x4_2 l0_0 l0_1 = some r) ∧ Aside0 (kq ≤ kj1) ∧ Aside0 (w'.heap[gb296]? = some (.cells #[(.slice A0_0 l0_0.length c0_0), (.slice A0_1 l0_1.length c0_1)] 25 (0, 0))) ∧ Aside0 (Below w.heap.size w w'))
 case atStart => exact ⟨(1), (0), (by rfl), (by rfl), H', ⟨Nat.le_refl _⟩, ⟨by exact BK296.out⟩, ⟨by exact HB.out⟩⟩
 clear H'
 try clear p2
 try clear c4
 try clear c4b0
 try clear c4b1
 try clear c7
 try clear hcz5_0
 try clear hcz5_1
 try clear hcz6_0
 try clear hcz6_1
 try clear hfz5_0
 try clear hfz5_1
 try clear hfz6_0
 try clear hfz6_1
 try clear p2
 obtain ⟨x3_2, x4_2, rfl, rfl, HA, HK2, BK296, HB⟩ := hrel
 rcases gk with _ | k2
 ·exact absurd HA.out (by simp [optimalaw3_fewPuzzle.l0])
 have H := HA.out
 clear HA
 simp only [optimalaw3_fewPuzzle.l0] at H
 by_cases c8 : x4_2 < (l0_0.length : Int)
 ·rw [if_pos c8] at H
  have c8b0 : decide (x4_2 < (l0_0.length : Int)) = true := decide_eq_true c8
  clear c8
  by_cases c9 : 0 ≤ x4_2
  ·rw [if_pos c9] at H
   have c9b0 : decide (0 ≤ x4_2) = true := decide_eq_true c9
   clear c9
   by_cases c10 : ((rd_L1 l0_0 x4_2).length : Int) > 12
   ·rw [if_pos c10] at H
    have c10b0 : decide (12 < ((rd_L1 l0_0 x4_2).length : Int)) = true := decide_eq_true c10
    have c10b1 : decide (12 < (rd_L1 l0_0 x4_2).length) = true := decide_eq_true (by omega)
    clear c10
    obtain rfl := Option.some.inj H
    have hcz11_0 : wr.cell? ⟨gb296, 0, none⟩ = some (.slice A0_0 l0_0.length c0_0) := (blk_cell BK296.out 0).trans rfl
    have hcz11_1 : wr.cell? ⟨gb296, 1, none⟩ = some (.slice A0_1 l0_1.length c0_1) := (blk_cell BK296.out 1).trans rfl
    have hfz11_0 := blk_frozen BK296.out 0
    have hfz11_1 := blk_frozen BK296.out 1
    have p297 : 0 ≤ (x4_2 : Int) := of_decide_eq_true (by (with_reducible assumption))
    have q297 : x4_2 < (l0_0.length : Int) := of_decide_eq_true (by (with_reducible assumption))
    obtain ⟨ad297, A297_0, c297_0, e297, hx297_0, hl297_0, hi297_0⟩ := at_L1 HR0_0.out x4_2 p297 q297
    cases e297
    replace hx297_0 := (HB.out.cell (World.block_lt_of_cell? w _ hx297_0)).trans hx297_0
    have HR297_0 := Aside0.mk hi297_0
    have HC297_0 := Aside0.mk hl297_0
    clear hi297_0 hl297_0
    replace p297 := eq_true p297
    replace q297 := eq_true q297
    go_wp2
    go_ret
    exact ⟨by rfl, by exact HB.out⟩
   rw [if_neg c10] at H
   have c10b0 : decide (12 < ((rd_L1 l0_0 x4_2).length : Int)) = false := decide_eq_false c10
   have c10b1 : decide (12 < (rd_L1 l0_0 x4_2).length) = false := decide_eq_false (by omega)
   clear c10
   have H' := Aside0.mk H
   clear H
   have hcz12_0 : wr.cell? ⟨gb296, 0, none⟩ = some (.slice A0_0 l0_0.length c0_0) := (blk_cell BK296.out 0).trans rfl
   have hcz12_1 : wr.cell? ⟨gb296, 1, none⟩ = some (.slice A0_1 l0_1.length c0_1) := (blk_cell BK296.out 1).trans rfl
   have hfz12_0 := blk_frozen BK296.out 0
   have hfz12_1 := blk_frozen BK296.out 1
   have p297 : 0 ≤ (x4_2 : Int) := of_decide_eq_true (by (with_reducible assumption))
   have q297 : x4_2 < (l0_0.length : Int) := of_decide_eq_true (by (with_reducible assumption))
   obtain ⟨ad297, A297_0, c297_0, e297, hx297_0, hl297_0, hi297_0⟩ := at_L1 HR0_0.out x4_2 p297 q297
   cases e297
   replace hx297_0 := (HB.out.cell (World.block_lt_of_cell? w _ hx297_0)).trans hx297_0
   have HR297_0 := Aside0.mk hi297_0
   have HC297_0 := Aside0.mk hl297_0
   clear hi297_0 hl297_0
   replace p297 := eq_true p297
   replace q297 := eq_true q297
   have p298 : 0 ≤ (x4_2 : Int) := of_decide_eq_true (by (with_reducible assumption))
   have q298 : x4_2 < (l0_0.length : Int) := of_decide_eq_true (by (with_reducible assumption))
   obtain ⟨ad298, A298_0, c298_0, e298, hx298_0, hl298_0, hi298_0⟩ := at_L1 HR0_0.out x4_2 p298 q298
   obtain rfl : ad297 = ad298 := (by injection e298)
   replace hx298_0 := (HB.out.cell (World.block_lt_of_cell? w _ hx298_0)).trans hx298_0
   have HR298_0 := Aside0.mk hi298_0
   have HC298_0 := Aside0.mk hl298_0
   clear hi298_0 hl298_0
   replace p298 := eq_true p298
   replace q298 := eq_true q298
   have ea_ := Option.some.inj (hx297_0.symm.trans hx298_0)
   injection ea_ with ea_ en_ ec_
   subst ea_
   subst ec_
   clear en_
   go_wp2
   go_roundg k2
   case measure => have := HJ1.out; have := HK2.out; omega
   case rel => exact ⟨(wrap64 (x3_2 * (wrap64 (1 + ((rd_L1 l0_0 x4_2).length : Int))))), (wrap64 (x4_2 + 1)), (by rfl), (by rfl), H', ⟨by have := HJ1.out; have := HK2.out; omega⟩, ⟨by exact BK296.out⟩, ⟨by exact HB.out⟩⟩
  rw [if_neg c9] at H
  exact absurd H (by simp)
 rw [if_neg c8] at H
 have c8b0 : decide (x4_2 < (l0_0.length : Int)) = false := decide_eq_false c8
 clear c8
 have H' := Aside0.mk H
 clear H
 have hcz13_0 : wr.cell? ⟨gb296, 0, none⟩ = some (.slice A0_0 l0_0.length c0_0) := (blk_cell BK296.out 0).trans rfl
 have hcz13_1 : wr.cell? ⟨gb296, 1, none⟩ = some (.slice A0_1 l0_1.length c0_1) := (blk_cell BK296.out 1).trans rfl
 have hfz13_0 := blk_frozen BK296.out 0
 have hfz13_1 := blk_frozen BK296.out 1
 go_wp2
 go_loopg [5] k2 (fun kq v5 w' => ∃ (x5_3 : Int), v5 = .int .i64 x5_3 ∧ Aside0 (optimalaw3_fewPuzzle.l1 kq x3_2 x5_3 l0_0 l0_1 = some r) ∧ Aside0 (kq ≤ k2) ∧ Aside0 (w'.heap[gb296]? = some (.cells #[(.slice A0_0 l0_0.length c0_0), (.slice A0_1 l0_1.length c0_1)] 25 (0, 0))) ∧ Aside0 (Below w.heap.size w w'))
 case atStart => exact ⟨(0), (by rfl), H', ⟨Nat.le_refl _⟩, ⟨by exact BK296.out⟩, ⟨by exact HB.out⟩⟩
 clear H'
 try clear c1
 try clear c2
 try clear p2
 try clear q2
 try clear hx2
 try clear c4
 try clear c4b0
 try clear c4b1
 try clear p6
 try clear c7
 try clear c8
 try clear c8b0
 try clear c9
 try clear c9b0
 try clear c10
 try clear c10b0
 try clear c10b1
 try clear hcz11_0
 try clear hcz11_1
 try clear hcz12_0
 try clear hcz12_1
 try clear hcz13_0
 try clear hcz13_1
 try clear hcz5_0
 try clear hcz5_1
 try clear hcz6_0
 try clear hcz6_1
 try clear hfz11_0
 try clear hfz11_1
 try clear hfz12_0
 try clear hfz12_1
 try clear hfz13_0
 try clear hfz13_1
 try clear hfz5_0
 try clear hfz5_1
 try clear hfz6_0
 try clear hfz6_1
 try clear hx297_0
 try clear hx298_0
 try clear p2
 try clear p297
 try clear p298
 try clear q297
 try clear q298
 obtain ⟨x5_3, rfl, HA, HK3, BK296, HB⟩ := hrel
 rcases gk with _ | k3
 ·exact absurd HA.out (by simp [optimalaw3_fewPuzzle.l1])
 have H := HA.out
 clear HA
 simp only [optimalaw3_fewPuzzle.l1] at H
 by_cases c14 : x5_3 < (l0_1.length : Int)
 ·rw [if_pos c14] at H
  have c14b0 : decide (x5_3 < (l0_1.length : Int)) = true := decide_eq_true c14
  clear c14
  by_cases c15 : 0 ≤ x5_3
  ·rw [if_pos c15] at H
   have c15b0 : decide (0 ≤ x5_3) = true := decide_eq_true c15
   clear c15
   have HC16 := Aside0.mk H
   clear H
   have hcz17_0 : wr.cell? ⟨gb296, 0, none⟩ = some (.slice A0_0 l0_0.length c0_0) := (blk_cell BK296.out 0).trans rfl
   have hcz17_1 : wr.cell? ⟨gb296, 1, none⟩ = some (.slice A0_1 l0_1.length c0_1) := (blk_cell BK296.out 1).trans rfl
   have hfz17_0 := blk_frozen BK296.out 0
   have hfz17_1 := blk_frozen BK296.out 1
   have p299 : 0 ≤ (x5_3 : Int) := of_decide_eq_true (by (with_reducible assumption))
   have q299 : x5_3 < (l0_1.length : Int) := of_decide_eq_true (by (with_reducible assumption))
   obtain ⟨ad299, A299_1, c299_1, A299_2, c299_2, A299_3, c299_3, A299_5, c299_5, e299, hx299_0, hx299_1, hx299_2, hx299_3, hx299_4, hx299_5, hl299_1, hi299_1, hl299_2, hi299_2, hl299_3, hi299_3, hl299_5, hi299_5⟩ := at_T44 HR0_1.out x5_3 p299 q299
   cases e299
   replace hx299_0 := (HB.out.cell (World.block_lt_of_cell? w _ hx299_0)).trans hx299_0
   replace hx299_1 := (HB.out.cell (World.block_lt_of_cell? w _ hx299_1)).trans hx299_1
   replace hx299_2 := (HB.out.cell (World.block_lt_of_cell? w _ hx299_2)).trans hx299_2
   replace hx299_3 := (HB.out.cell (World.block_lt_of_cell? w _ hx299_3)).trans hx299_3
   replace hx299_4 := (HB.out.cell (World.block_lt_of_cell? w _ hx299_4)).trans hx299_4
   replace hx299_5 := (HB.out.cell (World.block_lt_of_cell? w _ hx299_5)).trans hx299_5
   have HR299_1 := Aside0.mk hi299_1
   have HC299_1 := Aside0.mk hl299_1
   clear hi299_1 hl299_1
   have HR299_2 := Aside0.mk hi299_2
   have HC299_2 := Aside0.mk hl299_2
   clear hi299_2 hl299_2
   have HR299_3 := Aside0.mk hi299_3
   have HC299_3 := Aside0.mk hl299_3
   clear hi299_3 hl299_3
   have HR299_5 := Aside0.mk hi299_5
   have HC299_5 := Aside0.mk hl299_5
   clear hi299_5 hl299_5
   replace p299 := eq_true p299
   replace q299 := eq_true q299
   go_upto_region 14 with (((with_reducible refine gate_dst (N := 6) rfl ?_); (try (refine gate_guard (by rfl) ?_; dsimp only)); refine box_event ?hg (N := 6) ?hd (cs := #[.int .i64 0, .slice none 0 0, .slice none 0 0, .slice none 0 0, .int .i64 0, .slice none 0 0]) (t := 44) ?hr ?_; (case hd => rfl); (case hg => rfl); (case hr => (go_simp; done)); intro gb300 hg w18 hbox hb; have n0_ := Aside0.mk (blk_below (g := gb296) (o := .cells #[.slice A0_0 l0_0.length c0_0, .slice (some ad299) l0_1.length c0_1] 25 (0, 0)) (by exact BK296.out) hb); have n1_ := Aside0.mk (below_step (by exact HB.out) hb); have n2_ := Aside0.mk (hbox); have n3_ := Aside0.mk ((by rw [hg]; exact (below_size (by exact HB.out)) : w.heap.size ≤ gb300)); have n4_ := Aside0.mk ((by rw [hg]; exact (below_size (by exact HB.out)) : w.heap.size ≤ gb300)); have n5_ := Aside0.mk ((by rw [hg]; exact Nat.ne_of_lt (blk_lt (g := gb296) (o := .cells #[.slice A0_0 l0_0.length c0_0, .slice (some ad299) l0_1.length c0_1] 25 (0, 0)) (by exact BK296.out)) : gb296 ≠ gb300)); have n6_ := Aside0.mk ((by rw [hg]; exact Nat.ne_of_gt (blk_lt (g := gb296) (o := .cells #[.slice A0_0 l0_0.length c0_0, .slice (some ad299) l0_1.length c0_1] 25 (0, 0)) (by exact BK296.out)) : gb300 ≠ gb296)); clear BK296; clear HB; have BK296 := n0_; have HB := n1_; have BK300 := n2_; have GW300 := n3_; have GE300 := n4_; have NB296_300 := n5_; have NB300_296 := n6_; clear n0_ n1_ n2_ n3_ n4_ n5_ n6_; clear hb hbox hg; have hnb19 := NB300_296.out; have hnc19 := NB296_300.out; have hcz20_0 : w18.cell? ⟨gb300, 0, none⟩ = some (.int .i64 0) := (blk_cell BK300.out 0).trans rfl; have hcz20_1 : w18.cell? ⟨gb300, 1, none⟩ = some (.slice none 0 0) := (blk_cell BK300.out 1).trans rfl; have hcz20_2 : w18.cell? ⟨gb300, 2, none⟩ = some (.slice none 0 0) := (blk_cell BK300.out 2).trans rfl; have hcz20_3 : w18.cell? ⟨gb300, 3, none⟩ = some (.slice none 0 0) := (blk_cell BK300.out 3).trans rfl; have hcz20_4 : w18.cell? ⟨gb300, 4, none⟩ = some (.int .i64 0) := (blk_cell BK300.out 4).trans rfl; have hcz20_5 : w18.cell? ⟨gb300, 5, none⟩ = some (.slice none 0 0) := (blk_cell BK300.out 5).trans rfl; have hfz20_0 := blk_frozen BK300.out 0; have hfz20_1 := blk_frozen BK300.out 1; have hfz20_2 := blk_frozen BK300.out 2; have hfz20_3 := blk_frozen BK300.out 3; have hfz20_4 := blk_frozen BK300.out 4; have hfz20_5 := blk_frozen BK300.out 5))
   (try simp only [Act.put, List.setIfInBounds_toArray, List.set_cons_zero, List.set_cons_succ])
   go_cut [74] (fun v74 wc => ∃ (kq : Nat) (x74_15 : Bool), v74 = .bool x74_15 ∧ Aside0 (optimalaw3_fewPuzzle.j3 kq x3_2 x5_3 x74_15 l0_0 l0_1 ((rd_T44 l0_1 x5_3).f0) ((rd_T44 l0_1 x5_3).f1) ((rd_T44 l0_1 x5_3).f2) ((rd_T44 l0_1 x5_3).f3) ((rd_T44 l0_1 x5_3).f4) ((rd_T44 l0_1 x5_3).f5) = some r) ∧ Aside0 (kq ≤ k3) ∧ Aside0 (wc.heap[gb296]? = some (.cells #[(.slice A0_0 l0_0.length c0_0), (.slice (some ad299) l0_1.length c0_1)] 25 (0, 0))) ∧ Aside0 (wc.heap[gb300]? = some (.cells #[.int .i64 ((rd_T44 l0_1 x5_3).f0), (.slice A299_1 ((rd_T44 l0_1 x5_3).f1).length c299_1), (.slice A299_2 ((rd_T44 l0_1 x5_3).f2).length c299_2), (.slice A299_3 ((rd_T44 l0_1 x5_3).f3).length c299_3), .int .i64 ((rd_T44 l0_1 x5_3).f4), (.slice A299_5 ((rd_T44 l0_1 x5_3).f5).length c299_5)] 44 (0, 0))) ∧ Aside0 (Below w.heap.size w wc))
   case first =>
    have H := HC16.out
    clear HC16
    by_cases c21 : (((rd_T44 l0_1 x5_3).f1).length : Int) > 8
    ·rw [if_pos c21] at H
     have c21b0 : decide (8 < (((rd_T44 l0_1 x5_3).f1).length : Int)) = true := decide_eq_true c21
     have c21b1 : decide (8 < ((rd_T44 l0_1 x5_3).f1).length) = true := decide_eq_true (by omega)
     clear c21
     (skip)
     have H' := Aside0.mk H
     clear H
     have hnb22 := NB300_296.out
     have hnc22 := NB296_300.out
     have hcz23_0 : w18.cell? ⟨gb300, 0, none⟩ = some (.int .i64 0) := (blk_cell BK300.out 0).trans rfl
     have hcz23_1 : w18.cell? ⟨gb300, 1, none⟩ = some (.slice none 0 0) := (blk_cell BK300.out 1).trans rfl
     have hcz23_2 : w18.cell? ⟨gb300, 2, none⟩ = some (.slice none 0 0) := (blk_cell BK300.out 2).trans rfl
     have hcz23_3 : w18.cell? ⟨gb300, 3, none⟩ = some (.slice none 0 0) := (blk_cell BK300.out 3).trans rfl
     have hcz23_4 : w18.cell? ⟨gb300, 4, none⟩ = some (.int .i64 0) := (blk_cell BK300.out 4).trans rfl
     have hcz23_5 : w18.cell? ⟨gb300, 5, none⟩ = some (.slice none 0 0) := (blk_cell BK300.out 5).trans rfl
     have hfz23_0 := blk_frozen BK300.out 0
     have hfz23_1 := blk_frozen BK300.out 1
     have hfz23_2 := blk_frozen BK300.out 2
     have hfz23_3 := blk_frozen BK300.out 3
     have hfz23_4 := blk_frozen BK300.out 4
     have hfz23_5 := blk_frozen BK300.out 5
     go_wp2
     go_meet
     case rel => exact ⟨_, (true), (by rfl), H', ⟨by have := HJ1.out; have := HK2.out; have := HK3.out; omega⟩, ⟨by refine blk_far ?_ NB296_300.out _; refine blk_far ?_ NB296_300.out _; refine blk_far ?_ NB296_300.out _; refine blk_far ?_ NB296_300.out _; refine blk_far ?_ NB296_300.out _; refine blk_far ?_ NB296_300.out _; exact BK296.out⟩, ⟨by refine blk_put (cs := #[.int .i64 ((rd_T44 l0_1 x5_3).f0), .slice A299_1 ((rd_T44 l0_1 x5_3).f1).length c299_1, .slice A299_2 ((rd_T44 l0_1 x5_3).f2).length c299_2, .slice A299_3 ((rd_T44 l0_1 x5_3).f3).length c299_3, .int .i64 ((rd_T44 l0_1 x5_3).f4), .slice none 0 0]) ?_ 5 _ rfl; refine blk_put (cs := #[.int .i64 ((rd_T44 l0_1 x5_3).f0), .slice A299_1 ((rd_T44 l0_1 x5_3).f1).length c299_1, .slice A299_2 ((rd_T44 l0_1 x5_3).f2).length c299_2, .slice A299_3 ((rd_T44 l0_1 x5_3).f3).length c299_3, .int .i64 0, .slice none 0 0]) ?_ 4 _ rfl; refine blk_put (cs := #[.int .i64 ((rd_T44 l0_1 x5_3).f0), .slice A299_1 ((rd_T44 l0_1 x5_3).f1).length c299_1, .slice A299_2 ((rd_T44 l0_1 x5_3).f2).length c299_2, .slice none 0 0, .int .i64 0, .slice none 0 0]) ?_ 3 _ rfl; refine blk_put (cs := #[.int .i64 ((rd_T44 l0_1 x5_3).f0), .slice A299_1 ((rd_T44 l0_1 x5_3).f1).length c299_1, .slice none 0 0, .slice none 0 0, .int .i64 0, .slice none 0 0]) ?_ 2 _ rfl; refine blk_put (cs := #[.int .i64 ((rd_T44 l0_1 x5_3).f0), .slice none 0 0, .slice none 0 0, .slice none 0 0, .int .i64 0, .slice none 0 0]) ?_ 1 _ rfl; refine blk_put (cs := #[.int .i64 0, .slice none 0 0, .slice none 0 0, .slice none 0 0, .int .i64 0, .slice none 0 0]) ?_ 0 _ rfl; exact BK300.out⟩, ⟨by repeat ((with_reducible first | exact HB.out | refine below_set ?_ GE300.out))⟩⟩
    rw [if_neg c21] at H
    have c21b0 : decide (8 < (((rd_T44 l0_1 x5_3).f1).length : Int)) = false := decide_eq_false c21
    have c21b1 : decide (8 < ((rd_T44 l0_1 x5_3).f1).length) = false := decide_eq_false (by omega)
    clear c21
    (skip)
    by_cases c24 : (((rd_T44 l0_1 x5_3).f2).length : Int) > 8
    ·rw [if_pos c24] at H
     have c24b0 : decide (8 < (((rd_T44 l0_1 x5_3).f2).length : Int)) = true := decide_eq_true c24
     have c24b1 : decide (8 < ((rd_T44 l0_1 x5_3).f2).length) = true := decide_eq_true (by omega)
     clear c24
     have H' := Aside0.mk H
     clear H
     have hnb25 := NB300_296.out
     have hnc25 := NB296_300.out
     have hcz26_0 : w18.cell? ⟨gb300, 0, none⟩ = some (.int .i64 0) := (blk_cell BK300.out 0).trans rfl
     have hcz26_1 : w18.cell? ⟨gb300, 1, none⟩ = some (.slice none 0 0) := (blk_cell BK300.out 1).trans rfl
     have hcz26_2 : w18.cell? ⟨gb300, 2, none⟩ = some (.slice none 0 0) := (blk_cell BK300.out 2).trans rfl
     have hcz26_3 : w18.cell? ⟨gb300, 3, none⟩ = some (.slice none 0 0) := (blk_cell BK300.out 3).trans rfl
     have hcz26_4 : w18.cell? ⟨gb300, 4, none⟩ = some (.int .i64 0) := (blk_cell BK300.out 4).trans rfl
     have hcz26_5 : w18.cell? ⟨gb300, 5, none⟩ = some (.slice none 0 0) := (blk_cell BK300.out 5).trans rfl
     have hfz26_0 := blk_frozen BK300.out 0
     have hfz26_1 := blk_frozen BK300.out 1
     have hfz26_2 := blk_frozen BK300.out 2
     have hfz26_3 := blk_frozen BK300.out 3
     have hfz26_4 := blk_frozen BK300.out 4
     have hfz26_5 := blk_frozen BK300.out 5
     go_wp2
     go_meet
     case rel => exact ⟨_, (true), (by rfl), H', ⟨by have := HJ1.out; have := HK2.out; have := HK3.out; omega⟩, ⟨by refine blk_far ?_ NB296_300.out _; refine blk_far ?_ NB296_300.out _; refine blk_far ?_ NB296_300.out _; refine blk_far ?_ NB296_300.out _; refine blk_far ?_ NB296_300.out _; refine blk_far ?_ NB296_300.out _; exact BK296.out⟩, ⟨by refine blk_put (cs := #[.int .i64 ((rd_T44 l0_1 x5_3).f0), .slice A299_1 ((rd_T44 l0_1 x5_3).f1).length c299_1, .slice A299_2 ((rd_T44 l0_1 x5_3).f2).length c299_2, .slice A299_3 ((rd_T44 l0_1 x5_3).f3).length c299_3, .int .i64 ((rd_T44 l0_1 x5_3).f4), .slice none 0 0]) ?_ 5 _ rfl; refine blk_put (cs := #[.int .i64 ((rd_T44 l0_1 x5_3).f0), .slice A299_1 ((rd_T44 l0_1 x5_3).f1).length c299_1, .slice A299_2 ((rd_T44 l0_1 x5_3).f2).length c299_2, .slice A299_3 ((rd_T44 l0_1 x5_3).f3).length c299_3, .int .i64 0, .slice none 0 0]) ?_ 4 _ rfl; refine blk_put (cs := #[.int .i64 ((rd_T44 l0_1 x5_3).f0), .slice A299_1 ((rd_T44 l0_1 x5_3).f1).length c299_1, .slice A299_2 ((rd_T44 l0_1 x5_3).f2).length c299_2, .slice none 0 0, .int .i64 0, .slice none 0 0]) ?_ 3 _ rfl; refine blk_put (cs := #[.int .i64 ((rd_T44 l0_1 x5_3).f0), .slice A299_1 ((rd_T44 l0_1 x5_3).f1).length c299_1, .slice none 0 0, .slice none 0 0, .int .i64 0, .slice none 0 0]) ?_ 2 _ rfl; refine blk_put (cs := #[.int .i64 ((rd_T44 l0_1 x5_3).f0), .slice none 0 0, .slice none 0 0, .slice none 0 0, .int .i64 0, .slice none 0 0]) ?_ 1 _ rfl; refine blk_put (cs := #[.int .i64 0, .slice none 0 0, .slice none 0 0, .slice none 0 0, .int .i64 0, .slice none 0 0]) ?_ 0 _ rfl; exact BK300.out⟩, ⟨by repeat ((with_reducible first | exact HB.out | refine below_set ?_ GE300.out))⟩⟩
    rw [if_neg c24] at H
    have c24b0 : decide (8 < (((rd_T44 l0_1 x5_3).f2).length : Int)) = false := decide_eq_false c24
    have c24b1 : decide (8 < ((rd_T44 l0_1 x5_3).f2).length) = false := decide_eq_false (by omega)
    clear c24
    by_cases c27 : (((rd_T44 l0_1 x5_3).f3).length : Int) > 8
    ·rw [if_pos c27] at H
     have c27b0 : decide (8 < (((rd_T44 l0_1 x5_3).f3).length : Int)) = true := decide_eq_true c27
     have c27b1 : decide (8 < ((rd_T44 l0_1 x5_3).f3).length) = true := decide_eq_true (by omega)
     clear c27
     have H' := Aside0.mk H
     clear H
     have hnb28 := NB300_296.out
     have hnc28 := NB296_300.out
     have hcz29_0 : w18.cell? ⟨gb300, 0, none⟩ = some (.int .i64 0) := (blk_cell BK300.out 0).trans rfl
     have hcz29_1 : w18.cell? ⟨gb300, 1, none⟩ = some (.slice none 0 0) := (blk_cell BK300.out 1).trans rfl
     have hcz29_2 : w18.cell? ⟨gb300, 2, none⟩ = some (.slice none 0 0) := (blk_cell BK300.out 2).trans rfl
     have hcz29_3 : w18.cell? ⟨gb300, 3, none⟩ = some (.slice none 0 0) := (blk_cell BK300.out 3).trans rfl
     have hcz29_4 : w18.cell? ⟨gb300, 4, none⟩ = some (.int .i64 0) := (blk_cell BK300.out 4).trans rfl
     have hcz29_5 : w18.cell? ⟨gb300, 5, none⟩ = some (.slice none 0 0) := (blk_cell BK300.out 5).trans rfl
     have hfz29_0 := blk_frozen BK300.out 0
     have hfz29_1 := blk_frozen BK300.out 1
     have hfz29_2 := blk_frozen BK300.out 2
     have hfz29_3 := blk_frozen BK300.out 3
     have hfz29_4 := blk_frozen BK300.out 4
     have hfz29_5 := blk_frozen BK300.out 5
     go_wp2
     go_meet
     case rel => exact ⟨_, (true), (by rfl), H', ⟨by have := HJ1.out; have := HK2.out; have := HK3.out; omega⟩, ⟨by refine blk_far ?_ NB296_300.out _; refine blk_far ?_ NB296_300.out _; refine blk_far ?_ NB296_300.out _; refine blk_far ?_ NB296_300.out _; refine blk_far ?_ NB296_300.out _; refine blk_far ?_ NB296_300.out _; exact BK296.out⟩, ⟨by refine blk_put (cs := #[.int .i64 ((rd_T44 l0_1 x5_3).f0), .slice A299_1 ((rd_T44 l0_1 x5_3).f1).length c299_1, .slice A299_2 ((rd_T44 l0_1 x5_3).f2).length c299_2, .slice A299_3 ((rd_T44 l0_1 x5_3).f3).length c299_3, .int .i64 ((rd_T44 l0_1 x5_3).f4), .slice none 0 0]) ?_ 5 _ rfl; refine blk_put (cs := #[.int .i64 ((rd_T44 l0_1 x5_3).f0), .slice A299_1 ((rd_T44 l0_1 x5_3).f1).length c299_1, .slice A299_2 ((rd_T44 l0_1 x5_3).f2).length c299_2, .slice A299_3 ((rd_T44 l0_1 x5_3).f3).length c299_3, .int .i64 0, .slice none 0 0]) ?_ 4 _ rfl; refine blk_put (cs := #[.int .i64 ((rd_T44 l0_1 x5_3).f0), .slice A299_1 ((rd_T44 l0_1 x5_3).f1).length c299_1, .slice A299_2 ((rd_T44 l0_1 x5_3).f2).length c299_2, .slice none 0 0, .int .i64 0, .slice none 0 0]) ?_ 3 _ rfl; refine blk_put (cs := #[.int .i64 ((rd_T44 l0_1 x5_3).f0), .slice A299_1 ((rd_T44 l0_1 x5_3).f1).length c299_1, .slice none 0 0, .slice none 0 0, .int .i64 0, .slice none 0 0]) ?_ 2 _ rfl; refine blk_put (cs := #[.int .i64 ((rd_T44 l0_1 x5_3).f0), .slice none 0 0, .slice none 0 0, .slice none 0 0, .int .i64 0, .slice none 0 0]) ?_ 1 _ rfl; refine blk_put (cs := #[.int .i64 0, .slice none 0 0, .slice none 0 0, .slice none 0 0, .int .i64 0, .slice none 0 0]) ?_ 0 _ rfl; exact BK300.out⟩, ⟨by repeat ((with_reducible first | exact HB.out | refine below_set ?_ GE300.out))⟩⟩
    rw [if_neg c27] at H
    have c27b0 : decide (8 < (((rd_T44 l0_1 x5_3).f3).length : Int)) = false := decide_eq_false c27
    have c27b1 : decide (8 < ((rd_T44 l0_1 x5_3).f3).length) = false := decide_eq_false (by omega)
    clear c27
    have H' := Aside0.mk H
    clear H
    have hnb30 := NB300_296.out
    have hnc30 := NB296_300.out
    have hcz31_0 : w18.cell? ⟨gb300, 0, none⟩ = some (.int .i64 0) := (blk_cell BK300.out 0).trans rfl
    have hcz31_1 : w18.cell? ⟨gb300, 1, none⟩ = some (.slice none 0 0) := (blk_cell BK300.out 1).trans rfl
    have hcz31_2 : w18.cell? ⟨gb300, 2, none⟩ = some (.slice none 0 0) := (blk_cell BK300.out 2).trans rfl
    have hcz31_3 : w18.cell? ⟨gb300, 3, none⟩ = some (.slice none 0 0) := (blk_cell BK300.out 3).trans rfl
    have hcz31_4 : w18.cell? ⟨gb300, 4, none⟩ = some (.int .i64 0) := (blk_cell BK300.out 4).trans rfl
    have hcz31_5 : w18.cell? ⟨gb300, 5, none⟩ = some (.slice none 0 0) := (blk_cell BK300.out 5).trans rfl
    have hfz31_0 := blk_frozen BK300.out 0
    have hfz31_1 := blk_frozen BK300.out 1
    have hfz31_2 := blk_frozen BK300.out 2
    have hfz31_3 := blk_frozen BK300.out 3
    have hfz31_4 := blk_frozen BK300.out 4
    have hfz31_5 := blk_frozen BK300.out 5
    go_wp2
    go_meet
    case rel => exact ⟨_, (decide ((((rd_T44 l0_1 x5_3).f5).length : Int) > 12)), (by rfl), H', ⟨by have := HJ1.out; have := HK2.out; have := HK3.out; omega⟩, ⟨by refine blk_far ?_ NB296_300.out _; refine blk_far ?_ NB296_300.out _; refine blk_far ?_ NB296_300.out _; refine blk_far ?_ NB296_300.out _; refine blk_far ?_ NB296_300.out _; refine blk_far ?_ NB296_300.out _; exact BK296.out⟩, ⟨by refine blk_put (cs := #[.int .i64 ((rd_T44 l0_1 x5_3).f0), .slice A299_1 ((rd_T44 l0_1 x5_3).f1).length c299_1, .slice A299_2 ((rd_T44 l0_1 x5_3).f2).length c299_2, .slice A299_3 ((rd_T44 l0_1 x5_3).f3).length c299_3, .int .i64 ((rd_T44 l0_1 x5_3).f4), .slice none 0 0]) ?_ 5 _ rfl; refine blk_put (cs := #[.int .i64 ((rd_T44 l0_1 x5_3).f0), .slice A299_1 ((rd_T44 l0_1 x5_3).f1).length c299_1, .slice A299_2 ((rd_T44 l0_1 x5_3).f2).length c299_2, .slice A299_3 ((rd_T44 l0_1 x5_3).f3).length c299_3, .int .i64 0, .slice none 0 0]) ?_ 4 _ rfl; refine blk_put (cs := #[.int .i64 ((rd_T44 l0_1 x5_3).f0), .slice A299_1 ((rd_T44 l0_1 x5_3).f1).length c299_1, .slice A299_2 ((rd_T44 l0_1 x5_3).f2).length c299_2, .slice none 0 0, .int .i64 0, .slice none 0 0]) ?_ 3 _ rfl; refine blk_put (cs := #[.int .i64 ((rd_T44 l0_1 x5_3).f0), .slice A299_1 ((rd_T44 l0_1 x5_3).f1).length c299_1, .slice none 0 0, .slice none 0 0, .int .i64 0, .slice none 0 0]) ?_ 2 _ rfl; refine blk_put (cs := #[.int .i64 ((rd_T44 l0_1 x5_3).f0), .slice none 0 0, .slice none 0 0, .slice none 0 0, .int .i64 0, .slice none 0 0]) ?_ 1 _ rfl; refine blk_put (cs := #[.int .i64 0, .slice none 0 0, .slice none 0 0, .slice none 0 0, .int .i64 0, .slice none 0 0]) ?_ 0 _ rfl; exact BK300.out⟩, ⟨by repeat ((with_reducible first | exact HB.out | refine below_set ?_ GE300.out))⟩⟩
   clear HC16
   try clear c1
   try clear c2
   try clear p2
   try clear q2
   try clear hx2
   try clear c3
   try clear c4
   try clear c4b0
   try clear c4b1
   try clear p6
   try clear c7
   try clear c8
   try clear c8b0
   try clear c9
   try clear c9b0
   try clear c10
   try clear c10b0
   try clear c10b1
   try clear c14
   try clear c14b0
   try clear c15
   try clear c15b0
   try clear c19
   try clear c21
   try clear c21b0
   try clear c21b1
   try clear c22
   try clear c24
   try clear c24b0
   try clear c24b1
   try clear c25
   try clear c27
   try clear c27b0
   try clear c27b1
   try clear c28
   try clear c29
   try clear p29
   try clear q29
   try clear hx29
   try clear c30
   try clear hcz11_0
   try clear hcz11_1
   try clear hcz12_0
   try clear hcz12_1
   try clear hcz13_0
   try clear hcz13_1
   try clear hcz17_0
   try clear hcz17_1
   try clear hcz20_0
   try clear hcz20_1
   try clear hcz20_2
   try clear hcz20_3
   try clear hcz20_4
   try clear hcz20_5
   try clear hcz23_0
   try clear hcz23_1
   try clear hcz23_2
   try clear hcz23_3
   try clear hcz23_4
   try clear hcz23_5
   try clear hcz26_0
   try clear hcz26_1
   try clear hcz26_2
   try clear hcz26_3
   try clear hcz26_4
   try clear hcz26_5
   try clear hcz29_0
   try clear hcz29_1
   try clear hcz29_2
   try clear hcz29_3
   try clear hcz29_4
   try clear hcz29_5
   try clear hcz31_0
   try clear hcz31_1
   try clear hcz31_2
   try clear hcz31_3
   try clear hcz31_4
   try clear hcz31_5
   try clear hcz5_0
   try clear hcz5_1
   try clear hcz6_0
   try clear hcz6_1
   try clear hfz11_0
   try clear hfz11_1
   try clear hfz12_0
   try clear hfz12_1
   try clear hfz13_0
   try clear hfz13_1
   try clear hfz17_0
   try clear hfz17_1
   try clear hfz20_0
   try clear hfz20_1
   try clear hfz20_2
   try clear hfz20_3
   try clear hfz20_4
   try clear hfz20_5
   try clear hfz23_0
   try clear hfz23_1
   try clear hfz23_2
   try clear hfz23_3
   try clear hfz23_4
   try clear hfz23_5
   try clear hfz26_0
   try clear hfz26_1
   try clear hfz26_2
   try clear hfz26_3
   try clear hfz26_4
   try clear hfz26_5
   try clear hfz29_0
   try clear hfz29_1
   try clear hfz29_2
   try clear hfz29_3
   try clear hfz29_4
   try clear hfz29_5
   try clear hfz31_0
   try clear hfz31_1
   try clear hfz31_2
   try clear hfz31_3
   try clear hfz31_4
   try clear hfz31_5
   try clear hfz5_0
   try clear hfz5_1
   try clear hfz6_0
   try clear hfz6_1
   try clear hx297_0
   try clear hx298_0
   try clear hx299_0
   try clear hx299_1
   try clear hx299_2
   try clear hx299_3
   try clear hx299_4
   try clear hx299_5
   try clear p2
   try clear p297
   try clear p298
   try clear p299
   try clear p6
   try clear q2
   try clear q297
   try clear q298
   try clear q299
   obtain ⟨kq, x74_15, rfl, HA, HJ15, BK296, BK300, HB⟩ := hcut
   rcases kq with _ | kj15
   ·exact absurd HA.out (by simp [optimalaw3_fewPuzzle.j3])
   have H := HA.out
   clear HA
   simp only [optimalaw3_fewPuzzle.j3] at H
   by_cases c32 : x74_15 = true
   ·subst c32
    have H1 : (some false) = some r := by rw [if_pos rfl] at H; exact H
    clear H
    have H := H1
    clear H1
    obtain rfl := Option.some.inj H
    go_wp2
    go_ret
    exact ⟨by rfl, by exact HB.out⟩
   replace c32 := Bool.eq_false_iff.mpr c32
   subst c32
   have H1 : (optimalaw3_fewPuzzle.l2 kj15 x3_2 x5_3 0 l0_0 l0_1 ((rd_T44 l0_1 x5_3).f0) ((rd_T44 l0_1 x5_3).f1) ((rd_T44 l0_1 x5_3).f2) ((rd_T44 l0_1 x5_3).f3) ((rd_T44 l0_1 x5_3).f4) ((rd_T44 l0_1 x5_3).f5)) = some r := by rw [if_neg (show ¬ (false = true) by decide)] at H; exact H
   clear H
   have H := H1
   clear H1
   have H' := Aside0.mk H
   clear H
   go_wp2
   go_loopg [7] kj15 (fun kq v7 w' => ∃ (x7_5 : Int), v7 = .int .i64 x7_5 ∧ Aside0 (optimalaw3_fewPuzzle.l2 kq x3_2 x5_3 x7_5 l0_0 l0_1 ((rd_T44 l0_1 x5_3).f0) ((rd_T44 l0_1 x5_3).f1) ((rd_T44 l0_1 x5_3).f2) ((rd_T44 l0_1 x5_3).f3) ((rd_T44 l0_1 x5_3).f4) ((rd_T44 l0_1 x5_3).f5) = some r) ∧ Aside0 (kq ≤ kj15) ∧ Aside0 (w'.heap[gb296]? = some (.cells #[(.slice A0_0 l0_0.length c0_0), (.slice (some ad299) l0_1.length c0_1)] 25 (0, 0))) ∧ Aside0 (w'.heap[gb300]? = some (.cells #[.int .i64 ((rd_T44 l0_1 x5_3).f0), (.slice A299_1 ((rd_T44 l0_1 x5_3).f1).length c299_1), (.slice A299_2 ((rd_T44 l0_1 x5_3).f2).length c299_2), (.slice A299_3 ((rd_T44 l0_1 x5_3).f3).length c299_3), .int .i64 ((rd_T44 l0_1 x5_3).f4), (.slice A299_5 ((rd_T44 l0_1 x5_3).f5).length c299_5)] 44 (0, 0))) ∧ Aside0 (Below w.heap.size w w'))
   case atStart => exact ⟨(0), (by rfl), H', ⟨Nat.le_refl _⟩, ⟨by exact BK296.out⟩, ⟨by exact BK300.out⟩, ⟨by exact HB.out⟩⟩
   clear H'
   try clear c1
   try clear c2
   try clear p2
   try clear q2
   try clear hx2
   try clear c3
   try clear c4
   try clear c4b0
   try clear c4b1
   try clear p6
   try clear c7
   try clear c8
   try clear c8b0
   try clear c9
   try clear c9b0
   try clear c10
   try clear c10b0
   try clear c10b1
   try clear c14
   try clear c14b0
   try clear c15
   try clear c15b0
   try clear c19
   try clear c21
   try clear c21b0
   try clear c21b1
   try clear c22
   try clear c24
   try clear c24b0
   try clear c24b1
   try clear c25
   try clear c27
   try clear c27b0
   try clear c27b1
   try clear c28
   try clear c29
   try clear p29
   try clear q29
   try clear hx29
   try clear c30
   try clear c32
   try clear hcz11_0
   try clear hcz11_1
   try clear hcz12_0
   try clear hcz12_1
   try clear hcz13_0
   try clear hcz13_1
   try clear hcz17_0
   try clear hcz17_1
   try clear hcz20_0
   try clear hcz20_1
   try clear hcz20_2
   try clear hcz20_3
   try clear hcz20_4
   try clear hcz20_5
   try clear hcz23_0
   try clear hcz23_1
   try clear hcz23_2
   try clear hcz23_3
   try clear hcz23_4
   try clear hcz23_5
   try clear hcz26_0
   try clear hcz26_1
   try clear hcz26_2
   try clear hcz26_3
   try clear hcz26_4
   try clear hcz26_5
   try clear hcz29_0
   try clear hcz29_1
   try clear hcz29_2
   try clear hcz29_3
   try clear hcz29_4
   try clear hcz29_5
   try clear hcz31_0
   try clear hcz31_1
   try clear hcz31_2
   try clear hcz31_3
   try clear hcz31_4
   try clear hcz31_5
   try clear hcz5_0
   try clear hcz5_1
   try clear hcz6_0
   try clear hcz6_1
   try clear hfz11_0
   try clear hfz11_1
   try clear hfz12_0
   try clear hfz12_1
   try clear hfz13_0
   try clear hfz13_1
   try clear hfz17_0
   try clear hfz17_1
   try clear hfz20_0
   try clear hfz20_1
   try clear hfz20_2
   try clear hfz20_3
   try clear hfz20_4
   try clear hfz20_5
   try clear hfz23_0
   try clear hfz23_1
   try clear hfz23_2
   try clear hfz23_3
   try clear hfz23_4
   try clear hfz23_5
   try clear hfz26_0
   try clear hfz26_1
   try clear hfz26_2
   try clear hfz26_3
   try clear hfz26_4
   try clear hfz26_5
   try clear hfz29_0
   try clear hfz29_1
   try clear hfz29_2
   try clear hfz29_3
   try clear hfz29_4
   try clear hfz29_5
   try clear hfz31_0
   try clear hfz31_1
   try clear hfz31_2
   try clear hfz31_3
   try clear hfz31_4
   try clear hfz31_5
   try clear hfz5_0
   try clear hfz5_1
   try clear hfz6_0
   try clear hfz6_1
   try clear hx297_0
   try clear hx298_0
   try clear hx299_0
   try clear hx299_1
   try clear hx299_2
   try clear hx299_3
   try clear hx299_4
   try clear hx299_5
   try clear p2
   try clear p29
   try clear p297
   try clear p298
   try clear p299
   try clear p6
   try clear q2
   try clear q29
   try clear q297
   try clear q298
   try clear q299
   obtain ⟨x7_5, rfl, HA, HK5, BK296, BK300, HB⟩ := hrel
   rcases gk with _ | k5
   ·exact absurd HA.out (by simp [optimalaw3_fewPuzzle.l2])
   have H := HA.out
   clear HA
   simp only [optimalaw3_fewPuzzle.l2] at H
   by_cases c33 : x7_5 < (((rd_T44 l0_1 x5_3).f5).length : Int)
   ·rw [if_pos c33] at H
    have c33b0 : decide (x7_5 < (((rd_T44 l0_1 x5_3).f5).length : Int)) = true := decide_eq_true c33
    clear c33
    by_cases c34 : 0 ≤ x7_5
    ·rw [if_pos c34] at H
     have c34b0 : decide (0 ≤ x7_5) = true := decide_eq_true c34
     clear c34
     by_cases c35 : ((rd_L1 ((rd_T44 l0_1 x5_3).f5) x7_5).length : Int) > 8
     ·rw [if_pos c35] at H
      have c35b0 : decide (8 < ((rd_L1 ((rd_T44 l0_1 x5_3).f5) x7_5).length : Int)) = true := decide_eq_true c35
      have c35b1 : decide (8 < (rd_L1 ((rd_T44 l0_1 x5_3).f5) x7_5).length) = true := decide_eq_true (by omega)
      clear c35
      obtain rfl := Option.some.inj H
      have hnb36 := NB300_296.out
      have hnc36 := NB296_300.out
      have hcz37_0 : wr.cell? ⟨gb300, 0, none⟩ = some (.int .i64 ((rd_T44 l0_1 x5_3).f0)) := (blk_cell BK300.out 0).trans rfl
      have hcz37_1 : wr.cell? ⟨gb300, 1, none⟩ = some (.slice A299_1 ((rd_T44 l0_1 x5_3).f1).length c299_1) := (blk_cell BK300.out 1).trans rfl
      have hcz37_2 : wr.cell? ⟨gb300, 2, none⟩ = some (.slice A299_2 ((rd_T44 l0_1 x5_3).f2).length c299_2) := (blk_cell BK300.out 2).trans rfl
      have hcz37_3 : wr.cell? ⟨gb300, 3, none⟩ = some (.slice A299_3 ((rd_T44 l0_1 x5_3).f3).length c299_3) := (blk_cell BK300.out 3).trans rfl
      have hcz37_4 : wr.cell? ⟨gb300, 4, none⟩ = some (.int .i64 ((rd_T44 l0_1 x5_3).f4)) := (blk_cell BK300.out 4).trans rfl
      have hcz37_5 : wr.cell? ⟨gb300, 5, none⟩ = some (.slice A299_5 ((rd_T44 l0_1 x5_3).f5).length c299_5) := (blk_cell BK300.out 5).trans rfl
      have hfz37_0 := blk_frozen BK300.out 0
      have hfz37_1 := blk_frozen BK300.out 1
      have hfz37_2 := blk_frozen BK300.out 2
      have hfz37_3 := blk_frozen BK300.out 3
      have hfz37_4 := blk_frozen BK300.out 4
      have hfz37_5 := blk_frozen BK300.out 5
      have p301 : 0 ≤ (x7_5 : Int) := of_decide_eq_true (by (with_reducible assumption))
      have q301 : x7_5 < (((rd_T44 l0_1 x5_3).f5).length : Int) := of_decide_eq_true (by (with_reducible assumption))
      obtain ⟨ad301, A301_0, c301_0, e301, hx301_0, hl301_0, hi301_0⟩ := at_L1 HR299_5.out x7_5 p301 q301
      cases e301
      replace hx301_0 := (HB.out.cell (World.block_lt_of_cell? w _ hx301_0)).trans hx301_0
      have HR301_0 := Aside0.mk hi301_0
      have HC301_0 := Aside0.mk hl301_0
      clear hi301_0 hl301_0
      replace p301 := eq_true p301
      replace q301 := eq_true q301
      go_wp2
      go_ret
      exact ⟨by rfl, by exact HB.out⟩
     rw [if_neg c35] at H
     have c35b0 : decide (8 < ((rd_L1 ((rd_T44 l0_1 x5_3).f5) x7_5).length : Int)) = false := decide_eq_false c35
     have c35b1 : decide (8 < (rd_L1 ((rd_T44 l0_1 x5_3).f5) x7_5).length) = false := decide_eq_false (by omega)
     clear c35
     have H' := Aside0.mk H
     clear H
     have hnb38 := NB300_296.out
     have hnc38 := NB296_300.out
     have hcz39_0 : wr.cell? ⟨gb300, 0, none⟩ = some (.int .i64 ((rd_T44 l0_1 x5_3).f0)) := (blk_cell BK300.out 0).trans rfl
     have hcz39_1 : wr.cell? ⟨gb300, 1, none⟩ = some (.slice A299_1 ((rd_T44 l0_1 x5_3).f1).length c299_1) := (blk_cell BK300.out 1).trans rfl
     have hcz39_2 : wr.cell? ⟨gb300, 2, none⟩ = some (.slice A299_2 ((rd_T44 l0_1 x5_3).f2).length c299_2) := (blk_cell BK300.out 2).trans rfl
     have hcz39_3 : wr.cell? ⟨gb300, 3, none⟩ = some (.slice A299_3 ((rd_T44 l0_1 x5_3).f3).length c299_3) := (blk_cell BK300.out 3).trans rfl
     have hcz39_4 : wr.cell? ⟨gb300, 4, none⟩ = some (.int .i64 ((rd_T44 l0_1 x5_3).f4)) := (blk_cell BK300.out 4).trans rfl
     have hcz39_5 : wr.cell? ⟨gb300, 5, none⟩ = some (.slice A299_5 ((rd_T44 l0_1 x5_3).f5).length c299_5) := (blk_cell BK300.out 5).trans rfl
     have hfz39_0 := blk_frozen BK300.out 0
     have hfz39_1 := blk_frozen BK300.out 1
     have hfz39_2 := blk_frozen BK300.out 2
     have hfz39_3 := blk_frozen BK300.out 3
     have hfz39_4 := blk_frozen BK300.out 4
     have hfz39_5 := blk_frozen BK300.out 5
     have p301 : 0 ≤ (x7_5 : Int) := of_decide_eq_true (by (with_reducible assumption))
     have q301 : x7_5 < (((rd_T44 l0_1 x5_3).f5).length : Int) := of_decide_eq_true (by (with_reducible assumption))
     obtain ⟨ad301, A301_0, c301_0, e301, hx301_0, hl301_0, hi301_0⟩ := at_L1 HR299_5.out x7_5 p301 q301
     cases e301
     replace hx301_0 := (HB.out.cell (World.block_lt_of_cell? w _ hx301_0)).trans hx301_0
     have HR301_0 := Aside0.mk hi301_0
     have HC301_0 := Aside0.mk hl301_0
     clear hi301_0 hl301_0
     replace p301 := eq_true p301
     replace q301 := eq_true q301
     go_wp2
     go_roundg k5
     case measure => have := HJ1.out; have := HK2.out; have := HK3.out; have := HJ15.out; have := HK5.out; omega
     case rel => exact ⟨(wrap64 (x7_5 + 1)), (by rfl), H', ⟨by have := HJ1.out; have := HK2.out; have := HK3.out; have := HJ15.out; have := HK5.out; omega⟩, ⟨by exact BK296.out⟩, ⟨by exact BK300.out⟩, ⟨by exact HB.out⟩⟩
    rw [if_neg c34] at H
    exact absurd H (by simp)
   rw [if_neg c33] at H
   have c33b0 : decide (x7_5 < (((rd_T44 l0_1 x5_3).f5).length : Int)) = false := decide_eq_false c33
   clear c33
   have H' := Aside0.mk H
   clear H
   have hnb40 := NB300_296.out
   have hnc40 := NB296_300.out
   have hcz41_0 : wr.cell? ⟨gb300, 0, none⟩ = some (.int .i64 ((rd_T44 l0_1 x5_3).f0)) := (blk_cell BK300.out 0).trans rfl
   have hcz41_1 : wr.cell? ⟨gb300, 1, none⟩ = some (.slice A299_1 ((rd_T44 l0_1 x5_3).f1).length c299_1) := (blk_cell BK300.out 1).trans rfl
   have hcz41_2 : wr.cell? ⟨gb300, 2, none⟩ = some (.slice A299_2 ((rd_T44 l0_1 x5_3).f2).length c299_2) := (blk_cell BK300.out 2).trans rfl
   have hcz41_3 : wr.cell? ⟨gb300, 3, none⟩ = some (.slice A299_3 ((rd_T44 l0_1 x5_3).f3).length c299_3) := (blk_cell BK300.out 3).trans rfl
   have hcz41_4 : wr.cell? ⟨gb300, 4, none⟩ = some (.int .i64 ((rd_T44 l0_1 x5_3).f4)) := (blk_cell BK300.out 4).trans rfl
   have hcz41_5 : wr.cell? ⟨gb300, 5, none⟩ = some (.slice A299_5 ((rd_T44 l0_1 x5_3).f5).length c299_5) := (blk_cell BK300.out 5).trans rfl
   have hfz41_0 := blk_frozen BK300.out 0
   have hfz41_1 := blk_frozen BK300.out 1
   have hfz41_2 := blk_frozen BK300.out 2
   have hfz41_3 := blk_frozen BK300.out 3
   have hfz41_4 := blk_frozen BK300.out 4
   have hfz41_5 := blk_frozen BK300.out 5
   go_wp2
   go_roundg k5
   case measure => have := HJ1.out; have := HK2.out; have := HK3.out; have := HJ15.out; have := HK5.out; omega
   case rel => exact ⟨(wrap64 (x5_3 + 1)), (by rfl), H', ⟨by have := HJ1.out; have := HK2.out; have := HK3.out; have := HJ15.out; have := HK5.out; omega⟩, ⟨by exact BK296.out⟩, ⟨by exact HB.out⟩⟩
  rw [if_neg c15] at H
  exact absurd H (by simp)
 rw [if_neg c14] at H
 have c14b0 : decide (x5_3 < (l0_1.length : Int)) = false := decide_eq_false c14
 clear c14
 obtain rfl := Option.some.inj H
 have hcz42_0 : wr.cell? ⟨gb296, 0, none⟩ = some (.slice A0_0 l0_0.length c0_0) := (blk_cell BK296.out 0).trans rfl
 have hcz42_1 : wr.cell? ⟨gb296, 1, none⟩ = some (.slice A0_1 l0_1.length c0_1) := (blk_cell BK296.out 1).trans rfl
 have hfz42_0 := blk_frozen BK296.out 0
 have hfz42_1 := blk_frozen BK296.out 1
 go_wp2
 go_ret
 exact ⟨by rfl, by exact HB.out⟩

end Go.Proofs.YtehekppkicjimaaDoor.QFK
