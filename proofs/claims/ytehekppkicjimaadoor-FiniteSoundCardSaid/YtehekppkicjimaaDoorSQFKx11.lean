-- written by a program of mine (wip/tools/print2.py), which turns the kit's printer a little
import Derived.Test.YtehekppkicjimaaDoorSQFKx0
import Derived.Test.YtehekppkicjimaaDoorSQFKx21
import Derived.Test.YtehekppkicjimaaDoorSQFKx22
import Derived.Test.YtehekppkicjimaaDoorSErr
namespace Go.Proofs.YtehekppkicjimaaDoor.QFK
open Go.RowKit Go.Proofs.YtehekppkicjimaaDoorW.PrintWords Go.Proofs.YtehekppkicjimaaDoorW.PrintLast Go.Proofs.YtehekppkicjimaaDoorW.PrintMore
attribute [local go_sem] max2_int min2_int max_two min_two max_three min_three max_four min_four
set_option linter.unusedVariables false
set_option linter.unusedSimpArgs false

attribute [local go_sem] Sent.alloc Sent.drew Sent.drewN Sent.c0 Sent.c1
/-! ### optimaref3_Keeps: function 11 -/
mutual
def optimaref3_Keeps.l0 : Nat → List Int → Int → List (List Int) → List (S44) → Option (Bool)
 | 0, _, _, _, _ => none
 | k + 1, x1, x5, x354000, x354001 => if x5 < (x1.length : Int) then (if 0 ≤ x5 then (if x5 < (x354000.length : Int) then ((optimaref3_in.f k (rd_L1 x354000 x5) (rd x1 x5)).bind fun t356 => (if t356 = true then (optimaref3_Keeps.l0 k x1 (wrap64 (x5 + 1)) x354000 x354001) else (some false))) else (none)) else (none)) else (optimaref3_Keeps.l1 k x1 0 x354000 x354001)
def optimaref3_Keeps.l1 : Nat → List Int → Int → List (List Int) → List (S44) → Option (Bool)
 | 0, _, _, _, _ => none
 | k + 1, x1, x7, x354000, x354001 => if x7 < (x354001.length : Int) then (optimaref3_Keeps.l2 k x1 x7 ([] : List Int) 0 x354000 x354001) else (some true)
def optimaref3_Keeps.l2 : Nat → List Int → Int → List Int → Int → List (List Int) → List (S44) → Option (Bool)
 | 0, _, _, _, _, _, _ => none
 | k + 1, x1, x7, x8, x9, x354000, x354001 => if 0 ≤ x7 then (if x7 < (x354001.length : Int) then (if x9 < (((rd_T44 x354001 x7).f1).length : Int) then (if 0 ≤ x9 then (if 0 ≤ (rd ((rd_T44 x354001 x7).f1) x9) then (if (rd ((rd_T44 x354001 x7).f1) x9) < (x1.length : Int) then (if x8.length < 17592186044416 then (optimaref3_Keeps.l2 k x1 x7 (x8 ++ [rd x1 (rd ((rd_T44 x354001 x7).f1) x9)]) (wrap64 (x9 + 1)) x354000 x354001) else (none)) else (none)) else (none)) else (none)) else ((optimaref3_kept.f k ((rd_T44 x354001 x7).f0) ((rd_T44 x354001 x7).f1) ((rd_T44 x354001 x7).f2) ((rd_T44 x354001 x7).f3) ((rd_T44 x354001 x7).f4) ((rd_T44 x354001 x7).f5) x8).bind fun t365 => (if t365 = true then (optimaref3_Keeps.l1 k x1 (wrap64 (x7 + 1)) x354000 x354001) else (some false)))) else (none)) else (none)
end
def optimaref3_Keeps.f (k : Nat) (l0_0 : List (List Int)) (l0_1 : List (S44)) (l1 : List Int) : Option (Bool) := optimaref3_Keeps.l0 k l1 0 l0_0 l0_1
theorem optimaref3_Keeps.mono_l : ∀ k, (∀ y0 y1 y2 y3, LeO (optimaref3_Keeps.l0 k y0 y1 y2 y3) (optimaref3_Keeps.l0 (k + 1) y0 y1 y2 y3)) ∧ (∀ y0 y1 y2 y3, LeO (optimaref3_Keeps.l1 k y0 y1 y2 y3) (optimaref3_Keeps.l1 (k + 1) y0 y1 y2 y3)) ∧ (∀ y0 y1 y2 y3 y4 y5, LeO (optimaref3_Keeps.l2 k y0 y1 y2 y3 y4 y5) (optimaref3_Keeps.l2 (k + 1) y0 y1 y2 y3 y4 y5))
 | 0 => ⟨fun _ _ _ _ r h => by simp [optimaref3_Keeps.l0] at h, fun _ _ _ _ r h => by simp [optimaref3_Keeps.l1] at h, fun _ _ _ _ _ _ r h => by simp [optimaref3_Keeps.l2] at h⟩
 | k + 1 => by
  obtain ⟨ih0, ih1, ih2⟩ := optimaref3_Keeps.mono_l k
  refine ⟨?_, ?_, ?_⟩
  ·intro y0 y1 y2 y3
   unfold optimaref3_Keeps.l0
   repeat' first | (with_reducible exact ih0 _ _ _ _) | (with_reducible exact ih1 _ _ _ _) | (with_reducible exact optimaref3_in.mono _ _ _) | (with_reducible exact LeO.refl _) | (with_reducible refine LeO.ite ?_ ?_) | (with_reducible refine LeO.bind ?_ (fun _ => ?_))
  ·intro y0 y1 y2 y3
   unfold optimaref3_Keeps.l1
   repeat' first | (with_reducible exact ih2 _ _ _ _ _ _) | (with_reducible exact LeO.refl _) | (with_reducible refine LeO.ite ?_ ?_)
  intro y0 y1 y2 y3 y4 y5
  unfold optimaref3_Keeps.l2
  repeat' first | (with_reducible exact ih1 _ _ _ _) | (with_reducible exact ih2 _ _ _ _ _ _) | (with_reducible exact optimaref3_kept.mono _ _ _ _ _ _ _ _) | (with_reducible exact LeO.refl _) | (with_reducible refine LeO.ite ?_ ?_) | (with_reducible refine LeO.bind ?_ (fun _ => ?_))
theorem optimaref3_Keeps.mono : ∀ a0 a1 a2 k, LeO (optimaref3_Keeps.f k a0 a1 a2) (optimaref3_Keeps.f (k + 1) a0 a1 a2) := by
 intro a0 a1 a2 k
 obtain ⟨ih0, ih1, ih2⟩ := optimaref3_Keeps.mono_l k
 unfold optimaref3_Keeps.f
 repeat' (with_reducible exact ih0 _ _ _ _)
set_option maxHeartbeats 8000000 in
set_option maxRecDepth 100000 in
theorem optimaref3_Keeps.calls (k : Nat) (A0_0 : Option Addr) (c0_0 : Nat) (l0_0 : List (List Int)) (A0_1 : Option Addr) (c0_1 : Nat) (l0_1 : List (S44)) (A1 : Option Addr) (c1 : Nat) (l1 : List Int) (r : Bool) (w : World) (hr0_0 : Kd.C (Kd.slice 3 (Kd.int .i64)) w A0_0 l0_0.length l0_0) (hc0_0 : l0_0.length ≤ c0_0) (hr0_1 : Kd.C k44 w A0_1 l0_1.length l0_1) (hc0_1 : l0_1.length ≤ c0_1) (hr1 : Kd.C (Kd.int .i64) w A1 l1.length l1) (hc1 : l1.length ≤ c1) (h : optimaref3_Keeps.f k l0_0 l0_1 l1 = some r) :
 Calls Tryd.prog 11 #[.agg #[.slice A0_0 l0_0.length c0_0, .slice A0_1 l0_1.length c0_1], .slice A1 l1.length c1] w fun e w' => e = .returned (.bool r) ∧ Below w.heap.size w w' := by
 have hu25 := Tryd.underlying25
 have hu44 := Tryd.underlying44
 have HR0_0 := Aside0.mk hr0_0
 have HC0_0 := Aside0.mk hc0_0
 clear hr0_0 hc0_0
 have HR0_1 := Aside0.mk hr0_1
 have HC0_1 := Aside0.mk hc0_1
 clear hr0_1 hc0_1
 have HR1 := Aside0.mk hr1
 have HC1 := Aside0.mk hc1
 clear hr1 hc1
 have HB := Aside0.mk (Below.refl w.heap.size w)
 have H : (optimaref3_Keeps.l0 k l1 0 l0_0 l0_1) = some r := h
 clear h
 have H' := Aside0.mk H
 clear H
 go_enter Tryd.func11, Tryd.ntmps11
 go_wp2_with (((with_reducible refine gate_dst (N := 2) rfl ?_); refine box_event ?hg (N := 2) ?hd (cs := #[.slice A0_0 l0_0.length c0_0, .slice A0_1 l0_1.length c0_1]) (t := 25) ?hr ?_; (case hd => rfl); (case hg => rfl); (case hr => (go_simp; done)); intro gb353 hg w3 hbox hb; have n0_ := Aside0.mk (below_step (by exact HB.out) hb); have n1_ := Aside0.mk (hbox); have n2_ := Aside0.mk ((by rw [hg]; exact (below_size (by exact HB.out)) : w.heap.size ≤ gb353)); have n3_ := Aside0.mk ((by rw [hg]; exact (below_size (by exact HB.out)) : w.heap.size ≤ gb353)); clear HB; have HB := n0_; have BK353 := n1_; have GW353 := n2_; have GE353 := n3_; clear n0_ n1_ n2_ n3_; clear hb hbox hg))
 repeat (go_quiet (fail); try go_wp2_with (fail))
 go_loopg [5] k (fun kq v5 w' => ∃ (x5_1 : Int), v5 = .int .i64 x5_1 ∧ Aside0 (optimaref3_Keeps.l0 kq l1 x5_1 l0_0 l0_1 = some r) ∧ Aside0 (kq ≤ k) ∧ Aside0 (w'.heap[gb353]? = some (.cells #[(.slice A0_0 l0_0.length c0_0), (.slice A0_1 l0_1.length c0_1)] 25 (0, 0))) ∧ Aside0 (Below w.heap.size w w'))
 case atStart => exact ⟨(0), (by rfl), H', ⟨Nat.le_refl _⟩, ⟨by exact BK353.out⟩, ⟨by exact HB.out⟩⟩
 clear H'
 try clear c1
 try clear p2
 obtain ⟨x5_1, rfl, HA, HK1, BK353, HB⟩ := hrel
 rcases gk with _ | k1
 ·exact absurd HA.out (by simp [optimaref3_Keeps.l0])
 have H := HA.out
 clear HA
 simp only [optimaref3_Keeps.l0] at H
 by_cases c4 : x5_1 < (l1.length : Int)
 ·rw [if_pos c4] at H
  have c4b0 : decide (x5_1 < (l1.length : Int)) = true := decide_eq_true c4
  clear c4
  by_cases c5 : 0 ≤ x5_1
  ·rw [if_pos c5] at H
   have c5b0 : decide (0 ≤ x5_1) = true := decide_eq_true c5
   clear c5
   by_cases c6 : x5_1 < (l0_0.length : Int)
   ·rw [if_pos c6] at H
    have c6b0 : decide (x5_1 < (l0_0.length : Int)) = true := decide_eq_true c6
    clear c6
    replace H := Option.bind_eq_some_iff.mp H
    obtain ⟨t356, A70, H⟩ := H
    replace H : (if t356 = true then (optimaref3_Keeps.l0 k1 l1 (wrap64 (x5_1 + 1)) l0_0 l0_1) else (some false)) = some r := H
    have A7 := Aside0.mk A70
    clear A70
    by_cases c8 : t356 = true
    ·subst c8
     have H1 : (optimaref3_Keeps.l0 k1 l1 (wrap64 (x5_1 + 1)) l0_0 l0_1) = some r := by rw [if_pos rfl] at H; exact H
     clear H
     have H := H1
     clear H1
     have H' := Aside0.mk H
     clear H
     have hcz9_0 : wr.cell? ⟨gb353, 0, none⟩ = some (.slice A0_0 l0_0.length c0_0) := (blk_cell BK353.out 0).trans rfl
     have hcz9_1 : wr.cell? ⟨gb353, 1, none⟩ = some (.slice A0_1 l0_1.length c0_1) := (blk_cell BK353.out 1).trans rfl
     have hfz9_0 := blk_frozen BK353.out 0
     have hfz9_1 := blk_frozen BK353.out 1
     have p354 : 0 ≤ (x5_1 : Int) := of_decide_eq_true (by (with_reducible assumption))
     have q354 : x5_1 < (l0_0.length : Int) := of_decide_eq_true (by (with_reducible assumption))
     obtain ⟨ad354, A354_0, c354_0, e354, hx354_0, hl354_0, hi354_0⟩ := at_L1 HR0_0.out x5_1 p354 q354
     cases e354
     replace hx354_0 := (HB.out.cell (World.block_lt_of_cell? w _ hx354_0)).trans hx354_0
     have HR354_0 := Aside0.mk hi354_0
     have HC354_0 := Aside0.mk hl354_0
     clear hi354_0 hl354_0
     replace p354 := eq_true p354
     replace q354 := eq_true q354
     have p355 : 0 ≤ (x5_1 : Int) := of_decide_eq_true (by (with_reducible assumption))
     have q355 : x5_1 < (l1.length : Int) := of_decide_eq_true (by (with_reducible assumption))
     obtain ⟨ad355, e355, hx355_0⟩ := Kd.at_int HR1.out x5_1 p355 q355
     cases e355
     replace hx355_0 := (HB.out.cell (World.block_lt_of_cell? w _ hx355_0)).trans hx355_0
     replace p355 := eq_true p355
     replace q355 := eq_true q355
     go_wp2_with (fail)
     repeat (go_quiet ((go_at_call 21; (with_reducible refine (optimaref3_in.calls k1 _ _ (rd_L1 l0_0 x5_1) (rd l1 x5_1) true _ ?side1 ?side2 A7.out).mono ?_); (case side1 => repeat (first | exact (Kd.C_below HR354_0.out HB.out) | (with_reducible refine Kd.C_drewN ?_ _))); (case side2 => exact HC354_0.out); rintro e w' ⟨rfl, ⟨nd, rfl⟩⟩; (try exact ⟨rfl, _, World.drewN_drewN _ _ _⟩))); try go_wp2_with (fail))
     go_roundg k1
     case measure => have := HK1.out; omega
     case rel => exact ⟨(wrap64 (x5_1 + 1)), (by rfl), H', ⟨by have := HK1.out; omega⟩, ⟨by (with_reducible repeat (refine blk_drewN ?_ _)); exact BK353.out⟩, ⟨by repeat ((with_reducible first | exact HB.out | apply pw_below_drewN))⟩⟩
    replace c8 := Bool.eq_false_iff.mpr c8
    subst c8
    have H1 : (some false) = some r := by rw [if_neg (show ¬ (false = true) by decide)] at H; exact H
    clear H
    have H := H1
    clear H1
    obtain rfl := Option.some.inj H
    have hcz10_0 : wr.cell? ⟨gb353, 0, none⟩ = some (.slice A0_0 l0_0.length c0_0) := (blk_cell BK353.out 0).trans rfl
    have hcz10_1 : wr.cell? ⟨gb353, 1, none⟩ = some (.slice A0_1 l0_1.length c0_1) := (blk_cell BK353.out 1).trans rfl
    have hfz10_0 := blk_frozen BK353.out 0
    have hfz10_1 := blk_frozen BK353.out 1
    have p354 : 0 ≤ (x5_1 : Int) := of_decide_eq_true (by (with_reducible assumption))
    have q354 : x5_1 < (l0_0.length : Int) := of_decide_eq_true (by (with_reducible assumption))
    obtain ⟨ad354, A354_0, c354_0, e354, hx354_0, hl354_0, hi354_0⟩ := at_L1 HR0_0.out x5_1 p354 q354
    cases e354
    replace hx354_0 := (HB.out.cell (World.block_lt_of_cell? w _ hx354_0)).trans hx354_0
    have HR354_0 := Aside0.mk hi354_0
    have HC354_0 := Aside0.mk hl354_0
    clear hi354_0 hl354_0
    replace p354 := eq_true p354
    replace q354 := eq_true q354
    have p355 : 0 ≤ (x5_1 : Int) := of_decide_eq_true (by (with_reducible assumption))
    have q355 : x5_1 < (l1.length : Int) := of_decide_eq_true (by (with_reducible assumption))
    obtain ⟨ad355, e355, hx355_0⟩ := Kd.at_int HR1.out x5_1 p355 q355
    cases e355
    replace hx355_0 := (HB.out.cell (World.block_lt_of_cell? w _ hx355_0)).trans hx355_0
    replace p355 := eq_true p355
    replace q355 := eq_true q355
    go_wp2_with (fail)
    repeat (go_quiet ((go_at_call 21; (with_reducible refine (optimaref3_in.calls k1 _ _ (rd_L1 l0_0 x5_1) (rd l1 x5_1) false _ ?side1 ?side2 A7.out).mono ?_); (case side1 => repeat (first | exact (Kd.C_below HR354_0.out HB.out) | (with_reducible refine Kd.C_drewN ?_ _))); (case side2 => exact HC354_0.out); rintro e w' ⟨rfl, ⟨nd, rfl⟩⟩; (try exact ⟨rfl, _, World.drewN_drewN _ _ _⟩))); try go_wp2_with (fail))
    go_ret
    exact ⟨by rfl, by repeat ((with_reducible first | exact HB.out | apply pw_below_drewN))⟩
   rw [if_neg c6] at H
   exact absurd H (by simp)
  rw [if_neg c5] at H
  exact absurd H (by simp)
 rw [if_neg c4] at H
 have c4b0 : decide (x5_1 < (l1.length : Int)) = false := decide_eq_false c4
 clear c4
 have H' := Aside0.mk H
 clear H
 go_wp2
 repeat (go_quiet (fail); try go_wp2)
 go_loopg [7] k1 (fun kq v7 w' => ∃ (x7_2 : Int), v7 = .int .i64 x7_2 ∧ Aside0 (optimaref3_Keeps.l1 kq l1 x7_2 l0_0 l0_1 = some r) ∧ Aside0 (kq ≤ k1) ∧ Aside0 (w'.heap[gb353]? = some (.cells #[(.slice A0_0 l0_0.length c0_0), (.slice A0_1 l0_1.length c0_1)] 25 (0, 0))) ∧ Aside0 (Below w.heap.size w w'))
 case atStart => exact ⟨(0), (by rfl), H', ⟨Nat.le_refl _⟩, ⟨by exact BK353.out⟩, ⟨by exact HB.out⟩⟩
 clear H'
 try clear c1
 try clear p2
 try clear c3
 try clear p3
 try clear q3
 try clear hx3
 try clear c4
 try clear c4b0
 try clear c5
 try clear c5b0
 try clear c6
 try clear c6b0
 try clear p6
 try clear c8
 try clear hcz10_0
 try clear hcz10_1
 try clear hcz9_0
 try clear hcz9_1
 try clear hfz10_0
 try clear hfz10_1
 try clear hfz9_0
 try clear hfz9_1
 try clear hx354_0
 try clear hx355_0
 try clear p2
 try clear p354
 try clear p355
 try clear q354
 try clear q355
 obtain ⟨x7_2, rfl, HA, HK2, BK353, HB⟩ := hrel
 rcases gk with _ | k2
 ·exact absurd HA.out (by simp [optimaref3_Keeps.l1])
 have H := HA.out
 clear HA
 simp only [optimaref3_Keeps.l1] at H
 by_cases c11 : x7_2 < (l0_1.length : Int)
 ·rw [if_pos c11] at H
  have c11b0 : decide (x7_2 < (l0_1.length : Int)) = true := decide_eq_true c11
  clear c11
  have H' := Aside0.mk H
  clear H
  have hcz12_0 : wr.cell? ⟨gb353, 0, none⟩ = some (.slice A0_0 l0_0.length c0_0) := (blk_cell BK353.out 0).trans rfl
  have hcz12_1 : wr.cell? ⟨gb353, 1, none⟩ = some (.slice A0_1 l0_1.length c0_1) := (blk_cell BK353.out 1).trans rfl
  have hfz12_0 := blk_frozen BK353.out 0
  have hfz12_1 := blk_frozen BK353.out 1
  go_wp2
  repeat (go_quiet (fail); try go_wp2)
  go_loopg [8, 9] k2 (fun kq v8 v9 w' => ∃ (x8_3 : List Int) (x9_3 : Int), v9 = .int .i64 x9_3 ∧ Aside0 (optimaref3_Keeps.l2 kq l1 x7_2 x8_3 x9_3 l0_0 l0_1 = some r) ∧ Aside0 (kq ≤ k2) ∧ Aside0 (Kd.R (Kd.int .i64) 3 w' w.heap.size (fun _ => True) v8 x8_3) ∧ Aside0 (w'.heap[gb353]? = some (.cells #[(.slice A0_0 l0_0.length c0_0), (.slice A0_1 l0_1.length c0_1)] 25 (0, 0))) ∧ Aside0 (Below w.heap.size w w'))
  case atStart => exact ⟨(([] : List Int)), (0), (by rfl), H', ⟨Nat.le_refl _⟩, ⟨by exact Kd.R_nil _ _ _ _ _⟩, ⟨by exact BK353.out⟩, ⟨by exact HB.out⟩⟩
  clear H'
  try clear c1
  try clear p2
  try clear c3
  try clear p3
  try clear q3
  try clear hx3
  try clear c4
  try clear c4b0
  try clear c5
  try clear c5b0
  try clear c6
  try clear c6b0
  try clear p6
  try clear c8
  try clear c11
  try clear c11b0
  try clear hcz10_0
  try clear hcz10_1
  try clear hcz12_0
  try clear hcz12_1
  try clear hcz9_0
  try clear hcz9_1
  try clear hfz10_0
  try clear hfz10_1
  try clear hfz12_0
  try clear hfz12_1
  try clear hfz9_0
  try clear hfz9_1
  try clear hx354_0
  try clear hx355_0
  try clear p2
  try clear p3
  try clear p354
  try clear p355
  try clear p6
  try clear q3
  try clear q354
  try clear q355
  obtain ⟨x8_3, x9_3, rfl, HA, HK3, HO_8, BK353, HB⟩ := hrel
  rcases gk with _ | k3
  ·exact absurd HA.out (by simp [optimaref3_Keeps.l2])
  have H := HA.out
  clear HA
  simp only [optimaref3_Keeps.l2] at H
  by_cases c13 : 0 ≤ x7_2
  ·rw [if_pos c13] at H
   have c13b0 : decide (0 ≤ x7_2) = true := decide_eq_true c13
   clear c13
   by_cases c14 : x7_2 < (l0_1.length : Int)
   ·rw [if_pos c14] at H
    have c14b0 : decide (x7_2 < (l0_1.length : Int)) = true := decide_eq_true c14
    clear c14
    by_cases c15 : x9_3 < (((rd_T44 l0_1 x7_2).f1).length : Int)
    ·rw [if_pos c15] at H
     have c15b0 : decide (x9_3 < (((rd_T44 l0_1 x7_2).f1).length : Int)) = true := decide_eq_true c15
     clear c15
     by_cases c16 : 0 ≤ x9_3
     ·rw [if_pos c16] at H
      have c16b0 : decide (0 ≤ x9_3) = true := decide_eq_true c16
      clear c16
      by_cases c17 : 0 ≤ (rd ((rd_T44 l0_1 x7_2).f1) x9_3)
      ·rw [if_pos c17] at H
       have c17b0 : decide (0 ≤ (rd ((rd_T44 l0_1 x7_2).f1) x9_3)) = true := decide_eq_true c17
       clear c17
       by_cases c18 : (rd ((rd_T44 l0_1 x7_2).f1) x9_3) < (l1.length : Int)
       ·rw [if_pos c18] at H
        have c18b0 : decide ((rd ((rd_T44 l0_1 x7_2).f1) x9_3) < (l1.length : Int)) = true := decide_eq_true c18
        clear c18
        by_cases c19 : x8_3.length < 17592186044416
        ·rw [if_pos c19] at H
         have LMc19 := Aside0.mk c19
         clear c19
         obtain ⟨y361, hy361⟩ : ∃ y_ : List Int, y_ = (x8_3 ++ [rd l1 (rd ((rd_T44 l0_1 x7_2).f1) x9_3)]) := ⟨_, rfl⟩
         replace H : (optimaref3_Keeps.l2 k3 l1 x7_2 y361 (wrap64 (x9_3 + 1)) l0_0 l0_1) = some r := by (rw [hy361]; with_reducible exact H)
         have Ny361 := Aside0.mk hy361
         clear hy361
         have H' := Aside0.mk H
         clear H
         have hcz20_0 : wr.cell? ⟨gb353, 0, none⟩ = some (.slice A0_0 l0_0.length c0_0) := (blk_cell BK353.out 0).trans rfl
         have hcz20_1 : wr.cell? ⟨gb353, 1, none⟩ = some (.slice A0_1 l0_1.length c0_1) := (blk_cell BK353.out 1).trans rfl
         have hfz20_0 := blk_frozen BK353.out 0
         have hfz20_1 := blk_frozen BK353.out 1
         have p357 : 0 ≤ (x7_2 : Int) := of_decide_eq_true (by (with_reducible assumption))
         have q357 : x7_2 < (l0_1.length : Int) := of_decide_eq_true (by (with_reducible assumption))
         obtain ⟨ad357, A357_1, c357_1, A357_2, c357_2, A357_3, c357_3, A357_5, c357_5, e357, hx357_0, hx357_1, hx357_2, hx357_3, hx357_4, hx357_5, hl357_1, hi357_1, hl357_2, hi357_2, hl357_3, hi357_3, hl357_5, hi357_5⟩ := at_T44 HR0_1.out x7_2 p357 q357
         cases e357
         replace hx357_0 := (HB.out.cell (World.block_lt_of_cell? w _ hx357_0)).trans hx357_0
         replace hx357_1 := (HB.out.cell (World.block_lt_of_cell? w _ hx357_1)).trans hx357_1
         replace hx357_2 := (HB.out.cell (World.block_lt_of_cell? w _ hx357_2)).trans hx357_2
         replace hx357_3 := (HB.out.cell (World.block_lt_of_cell? w _ hx357_3)).trans hx357_3
         replace hx357_4 := (HB.out.cell (World.block_lt_of_cell? w _ hx357_4)).trans hx357_4
         replace hx357_5 := (HB.out.cell (World.block_lt_of_cell? w _ hx357_5)).trans hx357_5
         have HR357_1 := Aside0.mk hi357_1
         have HC357_1 := Aside0.mk hl357_1
         clear hi357_1 hl357_1
         have HR357_2 := Aside0.mk hi357_2
         have HC357_2 := Aside0.mk hl357_2
         clear hi357_2 hl357_2
         have HR357_3 := Aside0.mk hi357_3
         have HC357_3 := Aside0.mk hl357_3
         clear hi357_3 hl357_3
         have HR357_5 := Aside0.mk hi357_5
         have HC357_5 := Aside0.mk hl357_5
         clear hi357_5 hl357_5
         replace p357 := eq_true p357
         replace q357 := eq_true q357
         have p358 : 0 ≤ (x7_2 : Int) := of_decide_eq_true (by (with_reducible assumption))
         have q358 : x7_2 < (l0_1.length : Int) := of_decide_eq_true (by (with_reducible assumption))
         obtain ⟨ad358, A358_1, c358_1, A358_2, c358_2, A358_3, c358_3, A358_5, c358_5, e358, hx358_0, hx358_1, hx358_2, hx358_3, hx358_4, hx358_5, hl358_1, hi358_1, hl358_2, hi358_2, hl358_3, hi358_3, hl358_5, hi358_5⟩ := at_T44 HR0_1.out x7_2 p358 q358
         obtain rfl : ad357 = ad358 := (by injection e358)
         replace hx358_0 := (HB.out.cell (World.block_lt_of_cell? w _ hx358_0)).trans hx358_0
         replace hx358_1 := (HB.out.cell (World.block_lt_of_cell? w _ hx358_1)).trans hx358_1
         replace hx358_2 := (HB.out.cell (World.block_lt_of_cell? w _ hx358_2)).trans hx358_2
         replace hx358_3 := (HB.out.cell (World.block_lt_of_cell? w _ hx358_3)).trans hx358_3
         replace hx358_4 := (HB.out.cell (World.block_lt_of_cell? w _ hx358_4)).trans hx358_4
         replace hx358_5 := (HB.out.cell (World.block_lt_of_cell? w _ hx358_5)).trans hx358_5
         have HR358_1 := Aside0.mk hi358_1
         have HC358_1 := Aside0.mk hl358_1
         clear hi358_1 hl358_1
         have HR358_2 := Aside0.mk hi358_2
         have HC358_2 := Aside0.mk hl358_2
         clear hi358_2 hl358_2
         have HR358_3 := Aside0.mk hi358_3
         have HC358_3 := Aside0.mk hl358_3
         clear hi358_3 hl358_3
         have HR358_5 := Aside0.mk hi358_5
         have HC358_5 := Aside0.mk hl358_5
         clear hi358_5 hl358_5
         replace p358 := eq_true p358
         replace q358 := eq_true q358
         have ea_ := Option.some.inj (hx357_1.symm.trans hx358_1)
         injection ea_ with ea_ en_ ec_
         subst ea_
         subst ec_
         clear en_
         have ea_ := Option.some.inj (hx357_2.symm.trans hx358_2)
         injection ea_ with ea_ en_ ec_
         subst ea_
         subst ec_
         clear en_
         have ea_ := Option.some.inj (hx357_3.symm.trans hx358_3)
         injection ea_ with ea_ en_ ec_
         subst ea_
         subst ec_
         clear en_
         have ea_ := Option.some.inj (hx357_5.symm.trans hx358_5)
         injection ea_ with ea_ en_ ec_
         subst ea_
         subst ec_
         clear en_
         have p359 : 0 ≤ (x9_3 : Int) := of_decide_eq_true (by (with_reducible assumption))
         have q359 : x9_3 < (((rd_T44 l0_1 x7_2).f1).length : Int) := of_decide_eq_true (by (with_reducible assumption))
         obtain ⟨ad359, e359, hx359_0⟩ := Kd.at_int HR358_1.out x9_3 p359 q359
         cases e359
         replace hx359_0 := (HB.out.cell (World.block_lt_of_cell? w _ hx359_0)).trans hx359_0
         replace p359 := eq_true p359
         replace q359 := eq_true q359
         have p360 : 0 ≤ ((rd ((rd_T44 l0_1 x7_2).f1) x9_3) : Int) := of_decide_eq_true (by (with_reducible assumption))
         have q360 : (rd ((rd_T44 l0_1 x7_2).f1) x9_3) < (l1.length : Int) := of_decide_eq_true (by (with_reducible assumption))
         obtain ⟨ad360, e360, hx360_0⟩ := Kd.at_int HR1.out (rd ((rd_T44 l0_1 x7_2).f1) x9_3) p360 q360
         cases e360
         replace hx360_0 := (HB.out.cell (World.block_lt_of_cell? w _ hx360_0)).trans hx360_0
         replace p360 := eq_true p360
         replace q360 := eq_true q360
         go_wp2_with (((with_reducible refine gate_builtin (b := .append) (xs := #[.tmp 47, .tmp 60]) rfl ?_); at_builtin; refine Kd.R_append (Kd.int .i64) (w0 := w) w.heap.size rfl (.tmp 47) (.tmp 60) 26 3 (.int .i64 0) 8 rfl Tryd.underlying26 info3 rfl (by decide) (by omega) u8 x8_3 (rd l1 (rd ((rd_T44 l0_1 x7_2).f1) x9_3)) [.int .i64 (rd l1 (rd ((rd_T44 l0_1 x7_2).f1) x9_3))] (fun _ => True) (fun _ => False) rfl rfl ?aP (fun _ hk => hk.elim) ?aF ?aO ?aB ?aS ?aL ?_; (case aP => exact rfl); (case aB => exact (by exact HB.out)); (case aF => exact (fun _ _ => trivial)); (case aO => exact (by exact HO_8.out)); (case aS => exact (below_size (by exact HB.out))); (case aL => have := LMc19.out; omega); intro v362 w21 ho hb hg hat; rw [← Ny361.out] at ho; have n0_ := Aside0.mk (blk_grown (g := gb353) (o := .cells #[.slice A0_0 l0_0.length c0_0, .slice (some ad357) l0_1.length c0_1] 25 (0, 0)) (by exact BK353.out) hg (Kd.R_ne HO_8.out BK353.out (by decide))); have n1_ := Aside0.mk (hb); have n2_ := Aside0.mk (ho); clear BK353; clear HB; clear HO_8; have BK353 := n0_; have HB := n1_; have HO363 := n2_; clear n0_ n1_ n2_; clear ho hb hg hat))
         repeat (go_quiet (fail); try go_wp2_with (fail))
         go_roundg k3
         case measure => have := HK1.out; have := HK2.out; have := HK3.out; omega
         case rel => exact ⟨(y361), (wrap64 (x9_3 + 1)), (by rfl), H', ⟨by have := HK1.out; have := HK2.out; have := HK3.out; omega⟩, ⟨by exact HO363.out⟩, ⟨by exact BK353.out⟩, ⟨by exact HB.out⟩⟩
        rw [if_neg c19] at H
        exact absurd H (by simp)
       rw [if_neg c18] at H
       exact absurd H (by simp)
      rw [if_neg c17] at H
      exact absurd H (by simp)
     rw [if_neg c16] at H
     exact absurd H (by simp)
    rw [if_neg c15] at H
    have c15b0 : decide (x9_3 < (((rd_T44 l0_1 x7_2).f1).length : Int)) = false := decide_eq_false c15
    clear c15
    replace H := Option.bind_eq_some_iff.mp H
    obtain ⟨t365, A220, H⟩ := H
    replace H : (if t365 = true then (optimaref3_Keeps.l1 k3 l1 (wrap64 (x7_2 + 1)) l0_0 l0_1) else (some false)) = some r := H
    have A22 := Aside0.mk A220
    clear A220
    by_cases c23 : t365 = true
    ·subst c23
     have H1 : (optimaref3_Keeps.l1 k3 l1 (wrap64 (x7_2 + 1)) l0_0 l0_1) = some r := by rw [if_pos rfl] at H; exact H
     clear H
     have H := H1
     clear H1
     have H' := Aside0.mk H
     clear H
     have hcz24_0 : wr.cell? ⟨gb353, 0, none⟩ = some (.slice A0_0 l0_0.length c0_0) := (blk_cell BK353.out 0).trans rfl
     have hcz24_1 : wr.cell? ⟨gb353, 1, none⟩ = some (.slice A0_1 l0_1.length c0_1) := (blk_cell BK353.out 1).trans rfl
     have hfz24_0 := blk_frozen BK353.out 0
     have hfz24_1 := blk_frozen BK353.out 1
     have p357 : 0 ≤ (x7_2 : Int) := of_decide_eq_true (by (with_reducible assumption))
     have q357 : x7_2 < (l0_1.length : Int) := of_decide_eq_true (by (with_reducible assumption))
     obtain ⟨ad357, A357_1, c357_1, A357_2, c357_2, A357_3, c357_3, A357_5, c357_5, e357, hx357_0, hx357_1, hx357_2, hx357_3, hx357_4, hx357_5, hl357_1, hi357_1, hl357_2, hi357_2, hl357_3, hi357_3, hl357_5, hi357_5⟩ := at_T44 HR0_1.out x7_2 p357 q357
     cases e357
     replace hx357_0 := (HB.out.cell (World.block_lt_of_cell? w _ hx357_0)).trans hx357_0
     replace hx357_1 := (HB.out.cell (World.block_lt_of_cell? w _ hx357_1)).trans hx357_1
     replace hx357_2 := (HB.out.cell (World.block_lt_of_cell? w _ hx357_2)).trans hx357_2
     replace hx357_3 := (HB.out.cell (World.block_lt_of_cell? w _ hx357_3)).trans hx357_3
     replace hx357_4 := (HB.out.cell (World.block_lt_of_cell? w _ hx357_4)).trans hx357_4
     replace hx357_5 := (HB.out.cell (World.block_lt_of_cell? w _ hx357_5)).trans hx357_5
     have HR357_1 := Aside0.mk hi357_1
     have HC357_1 := Aside0.mk hl357_1
     clear hi357_1 hl357_1
     have HR357_2 := Aside0.mk hi357_2
     have HC357_2 := Aside0.mk hl357_2
     clear hi357_2 hl357_2
     have HR357_3 := Aside0.mk hi357_3
     have HC357_3 := Aside0.mk hl357_3
     clear hi357_3 hl357_3
     have HR357_5 := Aside0.mk hi357_5
     have HC357_5 := Aside0.mk hl357_5
     clear hi357_5 hl357_5
     replace p357 := eq_true p357
     replace q357 := eq_true q357
     have p364 : 0 ≤ (x7_2 : Int) := of_decide_eq_true (by (with_reducible assumption))
     have q364 : x7_2 < (l0_1.length : Int) := of_decide_eq_true (by (with_reducible assumption))
     obtain ⟨ad364, A364_1, c364_1, A364_2, c364_2, A364_3, c364_3, A364_5, c364_5, e364, hx364_0, hx364_1, hx364_2, hx364_3, hx364_4, hx364_5, hl364_1, hi364_1, hl364_2, hi364_2, hl364_3, hi364_3, hl364_5, hi364_5⟩ := at_T44 HR0_1.out x7_2 p364 q364
     obtain rfl : ad357 = ad364 := (by injection e364)
     replace hx364_0 := (HB.out.cell (World.block_lt_of_cell? w _ hx364_0)).trans hx364_0
     replace hx364_1 := (HB.out.cell (World.block_lt_of_cell? w _ hx364_1)).trans hx364_1
     replace hx364_2 := (HB.out.cell (World.block_lt_of_cell? w _ hx364_2)).trans hx364_2
     replace hx364_3 := (HB.out.cell (World.block_lt_of_cell? w _ hx364_3)).trans hx364_3
     replace hx364_4 := (HB.out.cell (World.block_lt_of_cell? w _ hx364_4)).trans hx364_4
     replace hx364_5 := (HB.out.cell (World.block_lt_of_cell? w _ hx364_5)).trans hx364_5
     have HR364_1 := Aside0.mk hi364_1
     have HC364_1 := Aside0.mk hl364_1
     clear hi364_1 hl364_1
     have HR364_2 := Aside0.mk hi364_2
     have HC364_2 := Aside0.mk hl364_2
     clear hi364_2 hl364_2
     have HR364_3 := Aside0.mk hi364_3
     have HC364_3 := Aside0.mk hl364_3
     clear hi364_3 hl364_3
     have HR364_5 := Aside0.mk hi364_5
     have HC364_5 := Aside0.mk hl364_5
     clear hi364_5 hl364_5
     replace p364 := eq_true p364
     replace q364 := eq_true q364
     have ea_ := Option.some.inj (hx357_1.symm.trans hx364_1)
     injection ea_ with ea_ en_ ec_
     subst ea_
     subst ec_
     clear en_
     have ea_ := Option.some.inj (hx357_2.symm.trans hx364_2)
     injection ea_ with ea_ en_ ec_
     subst ea_
     subst ec_
     clear en_
     have ea_ := Option.some.inj (hx357_3.symm.trans hx364_3)
     injection ea_ with ea_ en_ ec_
     subst ea_
     subst ec_
     clear en_
     have ea_ := Option.some.inj (hx357_5.symm.trans hx364_5)
     injection ea_ with ea_ en_ ec_
     subst ea_
     subst ec_
     clear en_
     obtain ⟨Ao25, co25, eo25⟩ := Kd.R_slice HO_8.out
     subst eo25
     go_wp2_with ((go_at_call 22; (with_reducible refine (optimaref3_kept.calls k3 ((rd_T44 l0_1 x7_2).f0) _ _ ((rd_T44 l0_1 x7_2).f1) _ _ ((rd_T44 l0_1 x7_2).f2) _ _ ((rd_T44 l0_1 x7_2).f3) ((rd_T44 l0_1 x7_2).f4) _ _ ((rd_T44 l0_1 x7_2).f5) _ _ x8_3 true _ ?side1 ?side2 ?side3 ?side4 ?side5 ?side6 ?side7 ?side8 ?side9 ?side10 A22.out).mono ?_); (case side1 => repeat (exact (Kd.C_below HR364_1.out HB.out))); (case side2 => exact HC364_1.out); (case side3 => repeat (exact (Kd.C_below HR364_2.out HB.out))); (case side4 => exact HC364_2.out); (case side5 => repeat (exact (Kd.C_below HR364_3.out HB.out))); (case side6 => exact HC364_3.out); (case side7 => repeat (exact (Kd.C_below HR364_5.out HB.out))); (case side8 => exact HC364_5.out); (case side9 => repeat (exact (Kd.R_reads' HO_8.out).2.2)); (case side10 => exact (Kd.R_reads' HO_8.out).2.1); rintro e w26 ⟨rfl, hb⟩; have n0_ := Aside0.mk (Kd.R_below (by exact HO_8.out) hb); have n1_ := Aside0.mk (blk_below (g := gb353) (o := .cells #[.slice A0_0 l0_0.length c0_0, .slice (some ad357) l0_1.length c0_1] 25 (0, 0)) (by exact BK353.out) hb); have n2_ := Aside0.mk (below_step (by exact HB.out) hb); clear HO_8; clear BK353; clear HB; have HO_8 := n0_; have BK353 := n1_; have HB := n2_; clear n0_ n1_ n2_; (try clear hb); (try clear hb2); (try clear hk); (try clear hi)))
     repeat (go_quiet (fail); try go_wp2_with (fail))
     go_roundg k3
     case measure => have := HK1.out; have := HK2.out; have := HK3.out; omega
     case rel => exact ⟨(wrap64 (x7_2 + 1)), (by rfl), H', ⟨by have := HK1.out; have := HK2.out; have := HK3.out; omega⟩, ⟨by exact BK353.out⟩, ⟨by exact HB.out⟩⟩
    replace c23 := Bool.eq_false_iff.mpr c23
    subst c23
    have H1 : (some false) = some r := by rw [if_neg (show ¬ (false = true) by decide)] at H; exact H
    clear H
    have H := H1
    clear H1
    obtain rfl := Option.some.inj H
    have hcz27_0 : wr.cell? ⟨gb353, 0, none⟩ = some (.slice A0_0 l0_0.length c0_0) := (blk_cell BK353.out 0).trans rfl
    have hcz27_1 : wr.cell? ⟨gb353, 1, none⟩ = some (.slice A0_1 l0_1.length c0_1) := (blk_cell BK353.out 1).trans rfl
    have hfz27_0 := blk_frozen BK353.out 0
    have hfz27_1 := blk_frozen BK353.out 1
    have p357 : 0 ≤ (x7_2 : Int) := of_decide_eq_true (by (with_reducible assumption))
    have q357 : x7_2 < (l0_1.length : Int) := of_decide_eq_true (by (with_reducible assumption))
    obtain ⟨ad357, A357_1, c357_1, A357_2, c357_2, A357_3, c357_3, A357_5, c357_5, e357, hx357_0, hx357_1, hx357_2, hx357_3, hx357_4, hx357_5, hl357_1, hi357_1, hl357_2, hi357_2, hl357_3, hi357_3, hl357_5, hi357_5⟩ := at_T44 HR0_1.out x7_2 p357 q357
    cases e357
    replace hx357_0 := (HB.out.cell (World.block_lt_of_cell? w _ hx357_0)).trans hx357_0
    replace hx357_1 := (HB.out.cell (World.block_lt_of_cell? w _ hx357_1)).trans hx357_1
    replace hx357_2 := (HB.out.cell (World.block_lt_of_cell? w _ hx357_2)).trans hx357_2
    replace hx357_3 := (HB.out.cell (World.block_lt_of_cell? w _ hx357_3)).trans hx357_3
    replace hx357_4 := (HB.out.cell (World.block_lt_of_cell? w _ hx357_4)).trans hx357_4
    replace hx357_5 := (HB.out.cell (World.block_lt_of_cell? w _ hx357_5)).trans hx357_5
    have HR357_1 := Aside0.mk hi357_1
    have HC357_1 := Aside0.mk hl357_1
    clear hi357_1 hl357_1
    have HR357_2 := Aside0.mk hi357_2
    have HC357_2 := Aside0.mk hl357_2
    clear hi357_2 hl357_2
    have HR357_3 := Aside0.mk hi357_3
    have HC357_3 := Aside0.mk hl357_3
    clear hi357_3 hl357_3
    have HR357_5 := Aside0.mk hi357_5
    have HC357_5 := Aside0.mk hl357_5
    clear hi357_5 hl357_5
    replace p357 := eq_true p357
    replace q357 := eq_true q357
    have p364 : 0 ≤ (x7_2 : Int) := of_decide_eq_true (by (with_reducible assumption))
    have q364 : x7_2 < (l0_1.length : Int) := of_decide_eq_true (by (with_reducible assumption))
    obtain ⟨ad364, A364_1, c364_1, A364_2, c364_2, A364_3, c364_3, A364_5, c364_5, e364, hx364_0, hx364_1, hx364_2, hx364_3, hx364_4, hx364_5, hl364_1, hi364_1, hl364_2, hi364_2, hl364_3, hi364_3, hl364_5, hi364_5⟩ := at_T44 HR0_1.out x7_2 p364 q364
    obtain rfl : ad357 = ad364 := (by injection e364)
    replace hx364_0 := (HB.out.cell (World.block_lt_of_cell? w _ hx364_0)).trans hx364_0
    replace hx364_1 := (HB.out.cell (World.block_lt_of_cell? w _ hx364_1)).trans hx364_1
    replace hx364_2 := (HB.out.cell (World.block_lt_of_cell? w _ hx364_2)).trans hx364_2
    replace hx364_3 := (HB.out.cell (World.block_lt_of_cell? w _ hx364_3)).trans hx364_3
    replace hx364_4 := (HB.out.cell (World.block_lt_of_cell? w _ hx364_4)).trans hx364_4
    replace hx364_5 := (HB.out.cell (World.block_lt_of_cell? w _ hx364_5)).trans hx364_5
    have HR364_1 := Aside0.mk hi364_1
    have HC364_1 := Aside0.mk hl364_1
    clear hi364_1 hl364_1
    have HR364_2 := Aside0.mk hi364_2
    have HC364_2 := Aside0.mk hl364_2
    clear hi364_2 hl364_2
    have HR364_3 := Aside0.mk hi364_3
    have HC364_3 := Aside0.mk hl364_3
    clear hi364_3 hl364_3
    have HR364_5 := Aside0.mk hi364_5
    have HC364_5 := Aside0.mk hl364_5
    clear hi364_5 hl364_5
    replace p364 := eq_true p364
    replace q364 := eq_true q364
    have ea_ := Option.some.inj (hx357_1.symm.trans hx364_1)
    injection ea_ with ea_ en_ ec_
    subst ea_
    subst ec_
    clear en_
    have ea_ := Option.some.inj (hx357_2.symm.trans hx364_2)
    injection ea_ with ea_ en_ ec_
    subst ea_
    subst ec_
    clear en_
    have ea_ := Option.some.inj (hx357_3.symm.trans hx364_3)
    injection ea_ with ea_ en_ ec_
    subst ea_
    subst ec_
    clear en_
    have ea_ := Option.some.inj (hx357_5.symm.trans hx364_5)
    injection ea_ with ea_ en_ ec_
    subst ea_
    subst ec_
    clear en_
    obtain ⟨Ao28, co28, eo28⟩ := Kd.R_slice HO_8.out
    subst eo28
    go_wp2_with ((go_at_call 22; (with_reducible refine (optimaref3_kept.calls k3 ((rd_T44 l0_1 x7_2).f0) _ _ ((rd_T44 l0_1 x7_2).f1) _ _ ((rd_T44 l0_1 x7_2).f2) _ _ ((rd_T44 l0_1 x7_2).f3) ((rd_T44 l0_1 x7_2).f4) _ _ ((rd_T44 l0_1 x7_2).f5) _ _ x8_3 false _ ?side1 ?side2 ?side3 ?side4 ?side5 ?side6 ?side7 ?side8 ?side9 ?side10 A22.out).mono ?_); (case side1 => repeat (exact (Kd.C_below HR364_1.out HB.out))); (case side2 => exact HC364_1.out); (case side3 => repeat (exact (Kd.C_below HR364_2.out HB.out))); (case side4 => exact HC364_2.out); (case side5 => repeat (exact (Kd.C_below HR364_3.out HB.out))); (case side6 => exact HC364_3.out); (case side7 => repeat (exact (Kd.C_below HR364_5.out HB.out))); (case side8 => exact HC364_5.out); (case side9 => repeat (exact (Kd.R_reads' HO_8.out).2.2)); (case side10 => exact (Kd.R_reads' HO_8.out).2.1); rintro e w29 ⟨rfl, hb⟩; have n0_ := Aside0.mk (Kd.R_below (by exact HO_8.out) hb); have n1_ := Aside0.mk (blk_below (g := gb353) (o := .cells #[.slice A0_0 l0_0.length c0_0, .slice (some ad357) l0_1.length c0_1] 25 (0, 0)) (by exact BK353.out) hb); have n2_ := Aside0.mk (below_step (by exact HB.out) hb); clear HO_8; clear BK353; clear HB; have HO_8 := n0_; have BK353 := n1_; have HB := n2_; clear n0_ n1_ n2_; (try clear hb); (try clear hb2); (try clear hk); (try clear hi)))
    repeat (go_quiet (fail); try go_wp2_with (fail))
    go_ret
    exact ⟨by rfl, by exact HB.out⟩
   rw [if_neg c14] at H
   exact absurd H (by simp)
  rw [if_neg c13] at H
  exact absurd H (by simp)
 rw [if_neg c11] at H
 have c11b0 : decide (x7_2 < (l0_1.length : Int)) = false := decide_eq_false c11
 clear c11
 obtain rfl := Option.some.inj H
 have hcz30_0 : wr.cell? ⟨gb353, 0, none⟩ = some (.slice A0_0 l0_0.length c0_0) := (blk_cell BK353.out 0).trans rfl
 have hcz30_1 : wr.cell? ⟨gb353, 1, none⟩ = some (.slice A0_1 l0_1.length c0_1) := (blk_cell BK353.out 1).trans rfl
 have hfz30_0 := blk_frozen BK353.out 0
 have hfz30_1 := blk_frozen BK353.out 1
 go_wp2
 repeat (go_quiet (fail); try go_wp2)
 go_ret
 exact ⟨by rfl, by exact HB.out⟩

end Go.Proofs.YtehekppkicjimaaDoor.QFK
