-- written by a program of mine (wip/tools/print2.py), which turns the kit's printer a little
import Derived.Test.YtehekppkicjimaaDoorSQFKx0
import Derived.Test.YtehekppkicjimaaDoorSQFKx19
import Derived.Test.YtehekppkicjimaaDoorSErr
namespace Go.Proofs.YtehekppkicjimaaDoor.QFK
open Go.RowKit Go.Proofs.YtehekppkicjimaaDoorW.PrintWords Go.Proofs.YtehekppkicjimaaDoorW.PrintLast Go.Proofs.YtehekppkicjimaaDoorW.PrintMore
attribute [local go_sem] max2_int min2_int max_two min_two max_three min_three max_four min_four
set_option linter.unusedVariables false
set_option linter.unusedSimpArgs false

attribute [local go_sem] Sent.alloc Sent.drew Sent.drewN Sent.c0 Sent.c1
/-! ### finite_Valid: function 9 -/
mutual
def finite_Valid.j0 : Nat → Bool → List (List Int) → List (S44) → Option (Option Int)
 | 0, _, _, _ => none
 | k + 1, x19, x127000, x127001 => if x19 = true then (some (some 1)) else (finite_Valid.l0 k x127000 (x127000.length : Int) 0 x127000 x127001)
def finite_Valid.l0 : Nat → List (List Int) → Int → Int → List (List Int) → List (S44) → Option (Option Int)
 | 0, _, _, _, _, _ => none
 | k + 1, x22, x23, x24, x127000, x127001 => if x24 < x23 then (if 0 ≤ x24 then (if x24 < (x22.length : Int) then (if ((rd_L1 x22 x24).length : Int) > 200 then (some (some 1)) else (finite_Valid.l1 k (rd_L1 x22 x24) x22 x23 x24 (rd_L1 x22 x24) ((rd_L1 x22 x24).length : Int) 0 x127000 x127001)) else (none)) else (none)) else (finite_Valid.l2 k x127001 (x127001.length : Int) 0 x127000 x127001)
def finite_Valid.l1 : Nat → List Int → List (List Int) → Int → Int → List Int → Int → Int → List (List Int) → List (S44) → Option (Option Int)
 | 0, _, _, _, _, _, _, _, _, _ => none
 | k + 1, x4, x22, x23, x24, x32, x33, x34, x127000, x127001 => if x34 < x33 then (if 0 ≤ x34 then (if x34 < (x32.length : Int) then (if (rd x32 x34) < (-100000000) then (finite_Valid.j3 k x4 x34 (rd x32 x34) x22 x23 x24 x32 x33 x34 true x127000 x127001) else (finite_Valid.j3 k x4 x34 (rd x32 x34) x22 x23 x24 x32 x33 x34 (decide ((rd x32 x34) > 100000000)) x127000 x127001)) else (none)) else (none)) else (finite_Valid.l0 k x22 x23 (wrap64 (x24 + 1)) x127000 x127001)
def finite_Valid.j3 : Nat → List Int → Int → Int → List (List Int) → Int → Int → List Int → Int → Int → Bool → List (List Int) → List (S44) → Option (Option Int)
 | 0, _, _, _, _, _, _, _, _, _, _, _, _ => none
 | k + 1, x4, x5, x6, x22, x23, x24, x32, x33, x34, x44, x127000, x127001 => if x44 = true then (some (some 1)) else (if x5 > 0 then (if 0 ≤ (wrap64 (x5 - 1)) then (if (wrap64 (x5 - 1)) < (x4.length : Int) then (if x6 ≤ (rd x4 (wrap64 (x5 - 1))) then (some (some 0)) else (finite_Valid.l1 k x4 x22 x23 x24 x32 x33 (wrap64 (x34 + 1)) x127000 x127001)) else (none)) else (none)) else (finite_Valid.l1 k x4 x22 x23 x24 x32 x33 (wrap64 (x34 + 1)) x127000 x127001))
def finite_Valid.l2 : Nat → List (S44) → Int → Int → List (List Int) → List (S44) → Option (Option Int)
 | 0, _, _, _, _, _ => none
 | k + 1, x61, x62, x63, x127000, x127001 => if x63 < x62 then (if 0 ≤ x63 then (if x63 < (x61.length : Int) then ((finite_valid.f k x127000 x127001 ((rd_T44 x61 x63).f0) ((rd_T44 x61 x63).f1) ((rd_T44 x61 x63).f2) ((rd_T44 x61 x63).f3) ((rd_T44 x61 x63).f4) ((rd_T44 x61 x63).f5)).bind fun t132 => (if t132.isNone = true then (finite_Valid.l2 k x61 x62 (wrap64 (x63 + 1)) x127000 x127001) else (some (some (t132.getD 0))))) else (none)) else (none)) else (some none)
end
def finite_Valid.f (k : Nat) (l0_0 : List (List Int)) (l0_1 : List (S44)) : Option (Option Int) := if (l0_0.length : Int) > 60 then (finite_Valid.j0 k true l0_0 l0_1) else (finite_Valid.j0 k (decide ((l0_1.length : Int) > 100)) l0_0 l0_1)
theorem finite_Valid.mono_l : ∀ k, (∀ y0 y1 y2, LeO (finite_Valid.j0 k y0 y1 y2) (finite_Valid.j0 (k + 1) y0 y1 y2)) ∧ (∀ y0 y1 y2 y3 y4, LeO (finite_Valid.l0 k y0 y1 y2 y3 y4) (finite_Valid.l0 (k + 1) y0 y1 y2 y3 y4)) ∧ (∀ y0 y1 y2 y3 y4 y5 y6 y7 y8, LeO (finite_Valid.l1 k y0 y1 y2 y3 y4 y5 y6 y7 y8) (finite_Valid.l1 (k + 1) y0 y1 y2 y3 y4 y5 y6 y7 y8)) ∧ (∀ y0 y1 y2 y3 y4 y5 y6 y7 y8 y9 y10 y11, LeO (finite_Valid.j3 k y0 y1 y2 y3 y4 y5 y6 y7 y8 y9 y10 y11) (finite_Valid.j3 (k + 1) y0 y1 y2 y3 y4 y5 y6 y7 y8 y9 y10 y11)) ∧ (∀ y0 y1 y2 y3 y4, LeO (finite_Valid.l2 k y0 y1 y2 y3 y4) (finite_Valid.l2 (k + 1) y0 y1 y2 y3 y4))
 | 0 => ⟨fun _ _ _ r h => by simp [finite_Valid.j0] at h, fun _ _ _ _ _ r h => by simp [finite_Valid.l0] at h, fun _ _ _ _ _ _ _ _ _ r h => by simp [finite_Valid.l1] at h, fun _ _ _ _ _ _ _ _ _ _ _ _ r h => by simp [finite_Valid.j3] at h, fun _ _ _ _ _ r h => by simp [finite_Valid.l2] at h⟩
 | k + 1 => by
  obtain ⟨ih0, ih1, ih2, ih3, ih4⟩ := finite_Valid.mono_l k
  refine ⟨?_, ?_, ?_, ?_, ?_⟩
  ·intro y0 y1 y2
   unfold finite_Valid.j0
   repeat' first | (with_reducible exact ih1 _ _ _ _ _) | (with_reducible exact LeO.refl _) | (with_reducible refine LeO.ite ?_ ?_)
  ·intro y0 y1 y2 y3 y4
   unfold finite_Valid.l0
   repeat' first | (with_reducible exact ih2 _ _ _ _ _ _ _ _ _) | (with_reducible exact ih4 _ _ _ _ _) | (with_reducible exact LeO.refl _) | (with_reducible refine LeO.ite ?_ ?_)
  ·intro y0 y1 y2 y3 y4 y5 y6 y7 y8
   unfold finite_Valid.l1
   repeat' first | (with_reducible exact ih1 _ _ _ _ _) | (with_reducible exact ih3 _ _ _ _ _ _ _ _ _ _ _ _) | (with_reducible exact LeO.refl _) | (with_reducible refine LeO.ite ?_ ?_)
  ·intro y0 y1 y2 y3 y4 y5 y6 y7 y8 y9 y10 y11
   unfold finite_Valid.j3
   repeat' first | (with_reducible exact ih2 _ _ _ _ _ _ _ _ _) | (with_reducible exact LeO.refl _) | (with_reducible refine LeO.ite ?_ ?_)
  intro y0 y1 y2 y3 y4
  unfold finite_Valid.l2
  repeat' first | (with_reducible exact ih4 _ _ _ _ _) | (with_reducible exact finite_valid.mono _ _ _ _ _ _ _ _ _) | (with_reducible exact LeO.refl _) | (with_reducible refine LeO.ite ?_ ?_) | (with_reducible refine LeO.bind ?_ (fun _ => ?_))
theorem finite_Valid.mono : ∀ a0 a1 k, LeO (finite_Valid.f k a0 a1) (finite_Valid.f (k + 1) a0 a1) := by
 intro a0 a1 k
 obtain ⟨ih0, ih1, ih2, ih3, ih4⟩ := finite_Valid.mono_l k
 unfold finite_Valid.f
 repeat' first | (with_reducible exact ih0 _ _ _) | (with_reducible refine LeO.ite ?_ ?_)
set_option maxHeartbeats 8000000 in
set_option maxRecDepth 100000 in
theorem finite_Valid.calls [Sn : Sents] (k : Nat) (A0_0 : Option Addr) (c0_0 : Nat) (l0_0 : List (List Int)) (A0_1 : Option Addr) (c0_1 : Nat) (l0_1 : List (S44)) (r : Option Int) (w : World) (hr0_0 : Kd.C (Kd.slice 3 (Kd.int .i64)) w A0_0 l0_0.length l0_0) (hc0_0 : l0_0.length ≤ c0_0) (hr0_1 : Kd.C k44 w A0_1 l0_1.length l0_1) (hc0_1 : l0_1.length ≤ c0_1) (h : finite_Valid.f k l0_0 l0_1 = some r) (hS : Sent w := by first | assumption | exact Sent.ofB hS HB | (refine Sent.below hS ?_; (repeat (first | exact HB.out | apply below_alloc | apply pw_below_drewN | apply below_drew | (refine below_set ?_ (Aside0.out (by assumption)))))) | (repeat (first | exact hS | apply Sent.alloc | apply Sent.drewN | apply Sent.drew))) :
 Calls Tryd.prog 9 #[.agg #[.slice A0_0 l0_0.length c0_0, .slice A0_1 l0_1.length c0_1]] w fun e w' => e = .returned (errW r) ∧ Below w.heap.size w w' := by
 have hu25 := Tryd.underlying25
 have hu44 := Tryd.underlying44
 have hu28 := Tryd.underlying28
 have HR0_0 := Aside0.mk hr0_0
 have HC0_0 := Aside0.mk hc0_0
 clear hr0_0 hc0_0
 have HR0_1 := Aside0.mk hr0_1
 have HC0_1 := Aside0.mk hc0_1
 clear hr0_1 hc0_1
 have HB := Aside0.mk (Below.refl w.heap.size w)
 have H : (if (l0_0.length : Int) > 60 then (finite_Valid.j0 k true l0_0 l0_1) else (finite_Valid.j0 k (decide ((l0_1.length : Int) > 100)) l0_0 l0_1)) = some r := h
 clear h
 have HC2 := Aside0.mk H
 clear H
 go_enter Tryd.func9, Tryd.ntmps9
 go_upto_region 1 with (((with_reducible refine gate_dst (N := 1) rfl ?_); (try (refine gate_guard (by rfl) ?_; dsimp only)); refine box_event ?hg (N := 1) ?hd (cs := #[.slice A0_0 l0_0.length c0_0, .slice A0_1 l0_1.length c0_1]) (t := 25) ?hr ?_; (case hd => rfl); (case hg => rfl); (case hr => (go_simp; done)); intro gb126 hg w3 hbox hb; have n0_ := Aside0.mk (below_step (by exact HB.out) hb); have n1_ := Aside0.mk (hbox); have n2_ := Aside0.mk ((by rw [hg]; exact (below_size (by exact HB.out)) : w.heap.size ≤ gb126)); have n3_ := Aside0.mk ((by rw [hg]; exact (below_size (by exact HB.out)) : w.heap.size ≤ gb126)); clear HB; have HB := n0_; have BK126 := n1_; have GW126 := n2_; have GE126 := n3_; clear n0_ n1_ n2_ n3_; clear hb hbox hg))
 (try simp only [Act.put, List.setIfInBounds_toArray, List.set_cons_zero, List.set_cons_succ])
 go_cut [19] (fun v19 wc => ∃ (kq : Nat) (x19_1 : Bool), v19 = .bool x19_1 ∧ Aside0 (finite_Valid.j0 kq x19_1 l0_0 l0_1 = some r) ∧ Aside0 (kq ≤ k) ∧ Aside0 (wc.heap[gb126]? = some (.cells #[(.slice A0_0 l0_0.length c0_0), (.slice A0_1 l0_1.length c0_1)] 25 (0, 0))) ∧ Aside0 (Below w.heap.size w wc))
 case first =>
  have H := HC2.out
  clear HC2
  by_cases c4 : (l0_0.length : Int) > 60
  ·rw [if_pos c4] at H
   have c4b0 : decide (60 < (l0_0.length : Int)) = true := decide_eq_true c4
   have c4b1 : decide (60 < l0_0.length) = true := decide_eq_true (by omega)
   clear c4
   (skip)
   have H' := Aside0.mk H
   clear H
   have hcz5_0 : w3.cell? ⟨gb126, 0, none⟩ = some (.slice A0_0 l0_0.length c0_0) := (blk_cell BK126.out 0).trans rfl
   have hcz5_1 : w3.cell? ⟨gb126, 1, none⟩ = some (.slice A0_1 l0_1.length c0_1) := (blk_cell BK126.out 1).trans rfl
   have hfz5_0 := blk_frozen BK126.out 0
   have hfz5_1 := blk_frozen BK126.out 1
   (try clear hSr)
   (try have hSr := Sent.ofB hS HB)
   go_wp2
   go_meet
   case rel => exact ⟨_, (true), (by rfl), H', ⟨by omega⟩, ⟨by exact BK126.out⟩, ⟨by exact HB.out⟩⟩
  rw [if_neg c4] at H
  have c4b0 : decide (60 < (l0_0.length : Int)) = false := decide_eq_false c4
  have c4b1 : decide (60 < l0_0.length) = false := decide_eq_false (by omega)
  clear c4
  (skip)
  have H' := Aside0.mk H
  clear H
  have hcz6_0 : w3.cell? ⟨gb126, 0, none⟩ = some (.slice A0_0 l0_0.length c0_0) := (blk_cell BK126.out 0).trans rfl
  have hcz6_1 : w3.cell? ⟨gb126, 1, none⟩ = some (.slice A0_1 l0_1.length c0_1) := (blk_cell BK126.out 1).trans rfl
  have hfz6_0 := blk_frozen BK126.out 0
  have hfz6_1 := blk_frozen BK126.out 1
  (try clear hSr)
  (try have hSr := Sent.ofB hS HB)
  go_wp2
  go_meet
  case rel => exact ⟨_, (decide ((l0_1.length : Int) > 100)), (by rfl), H', ⟨by omega⟩, ⟨by exact BK126.out⟩, ⟨by exact HB.out⟩⟩
 clear HC2
 try clear p2
 try clear c4
 try clear c4b0
 try clear c4b1
 try clear hcz5_0
 try clear hcz5_1
 try clear hcz6_0
 try clear hcz6_1
 try clear hfz5_0
 try clear hfz5_1
 try clear hfz6_0
 try clear hfz6_1
 obtain ⟨kq, x19_1, rfl, HA, HJ1, BK126, HB⟩ := hcut
 rcases kq with _ | kj1
 ·exact absurd HA.out (by simp [finite_Valid.j0])
 have H := HA.out
 clear HA
 simp only [finite_Valid.j0] at H
 by_cases c7 : x19_1 = true
 ·subst c7
  have H1 : (some (some 1)) = some r := by rw [if_pos rfl] at H; exact H
  clear H
  have H := H1
  clear H1
  obtain rfl := Option.some.inj H
  (try clear hSr)
  (try have hSr := Sent.ofB hS HB)
  go_wp2
  go_ret
  exact ⟨by rfl, by exact HB.out⟩
 replace c7 := Bool.eq_false_iff.mpr c7
 subst c7
 have H1 : (finite_Valid.l0 kj1 l0_0 (l0_0.length : Int) 0 l0_0 l0_1) = some r := by rw [if_neg (show ¬ (false = true) by decide)] at H; exact H
 clear H
 have H := H1
 clear H1
 have H' := Aside0.mk H
 clear H
 have hcz8_0 : wc.cell? ⟨gb126, 0, none⟩ = some (.slice A0_0 l0_0.length c0_0) := (blk_cell BK126.out 0).trans rfl
 have hcz8_1 : wc.cell? ⟨gb126, 1, none⟩ = some (.slice A0_1 l0_1.length c0_1) := (blk_cell BK126.out 1).trans rfl
 have hfz8_0 := blk_frozen BK126.out 0
 have hfz8_1 := blk_frozen BK126.out 1
 (try clear hSr)
 (try have hSr := Sent.ofB hS HB)
 go_wp2
 go_loopg [24] kj1 (fun kq v24 w' => ∃ (x24_2 : Int), v24 = .int .i64 x24_2 ∧ Aside0 (finite_Valid.l0 kq l0_0 (l0_0.length : Int) x24_2 l0_0 l0_1 = some r) ∧ Aside0 (kq ≤ kj1) ∧ Aside0 (w'.heap[gb126]? = some (.cells #[(.slice A0_0 l0_0.length c0_0), (.slice A0_1 l0_1.length c0_1)] 25 (0, 0))) ∧ Aside0 (Below w.heap.size w w'))
 case atStart => exact ⟨(0), (by rfl), H', ⟨Nat.le_refl _⟩, ⟨by exact BK126.out⟩, ⟨by exact HB.out⟩⟩
 clear H'
 try clear p2
 try clear c4
 try clear c4b0
 try clear c4b1
 try clear c7
 try clear hcz5_0
 try clear hcz5_1
 try clear hcz6_0
 try clear hcz6_1
 try clear hcz8_0
 try clear hcz8_1
 try clear hfz5_0
 try clear hfz5_1
 try clear hfz6_0
 try clear hfz6_1
 try clear hfz8_0
 try clear hfz8_1
 try clear p2
 obtain ⟨x24_2, rfl, HA, HK2, BK126, HB⟩ := hrel
 rcases gk with _ | k2
 ·exact absurd HA.out (by simp [finite_Valid.l0])
 have H := HA.out
 clear HA
 simp only [finite_Valid.l0] at H
 by_cases c9 : x24_2 < (l0_0.length : Int)
 ·rw [if_pos c9] at H
  have c9b0 : decide (x24_2 < (l0_0.length : Int)) = true := decide_eq_true c9
  clear c9
  by_cases c10 : 0 ≤ x24_2
  ·rw [if_pos c10] at H
   have c10b0 : decide (0 ≤ x24_2) = true := decide_eq_true c10
   clear c10
   by_cases c11 : x24_2 < (l0_0.length : Int)
   ·rw [if_pos c11] at H
    have c11b0 : decide (x24_2 < (l0_0.length : Int)) = true := decide_eq_true c11
    clear c11
    by_cases c12 : ((rd_L1 l0_0 x24_2).length : Int) > 200
    ·rw [if_pos c12] at H
     have c12b0 : decide (200 < ((rd_L1 l0_0 x24_2).length : Int)) = true := decide_eq_true c12
     have c12b1 : decide (200 < (rd_L1 l0_0 x24_2).length) = true := decide_eq_true (by omega)
     clear c12
     obtain rfl := Option.some.inj H
     have p127 : 0 ≤ (x24_2 : Int) := of_decide_eq_true (by (with_reducible assumption))
     have q127 : x24_2 < (l0_0.length : Int) := of_decide_eq_true (by (with_reducible assumption))
     obtain ⟨ad127, A127_0, c127_0, e127, hx127_0, hl127_0, hi127_0⟩ := at_L1 HR0_0.out x24_2 p127 q127
     cases e127
     replace hx127_0 := (HB.out.cell (World.block_lt_of_cell? w _ hx127_0)).trans hx127_0
     have HR127_0 := Aside0.mk hi127_0
     have HC127_0 := Aside0.mk hl127_0
     clear hi127_0 hl127_0
     replace p127 := eq_true p127
     replace q127 := eq_true q127
     (try clear hSr)
     (try have hSr := Sent.ofB hS HB)
     go_wp2
     go_ret
     exact ⟨by rfl, by exact HB.out⟩
    rw [if_neg c12] at H
    have c12b0 : decide (200 < ((rd_L1 l0_0 x24_2).length : Int)) = false := decide_eq_false c12
    have c12b1 : decide (200 < (rd_L1 l0_0 x24_2).length) = false := decide_eq_false (by omega)
    clear c12
    have H' := Aside0.mk H
    clear H
    have p127 : 0 ≤ (x24_2 : Int) := of_decide_eq_true (by (with_reducible assumption))
    have q127 : x24_2 < (l0_0.length : Int) := of_decide_eq_true (by (with_reducible assumption))
    obtain ⟨ad127, A127_0, c127_0, e127, hx127_0, hl127_0, hi127_0⟩ := at_L1 HR0_0.out x24_2 p127 q127
    cases e127
    replace hx127_0 := (HB.out.cell (World.block_lt_of_cell? w _ hx127_0)).trans hx127_0
    have HR127_0 := Aside0.mk hi127_0
    have HC127_0 := Aside0.mk hl127_0
    clear hi127_0 hl127_0
    replace p127 := eq_true p127
    replace q127 := eq_true q127
    (try clear hSr)
    (try have hSr := Sent.ofB hS HB)
    go_wp2
    go_loopg [34] k2 (fun kq v34 w' => ∃ (x34_3 : Int), v34 = .int .i64 x34_3 ∧ Aside0 (finite_Valid.l1 kq (rd_L1 l0_0 x24_2) l0_0 (l0_0.length : Int) x24_2 (rd_L1 l0_0 x24_2) ((rd_L1 l0_0 x24_2).length : Int) x34_3 l0_0 l0_1 = some r) ∧ Aside0 (kq ≤ k2) ∧ Aside0 (w'.heap[gb126]? = some (.cells #[(.slice (some ad127) l0_0.length c0_0), (.slice A0_1 l0_1.length c0_1)] 25 (0, 0))) ∧ Aside0 (Below w.heap.size w w'))
    case atStart => exact ⟨(0), (by rfl), H', ⟨Nat.le_refl _⟩, ⟨by exact BK126.out⟩, ⟨by exact HB.out⟩⟩
    clear H'
    try clear c1
    try clear p1
    try clear q1
    try clear hx1
    try clear p2
    try clear c4
    try clear c4b0
    try clear c4b1
    try clear c7
    try clear c9
    try clear c9b0
    try clear c10
    try clear c10b0
    try clear c11
    try clear c11b0
    try clear c12
    try clear c12b0
    try clear c12b1
    try clear p12
    try clear q12
    try clear hx12
    try clear hcz5_0
    try clear hcz5_1
    try clear hcz6_0
    try clear hcz6_1
    try clear hcz8_0
    try clear hcz8_1
    try clear hfz5_0
    try clear hfz5_1
    try clear hfz6_0
    try clear hfz6_1
    try clear hfz8_0
    try clear hfz8_1
    try clear hx127_0
    try clear p127
    try clear p2
    try clear q127
    obtain ⟨x34_3, rfl, HA, HK3, BK126, HB⟩ := hrel
    rcases gk with _ | k3
    ·exact absurd HA.out (by simp [finite_Valid.l1])
    have H := HA.out
    clear HA
    simp only [finite_Valid.l1] at H
    by_cases c13 : x34_3 < ((rd_L1 l0_0 x24_2).length : Int)
    ·rw [if_pos c13] at H
     have c13b0 : decide (x34_3 < ((rd_L1 l0_0 x24_2).length : Int)) = true := decide_eq_true c13
     clear c13
     by_cases c14 : 0 ≤ x34_3
     ·rw [if_pos c14] at H
      have c14b0 : decide (0 ≤ x34_3) = true := decide_eq_true c14
      clear c14
      by_cases c15 : x34_3 < ((rd_L1 l0_0 x24_2).length : Int)
      ·rw [if_pos c15] at H
       have c15b0 : decide (x34_3 < ((rd_L1 l0_0 x24_2).length : Int)) = true := decide_eq_true c15
       clear c15
       have HC16 := Aside0.mk H
       clear H
       have p128 : 0 ≤ (x34_3 : Int) := of_decide_eq_true (by (with_reducible assumption))
       have q128 : x34_3 < ((rd_L1 l0_0 x24_2).length : Int) := of_decide_eq_true (by (with_reducible assumption))
       obtain ⟨ad128, e128, hx128_0⟩ := Kd.at_int HR127_0.out x34_3 p128 q128
       cases e128
       replace hx128_0 := (HB.out.cell (World.block_lt_of_cell? w _ hx128_0)).trans hx128_0
       replace p128 := eq_true p128
       replace q128 := eq_true q128
       go_upto_region 11 with (fail)
       go_cut [44] (fun v44 wc => ∃ (kq : Nat) (x44_15 : Bool), v44 = .bool x44_15 ∧ Aside0 (finite_Valid.j3 kq (rd_L1 l0_0 x24_2) x34_3 (rd (rd_L1 l0_0 x24_2) x34_3) l0_0 (l0_0.length : Int) x24_2 (rd_L1 l0_0 x24_2) ((rd_L1 l0_0 x24_2).length : Int) x34_3 x44_15 l0_0 l0_1 = some r) ∧ Aside0 (kq ≤ k3) ∧ Aside0 (wc.heap[gb126]? = some (.cells #[(.slice (some ad127) l0_0.length c0_0), (.slice A0_1 l0_1.length c0_1)] 25 (0, 0))) ∧ Aside0 (Below w.heap.size w wc))
       case first =>
        have H := HC16.out
        clear HC16
        by_cases c17 : (rd (rd_L1 l0_0 x24_2) x34_3) < (-100000000)
        ·rw [if_pos c17] at H
         have c17b0 : decide ((rd (rd_L1 l0_0 x24_2) x34_3) < (-100000000)) = true := decide_eq_true c17
         clear c17
         (skip)
         have H' := Aside0.mk H
         clear H
         (try clear hSr)
         (try have hSr := Sent.ofB hS HB)
         go_wp2
         go_meet
         case rel => exact ⟨_, (true), (by rfl), H', ⟨by have := HJ1.out; have := HK2.out; have := HK3.out; omega⟩, ⟨by exact BK126.out⟩, ⟨by exact HB.out⟩⟩
        rw [if_neg c17] at H
        have c17b0 : decide ((rd (rd_L1 l0_0 x24_2) x34_3) < (-100000000)) = false := decide_eq_false c17
        clear c17
        (skip)
        have H' := Aside0.mk H
        clear H
        (try clear hSr)
        (try have hSr := Sent.ofB hS HB)
        go_wp2
        go_meet
        case rel => exact ⟨_, (decide ((rd (rd_L1 l0_0 x24_2) x34_3) > 100000000)), (by rfl), H', ⟨by have := HJ1.out; have := HK2.out; have := HK3.out; omega⟩, ⟨by exact BK126.out⟩, ⟨by exact HB.out⟩⟩
       clear HC16
       try clear c1
       try clear p1
       try clear q1
       try clear hx1
       try clear p2
       try clear c4
       try clear c4b0
       try clear c4b1
       try clear c7
       try clear c9
       try clear c9b0
       try clear c10
       try clear c10b0
       try clear c11
       try clear c11b0
       try clear c12
       try clear c12b0
       try clear c12b1
       try clear p12
       try clear q12
       try clear hx12
       try clear c13
       try clear c13b0
       try clear c14
       try clear c14b0
       try clear c15
       try clear c15b0
       try clear c17
       try clear c17b0
       try clear hcz5_0
       try clear hcz5_1
       try clear hcz6_0
       try clear hcz6_1
       try clear hcz8_0
       try clear hcz8_1
       try clear hfz5_0
       try clear hfz5_1
       try clear hfz6_0
       try clear hfz6_1
       try clear hfz8_0
       try clear hfz8_1
       try clear hx127_0
       try clear hx128_0
       try clear p1
       try clear p12
       try clear p127
       try clear p128
       try clear p2
       try clear q1
       try clear q12
       try clear q127
       try clear q128
       obtain ⟨kq, x44_15, rfl, HA, HJ15, BK126, HB⟩ := hcut
       rcases kq with _ | kj15
       ·exact absurd HA.out (by simp [finite_Valid.j3])
       have H := HA.out
       clear HA
       simp only [finite_Valid.j3] at H
       by_cases c18 : x44_15 = true
       ·subst c18
        have H1 : (some (some 1)) = some r := by rw [if_pos rfl] at H; exact H
        clear H
        have H := H1
        clear H1
        obtain rfl := Option.some.inj H
        (try clear hSr)
        (try have hSr := Sent.ofB hS HB)
        go_wp2
        go_ret
        exact ⟨by rfl, by exact HB.out⟩
       replace c18 := Bool.eq_false_iff.mpr c18
       subst c18
       have H1 : (if x34_3 > 0 then (if 0 ≤ (wrap64 (x34_3 - 1)) then (if (wrap64 (x34_3 - 1)) < ((rd_L1 l0_0 x24_2).length : Int) then (if (rd (rd_L1 l0_0 x24_2) x34_3) ≤ (rd (rd_L1 l0_0 x24_2) (wrap64 (x34_3 - 1))) then (some (some 0)) else (finite_Valid.l1 kj15 (rd_L1 l0_0 x24_2) l0_0 (l0_0.length : Int) x24_2 (rd_L1 l0_0 x24_2) ((rd_L1 l0_0 x24_2).length : Int) (wrap64 (x34_3 + 1)) l0_0 l0_1)) else (none)) else (none)) else (finite_Valid.l1 kj15 (rd_L1 l0_0 x24_2) l0_0 (l0_0.length : Int) x24_2 (rd_L1 l0_0 x24_2) ((rd_L1 l0_0 x24_2).length : Int) (wrap64 (x34_3 + 1)) l0_0 l0_1)) = some r := by rw [if_neg (show ¬ (false = true) by decide)] at H; exact H
       clear H
       have H := H1
       clear H1
       by_cases c19 : x34_3 > 0
       ·rw [if_pos c19] at H
        have c19b0 : decide (0 < x34_3) = true := decide_eq_true c19
        clear c19
        obtain ⟨ji20, hji20⟩ : ∃ j_ : Int, (wrap64 (x34_3 - 1)) = j_ := ⟨_, rfl⟩
        replace H : (if 0 ≤ (ji20) then (if (ji20) < ((rd_L1 l0_0 x24_2).length : Int) then (if (rd (rd_L1 l0_0 x24_2) x34_3) ≤ (rd (rd_L1 l0_0 x24_2) (ji20)) then (some (some 0)) else (finite_Valid.l1 kj15 (rd_L1 l0_0 x24_2) l0_0 (l0_0.length : Int) x24_2 (rd_L1 l0_0 x24_2) ((rd_L1 l0_0 x24_2).length : Int) (wrap64 (x34_3 + 1)) l0_0 l0_1)) else (none)) else (none)) = some r := by (rw [hji20] at H; exact H)
        have hji20w : (IntKind.i64.wrap (x34_3 - 1)) = ji20 := (i64_w _).trans hji20
        by_cases c21 : 0 ≤ (ji20)
        ·rw [if_pos c21] at H
         have c21b0 : decide (0 ≤ (ji20)) = true := decide_eq_true c21
         clear c21
         by_cases c22 : (ji20) < ((rd_L1 l0_0 x24_2).length : Int)
         ·rw [if_pos c22] at H
          have c22b0 : decide ((ji20) < ((rd_L1 l0_0 x24_2).length : Int)) = true := decide_eq_true c22
          clear c22
          by_cases c23 : (rd (rd_L1 l0_0 x24_2) x34_3) ≤ (rd (rd_L1 l0_0 x24_2) (ji20))
          ·rw [if_pos c23] at H
           have c23b0 : decide ((rd (rd_L1 l0_0 x24_2) x34_3) ≤ (rd (rd_L1 l0_0 x24_2) (ji20))) = true := decide_eq_true c23
           clear c23
           obtain rfl := Option.some.inj H
           have p129 : 0 ≤ ((ji20) : Int) := of_decide_eq_true (by (with_reducible assumption))
           have q129 : (ji20) < ((rd_L1 l0_0 x24_2).length : Int) := of_decide_eq_true (by (with_reducible assumption))
           obtain ⟨ad129, e129, hx129_0⟩ := Kd.at_int HR127_0.out (ji20) p129 q129
           obtain rfl : ad128 = ad129 := (by injection e129)
           replace hx129_0 := (HB.out.cell (World.block_lt_of_cell? w _ hx129_0)).trans hx129_0
           replace p129 := eq_true p129
           replace q129 := eq_true q129
           (try clear hSr)
           (try have hSr := Sent.ofB hS HB)
           go_wp2
           go_ret
           exact ⟨by rfl, by exact HB.out⟩
          rw [if_neg c23] at H
          have c23b0 : decide ((rd (rd_L1 l0_0 x24_2) x34_3) ≤ (rd (rd_L1 l0_0 x24_2) (ji20))) = false := decide_eq_false c23
          clear c23
          have H' := Aside0.mk H
          clear H
          have p129 : 0 ≤ ((ji20) : Int) := of_decide_eq_true (by (with_reducible assumption))
          have q129 : (ji20) < ((rd_L1 l0_0 x24_2).length : Int) := of_decide_eq_true (by (with_reducible assumption))
          obtain ⟨ad129, e129, hx129_0⟩ := Kd.at_int HR127_0.out (ji20) p129 q129
          obtain rfl : ad128 = ad129 := (by injection e129)
          replace hx129_0 := (HB.out.cell (World.block_lt_of_cell? w _ hx129_0)).trans hx129_0
          replace p129 := eq_true p129
          replace q129 := eq_true q129
          (try clear hSr)
          (try have hSr := Sent.ofB hS HB)
          go_wp2
          go_roundg kj15
          case measure => have := HJ1.out; have := HK2.out; have := HK3.out; have := HJ15.out; omega
          case rel => exact ⟨(wrap64 (x34_3 + 1)), (by rfl), H', ⟨by have := HJ1.out; have := HK2.out; have := HK3.out; have := HJ15.out; omega⟩, ⟨by exact BK126.out⟩, ⟨by exact HB.out⟩⟩
         rw [if_neg c22] at H
         exact absurd H (by simp)
        rw [if_neg c21] at H
        exact absurd H (by simp)
       rw [if_neg c19] at H
       have c19b0 : decide (0 < x34_3) = false := decide_eq_false c19
       clear c19
       have H' := Aside0.mk H
       clear H
       (try clear hSr)
       (try have hSr := Sent.ofB hS HB)
       go_wp2
       go_roundg kj15
       case measure => have := HJ1.out; have := HK2.out; have := HK3.out; have := HJ15.out; omega
       case rel => exact ⟨(wrap64 (x34_3 + 1)), (by rfl), H', ⟨by have := HJ1.out; have := HK2.out; have := HK3.out; have := HJ15.out; omega⟩, ⟨by exact BK126.out⟩, ⟨by exact HB.out⟩⟩
      rw [if_neg c15] at H
      exact absurd H (by simp)
     rw [if_neg c14] at H
     exact absurd H (by simp)
    rw [if_neg c13] at H
    have c13b0 : decide (x34_3 < ((rd_L1 l0_0 x24_2).length : Int)) = false := decide_eq_false c13
    clear c13
    have H' := Aside0.mk H
    clear H
    (try clear hSr)
    (try have hSr := Sent.ofB hS HB)
    go_wp2
    go_roundg k3
    case measure => have := HJ1.out; have := HK2.out; have := HK3.out; omega
    case rel => exact ⟨(wrap64 (x24_2 + 1)), (by rfl), H', ⟨by have := HJ1.out; have := HK2.out; have := HK3.out; omega⟩, ⟨by exact BK126.out⟩, ⟨by exact HB.out⟩⟩
   rw [if_neg c11] at H
   exact absurd H (by simp)
  rw [if_neg c10] at H
  exact absurd H (by simp)
 rw [if_neg c9] at H
 have c9b0 : decide (x24_2 < (l0_0.length : Int)) = false := decide_eq_false c9
 clear c9
 have H' := Aside0.mk H
 clear H
 have hcz24_0 : wr.cell? ⟨gb126, 0, none⟩ = some (.slice A0_0 l0_0.length c0_0) := (blk_cell BK126.out 0).trans rfl
 have hcz24_1 : wr.cell? ⟨gb126, 1, none⟩ = some (.slice A0_1 l0_1.length c0_1) := (blk_cell BK126.out 1).trans rfl
 have hfz24_0 := blk_frozen BK126.out 0
 have hfz24_1 := blk_frozen BK126.out 1
 (try clear hSr)
 (try have hSr := Sent.ofB hS HB)
 go_wp2
 go_loopg [63] k2 (fun kq v63 w' => ∃ (x63_3 : Int), v63 = .int .i64 x63_3 ∧ Aside0 (finite_Valid.l2 kq l0_1 (l0_1.length : Int) x63_3 l0_0 l0_1 = some r) ∧ Aside0 (kq ≤ k2) ∧ Aside0 (w'.heap[gb126]? = some (.cells #[(.slice A0_0 l0_0.length c0_0), (.slice A0_1 l0_1.length c0_1)] 25 (0, 0))) ∧ Aside0 (Below w.heap.size w w'))
 case atStart => exact ⟨(0), (by rfl), H', ⟨Nat.le_refl _⟩, ⟨by exact BK126.out⟩, ⟨by exact HB.out⟩⟩
 clear H'
 try clear c1
 try clear p1
 try clear q1
 try clear hx1
 try clear c2
 try clear p2
 try clear c4
 try clear c4b0
 try clear c4b1
 try clear p6
 try clear c7
 try clear c9
 try clear c9b0
 try clear c10
 try clear c10b0
 try clear c11
 try clear c11b0
 try clear c12
 try clear c12b0
 try clear c12b1
 try clear p12
 try clear q12
 try clear hx12
 try clear c13
 try clear c13b0
 try clear c14
 try clear c14b0
 try clear c15
 try clear c15b0
 try clear c17
 try clear c17b0
 try clear c18
 try clear c19
 try clear c19b0
 try clear c21
 try clear c21b0
 try clear c22
 try clear c22b0
 try clear c23
 try clear c23b0
 try clear hcz24_0
 try clear hcz24_1
 try clear hcz5_0
 try clear hcz5_1
 try clear hcz6_0
 try clear hcz6_1
 try clear hcz8_0
 try clear hcz8_1
 try clear hfz24_0
 try clear hfz24_1
 try clear hfz5_0
 try clear hfz5_1
 try clear hfz6_0
 try clear hfz6_1
 try clear hfz8_0
 try clear hfz8_1
 try clear hx127_0
 try clear hx128_0
 try clear hx129_0
 try clear p1
 try clear p12
 try clear p127
 try clear p128
 try clear p129
 try clear p2
 try clear q1
 try clear q12
 try clear q127
 try clear q128
 try clear q129
 obtain ⟨x63_3, rfl, HA, HK3, BK126, HB⟩ := hrel
 rcases gk with _ | k3
 ·exact absurd HA.out (by simp [finite_Valid.l2])
 have H := HA.out
 clear HA
 simp only [finite_Valid.l2] at H
 by_cases c25 : x63_3 < (l0_1.length : Int)
 ·rw [if_pos c25] at H
  have c25b0 : decide (x63_3 < (l0_1.length : Int)) = true := decide_eq_true c25
  clear c25
  by_cases c26 : 0 ≤ x63_3
  ·rw [if_pos c26] at H
   have c26b0 : decide (0 ≤ x63_3) = true := decide_eq_true c26
   clear c26
   by_cases c27 : x63_3 < (l0_1.length : Int)
   ·rw [if_pos c27] at H
    have c27b0 : decide (x63_3 < (l0_1.length : Int)) = true := decide_eq_true c27
    clear c27
    replace H := Option.bind_eq_some_iff.mp H
    obtain ⟨t132, A280, H⟩ := H
    replace H : (if t132.isNone = true then (finite_Valid.l2 k3 l0_1 (l0_1.length : Int) (wrap64 (x63_3 + 1)) l0_0 l0_1) else (some (some (t132.getD 0)))) = some r := H
    have A28 := Aside0.mk A280
    clear A280
    rcases t132 with _ | q133
    ·have H1 : (finite_Valid.l2 k3 l0_1 (l0_1.length : Int) (wrap64 (x63_3 + 1)) l0_0 l0_1) = some r := by rw [if_pos (show (none : Option Int).isNone = true by rfl)] at H; exact H
     clear H
     have H := H1
     clear H1
     try simp only [errW_none, errW_some]
     have H' := Aside0.mk H
     clear H
     have p130 : 0 ≤ (x63_3 : Int) := of_decide_eq_true (by (with_reducible assumption))
     have q130 : x63_3 < (l0_1.length : Int) := of_decide_eq_true (by (with_reducible assumption))
     obtain ⟨ad130, A130_1, c130_1, A130_2, c130_2, A130_3, c130_3, A130_5, c130_5, e130, hx130_0, hx130_1, hx130_2, hx130_3, hx130_4, hx130_5, hl130_1, hi130_1, hl130_2, hi130_2, hl130_3, hi130_3, hl130_5, hi130_5⟩ := at_T44 HR0_1.out x63_3 p130 q130
     cases e130
     replace hx130_0 := (HB.out.cell (World.block_lt_of_cell? w _ hx130_0)).trans hx130_0
     replace hx130_1 := (HB.out.cell (World.block_lt_of_cell? w _ hx130_1)).trans hx130_1
     replace hx130_2 := (HB.out.cell (World.block_lt_of_cell? w _ hx130_2)).trans hx130_2
     replace hx130_3 := (HB.out.cell (World.block_lt_of_cell? w _ hx130_3)).trans hx130_3
     replace hx130_4 := (HB.out.cell (World.block_lt_of_cell? w _ hx130_4)).trans hx130_4
     replace hx130_5 := (HB.out.cell (World.block_lt_of_cell? w _ hx130_5)).trans hx130_5
     have HR130_1 := Aside0.mk hi130_1
     have HC130_1 := Aside0.mk hl130_1
     clear hi130_1 hl130_1
     have HR130_2 := Aside0.mk hi130_2
     have HC130_2 := Aside0.mk hl130_2
     clear hi130_2 hl130_2
     have HR130_3 := Aside0.mk hi130_3
     have HC130_3 := Aside0.mk hl130_3
     clear hi130_3 hl130_3
     have HR130_5 := Aside0.mk hi130_5
     have HC130_5 := Aside0.mk hl130_5
     clear hi130_5 hl130_5
     replace p130 := eq_true p130
     replace q130 := eq_true q130
     (try clear hSr)
     (try have hSr := Sent.ofB hS HB)
     go_wp2_with (first | ((with_reducible refine gate_dst (N := 8) rfl ?_); (try (refine gate_guard (by rfl) ?_; dsimp only)); refine box_event ?hg (N := 8) ?hd (cs := #[.int .i64 0, .slice none 0 0, .slice none 0 0, .slice none 0 0, .int .i64 0, .slice none 0 0]) (t := 44) ?hr ?_; (case hd => rfl); (case hg => rfl); (case hr => (go_simp; done)); intro gb131 hg w29 hbox hb; have n0_ := Aside0.mk (blk_below (g := gb126) (o := .cells #[.slice A0_0 l0_0.length c0_0, .slice (some ad130) l0_1.length c0_1] 25 (0, 0)) (by exact BK126.out) hb); have n1_ := Aside0.mk (below_step (by exact HB.out) hb); have n2_ := Aside0.mk (hbox); have n3_ := Aside0.mk ((by rw [hg]; exact (below_size (by exact HB.out)) : w.heap.size ≤ gb131)); have n4_ := Aside0.mk ((by rw [hg]; exact (below_size (by exact HB.out)) : w.heap.size ≤ gb131)); have n5_ := Aside0.mk ((by rw [hg]; exact Nat.ne_of_lt (blk_lt (g := gb126) (o := .cells #[.slice A0_0 l0_0.length c0_0, .slice (some ad130) l0_1.length c0_1] 25 (0, 0)) (by exact BK126.out)) : gb126 ≠ gb131)); have n6_ := Aside0.mk ((by rw [hg]; exact Nat.ne_of_gt (blk_lt (g := gb126) (o := .cells #[.slice A0_0 l0_0.length c0_0, .slice (some ad130) l0_1.length c0_1] 25 (0, 0)) (by exact BK126.out)) : gb131 ≠ gb126)); clear BK126; clear HB; have BK126 := n0_; have HB := n1_; have BK131 := n2_; have GW131 := n3_; have GE131 := n4_; have NB126_131 := n5_; have NB131_126 := n6_; clear n0_ n1_ n2_ n3_ n4_ n5_ n6_; clear hb hbox hg; have hnb30 := NB131_126.out; have hnc30 := NB126_131.out; have hcz31_0 : w29.cell? ⟨gb131, 0, none⟩ = some (.int .i64 0) := (blk_cell BK131.out 0).trans rfl; have hcz31_1 : w29.cell? ⟨gb131, 1, none⟩ = some (.slice none 0 0) := (blk_cell BK131.out 1).trans rfl; have hcz31_2 : w29.cell? ⟨gb131, 2, none⟩ = some (.slice none 0 0) := (blk_cell BK131.out 2).trans rfl; have hcz31_3 : w29.cell? ⟨gb131, 3, none⟩ = some (.slice none 0 0) := (blk_cell BK131.out 3).trans rfl; have hcz31_4 : w29.cell? ⟨gb131, 4, none⟩ = some (.int .i64 0) := (blk_cell BK131.out 4).trans rfl; have hcz31_5 : w29.cell? ⟨gb131, 5, none⟩ = some (.slice none 0 0) := (blk_cell BK131.out 5).trans rfl; have hfz31_0 := blk_frozen BK131.out 0; have hfz31_1 := blk_frozen BK131.out 1; have hfz31_2 := blk_frozen BK131.out 2; have hfz31_3 := blk_frozen BK131.out 3; have hfz31_4 := blk_frozen BK131.out 4; have hfz31_5 := blk_frozen BK131.out 5; have hcz32_0 : w29.cell? ⟨gb126, 0, none⟩ = some (.slice A0_0 l0_0.length c0_0) := (blk_cell BK126.out 0).trans rfl; have hcz32_1 : w29.cell? ⟨gb126, 1, none⟩ = some (.slice (some ad130) l0_1.length c0_1) := (blk_cell BK126.out 1).trans rfl; have hfz32_0 := blk_frozen BK126.out 0; have hfz32_1 := blk_frozen BK126.out 1) | ((with_reducible refine gate_callee (f := 19) rfl ?_); refine goesL_ (some 69) rfl rfl Tryd.func19 (by kernel_rfl) rfl #[.agg #[.slice A0_0 l0_0.length c0_0, .slice (some ad130) l0_1.length c0_1], .agg #[.int .i64 ((rd_T44 l0_1 x63_3).f0), .slice A130_1 ((rd_T44 l0_1 x63_3).f1).length c130_1, .slice A130_2 ((rd_T44 l0_1 x63_3).f2).length c130_2, .slice A130_3 ((rd_T44 l0_1 x63_3).f3).length c130_3, .int .i64 ((rd_T44 l0_1 x63_3).f4), .slice A130_5 ((rd_T44 l0_1 x63_3).f5).length c130_5]] rfl (by (try simp only [List.map_toArray, List.map_cons, List.map_nil]); rfl) ?_; (with_reducible refine (finite_valid.calls k3 _ _ l0_0 _ _ l0_1 ((rd_T44 l0_1 x63_3).f0) _ _ ((rd_T44 l0_1 x63_3).f1) _ _ ((rd_T44 l0_1 x63_3).f2) _ _ ((rd_T44 l0_1 x63_3).f3) ((rd_T44 l0_1 x63_3).f4) _ _ ((rd_T44 l0_1 x63_3).f5) none _ ?side1 ?side2 ?side3 ?side4 ?side5 ?side6 ?side7 ?side8 ?side9 ?side10 ?side11 ?side12 A28.out).mono ?_); (case side1 => exact Kd.C_below HR0_0.out (by repeat ((with_reducible first | exact HB.out | refine below_set ?_ GE131.out)))); (case side2 => exact HC0_0.out); (case side3 => exact Kd.C_below HR0_1.out (by repeat ((with_reducible first | exact HB.out | refine below_set ?_ GE131.out)))); (case side4 => exact HC0_1.out); (case side5 => exact Kd.C_below HR130_1.out (by repeat ((with_reducible first | exact HB.out | refine below_set ?_ GE131.out)))); (case side6 => exact HC130_1.out); (case side7 => exact Kd.C_below HR130_2.out (by repeat ((with_reducible first | exact HB.out | refine below_set ?_ GE131.out)))); (case side8 => exact HC130_2.out); (case side9 => exact Kd.C_below HR130_3.out (by repeat ((with_reducible first | exact HB.out | refine below_set ?_ GE131.out)))); (case side10 => exact HC130_3.out); (case side11 => exact Kd.C_below HR130_5.out (by repeat ((with_reducible first | exact HB.out | refine below_set ?_ GE131.out)))); (case side12 => exact HC130_5.out); rintro e w33 ⟨rfl, hb⟩; refine ⟨_, rfl, ?_⟩; have n0_ := Aside0.mk (blk_below (g := gb126) (o := .cells #[.slice A0_0 l0_0.length c0_0, .slice (some ad130) l0_1.length c0_1] 25 (0, 0)) (by refine blk_far ?_ NB126_131.out _; refine blk_far ?_ NB126_131.out _; refine blk_far ?_ NB126_131.out _; refine blk_far ?_ NB126_131.out _; refine blk_far ?_ NB126_131.out _; refine blk_far ?_ NB126_131.out _; exact BK126.out) hb); have n1_ := Aside0.mk (blk_below (g := gb131) (o := .cells #[.int .i64 ((rd_T44 l0_1 x63_3).f0), .slice A130_1 ((rd_T44 l0_1 x63_3).f1).length c130_1, .slice A130_2 ((rd_T44 l0_1 x63_3).f2).length c130_2, .slice A130_3 ((rd_T44 l0_1 x63_3).f3).length c130_3, .int .i64 ((rd_T44 l0_1 x63_3).f4), .slice A130_5 ((rd_T44 l0_1 x63_3).f5).length c130_5] 44 (0, 0)) (by refine blk_put (cs := #[.int .i64 ((rd_T44 l0_1 x63_3).f0), .slice A130_1 ((rd_T44 l0_1 x63_3).f1).length c130_1, .slice A130_2 ((rd_T44 l0_1 x63_3).f2).length c130_2, .slice A130_3 ((rd_T44 l0_1 x63_3).f3).length c130_3, .int .i64 ((rd_T44 l0_1 x63_3).f4), .slice none 0 0]) ?_ 5 _ rfl; refine blk_put (cs := #[.int .i64 ((rd_T44 l0_1 x63_3).f0), .slice A130_1 ((rd_T44 l0_1 x63_3).f1).length c130_1, .slice A130_2 ((rd_T44 l0_1 x63_3).f2).length c130_2, .slice A130_3 ((rd_T44 l0_1 x63_3).f3).length c130_3, .int .i64 0, .slice none 0 0]) ?_ 4 _ rfl; refine blk_put (cs := #[.int .i64 ((rd_T44 l0_1 x63_3).f0), .slice A130_1 ((rd_T44 l0_1 x63_3).f1).length c130_1, .slice A130_2 ((rd_T44 l0_1 x63_3).f2).length c130_2, .slice none 0 0, .int .i64 0, .slice none 0 0]) ?_ 3 _ rfl; refine blk_put (cs := #[.int .i64 ((rd_T44 l0_1 x63_3).f0), .slice A130_1 ((rd_T44 l0_1 x63_3).f1).length c130_1, .slice none 0 0, .slice none 0 0, .int .i64 0, .slice none 0 0]) ?_ 2 _ rfl; refine blk_put (cs := #[.int .i64 ((rd_T44 l0_1 x63_3).f0), .slice none 0 0, .slice none 0 0, .slice none 0 0, .int .i64 0, .slice none 0 0]) ?_ 1 _ rfl; refine blk_put (cs := #[.int .i64 0, .slice none 0 0, .slice none 0 0, .slice none 0 0, .int .i64 0, .slice none 0 0]) ?_ 0 _ rfl; exact BK131.out) hb); have n2_ := Aside0.mk (below_step (by repeat ((with_reducible first | exact HB.out | refine below_set ?_ GE131.out))) hb); clear BK126; clear BK131; clear HB; have BK126 := n0_; have BK131 := n1_; have HB := n2_; clear n0_ n1_ n2_; (try clear hb); (try clear hb2); (try clear hk); (try clear hi); (try simp only [errW_none, errW_some])))
     go_roundg k3
     case measure => have := HJ1.out; have := HK2.out; have := HK3.out; omega
     case rel => exact ⟨(wrap64 (x63_3 + 1)), (by rfl), H', ⟨by have := HJ1.out; have := HK2.out; have := HK3.out; omega⟩, ⟨by exact BK126.out⟩, ⟨by exact HB.out⟩⟩
    have H1 : (some (some q133)) = some r := by rw [if_neg (show ¬ (some q133).isNone = true by simp)] at H; exact H
    clear H
    have H := H1
    clear H1
    try simp only [errW_none, errW_some]
    obtain rfl := Option.some.inj H
    have p130 : 0 ≤ (x63_3 : Int) := of_decide_eq_true (by (with_reducible assumption))
    have q130 : x63_3 < (l0_1.length : Int) := of_decide_eq_true (by (with_reducible assumption))
    obtain ⟨ad130, A130_1, c130_1, A130_2, c130_2, A130_3, c130_3, A130_5, c130_5, e130, hx130_0, hx130_1, hx130_2, hx130_3, hx130_4, hx130_5, hl130_1, hi130_1, hl130_2, hi130_2, hl130_3, hi130_3, hl130_5, hi130_5⟩ := at_T44 HR0_1.out x63_3 p130 q130
    cases e130
    replace hx130_0 := (HB.out.cell (World.block_lt_of_cell? w _ hx130_0)).trans hx130_0
    replace hx130_1 := (HB.out.cell (World.block_lt_of_cell? w _ hx130_1)).trans hx130_1
    replace hx130_2 := (HB.out.cell (World.block_lt_of_cell? w _ hx130_2)).trans hx130_2
    replace hx130_3 := (HB.out.cell (World.block_lt_of_cell? w _ hx130_3)).trans hx130_3
    replace hx130_4 := (HB.out.cell (World.block_lt_of_cell? w _ hx130_4)).trans hx130_4
    replace hx130_5 := (HB.out.cell (World.block_lt_of_cell? w _ hx130_5)).trans hx130_5
    have HR130_1 := Aside0.mk hi130_1
    have HC130_1 := Aside0.mk hl130_1
    clear hi130_1 hl130_1
    have HR130_2 := Aside0.mk hi130_2
    have HC130_2 := Aside0.mk hl130_2
    clear hi130_2 hl130_2
    have HR130_3 := Aside0.mk hi130_3
    have HC130_3 := Aside0.mk hl130_3
    clear hi130_3 hl130_3
    have HR130_5 := Aside0.mk hi130_5
    have HC130_5 := Aside0.mk hl130_5
    clear hi130_5 hl130_5
    replace p130 := eq_true p130
    replace q130 := eq_true q130
    (try clear hSr)
    (try have hSr := Sent.ofB hS HB)
    go_wp2_with (first | ((with_reducible refine gate_dst (N := 8) rfl ?_); (try (refine gate_guard (by rfl) ?_; dsimp only)); refine box_event ?hg (N := 8) ?hd (cs := #[.int .i64 0, .slice none 0 0, .slice none 0 0, .slice none 0 0, .int .i64 0, .slice none 0 0]) (t := 44) ?hr ?_; (case hd => rfl); (case hg => rfl); (case hr => (go_simp; done)); intro gb131 hg w34 hbox hb; have n0_ := Aside0.mk (blk_below (g := gb126) (o := .cells #[.slice A0_0 l0_0.length c0_0, .slice (some ad130) l0_1.length c0_1] 25 (0, 0)) (by exact BK126.out) hb); have n1_ := Aside0.mk (below_step (by exact HB.out) hb); have n2_ := Aside0.mk (hbox); have n3_ := Aside0.mk ((by rw [hg]; exact (below_size (by exact HB.out)) : w.heap.size ≤ gb131)); have n4_ := Aside0.mk ((by rw [hg]; exact (below_size (by exact HB.out)) : w.heap.size ≤ gb131)); have n5_ := Aside0.mk ((by rw [hg]; exact Nat.ne_of_lt (blk_lt (g := gb126) (o := .cells #[.slice A0_0 l0_0.length c0_0, .slice (some ad130) l0_1.length c0_1] 25 (0, 0)) (by exact BK126.out)) : gb126 ≠ gb131)); have n6_ := Aside0.mk ((by rw [hg]; exact Nat.ne_of_gt (blk_lt (g := gb126) (o := .cells #[.slice A0_0 l0_0.length c0_0, .slice (some ad130) l0_1.length c0_1] 25 (0, 0)) (by exact BK126.out)) : gb131 ≠ gb126)); clear BK126; clear HB; have BK126 := n0_; have HB := n1_; have BK131 := n2_; have GW131 := n3_; have GE131 := n4_; have NB126_131 := n5_; have NB131_126 := n6_; clear n0_ n1_ n2_ n3_ n4_ n5_ n6_; clear hb hbox hg; have hnb35 := NB131_126.out; have hnc35 := NB126_131.out; have hcz36_0 : w34.cell? ⟨gb131, 0, none⟩ = some (.int .i64 0) := (blk_cell BK131.out 0).trans rfl; have hcz36_1 : w34.cell? ⟨gb131, 1, none⟩ = some (.slice none 0 0) := (blk_cell BK131.out 1).trans rfl; have hcz36_2 : w34.cell? ⟨gb131, 2, none⟩ = some (.slice none 0 0) := (blk_cell BK131.out 2).trans rfl; have hcz36_3 : w34.cell? ⟨gb131, 3, none⟩ = some (.slice none 0 0) := (blk_cell BK131.out 3).trans rfl; have hcz36_4 : w34.cell? ⟨gb131, 4, none⟩ = some (.int .i64 0) := (blk_cell BK131.out 4).trans rfl; have hcz36_5 : w34.cell? ⟨gb131, 5, none⟩ = some (.slice none 0 0) := (blk_cell BK131.out 5).trans rfl; have hfz36_0 := blk_frozen BK131.out 0; have hfz36_1 := blk_frozen BK131.out 1; have hfz36_2 := blk_frozen BK131.out 2; have hfz36_3 := blk_frozen BK131.out 3; have hfz36_4 := blk_frozen BK131.out 4; have hfz36_5 := blk_frozen BK131.out 5; have hcz37_0 : w34.cell? ⟨gb126, 0, none⟩ = some (.slice A0_0 l0_0.length c0_0) := (blk_cell BK126.out 0).trans rfl; have hcz37_1 : w34.cell? ⟨gb126, 1, none⟩ = some (.slice (some ad130) l0_1.length c0_1) := (blk_cell BK126.out 1).trans rfl; have hfz37_0 := blk_frozen BK126.out 0; have hfz37_1 := blk_frozen BK126.out 1) | ((with_reducible refine gate_callee (f := 19) rfl ?_); refine goesL_ (some 69) rfl rfl Tryd.func19 (by kernel_rfl) rfl #[.agg #[.slice A0_0 l0_0.length c0_0, .slice (some ad130) l0_1.length c0_1], .agg #[.int .i64 ((rd_T44 l0_1 x63_3).f0), .slice A130_1 ((rd_T44 l0_1 x63_3).f1).length c130_1, .slice A130_2 ((rd_T44 l0_1 x63_3).f2).length c130_2, .slice A130_3 ((rd_T44 l0_1 x63_3).f3).length c130_3, .int .i64 ((rd_T44 l0_1 x63_3).f4), .slice A130_5 ((rd_T44 l0_1 x63_3).f5).length c130_5]] rfl (by (try simp only [List.map_toArray, List.map_cons, List.map_nil]); rfl) ?_; (with_reducible refine (finite_valid.calls k3 _ _ l0_0 _ _ l0_1 ((rd_T44 l0_1 x63_3).f0) _ _ ((rd_T44 l0_1 x63_3).f1) _ _ ((rd_T44 l0_1 x63_3).f2) _ _ ((rd_T44 l0_1 x63_3).f3) ((rd_T44 l0_1 x63_3).f4) _ _ ((rd_T44 l0_1 x63_3).f5) (some q133) _ ?side1 ?side2 ?side3 ?side4 ?side5 ?side6 ?side7 ?side8 ?side9 ?side10 ?side11 ?side12 A28.out).mono ?_); (case side1 => exact Kd.C_below HR0_0.out (by repeat ((with_reducible first | exact HB.out | refine below_set ?_ GE131.out)))); (case side2 => exact HC0_0.out); (case side3 => exact Kd.C_below HR0_1.out (by repeat ((with_reducible first | exact HB.out | refine below_set ?_ GE131.out)))); (case side4 => exact HC0_1.out); (case side5 => exact Kd.C_below HR130_1.out (by repeat ((with_reducible first | exact HB.out | refine below_set ?_ GE131.out)))); (case side6 => exact HC130_1.out); (case side7 => exact Kd.C_below HR130_2.out (by repeat ((with_reducible first | exact HB.out | refine below_set ?_ GE131.out)))); (case side8 => exact HC130_2.out); (case side9 => exact Kd.C_below HR130_3.out (by repeat ((with_reducible first | exact HB.out | refine below_set ?_ GE131.out)))); (case side10 => exact HC130_3.out); (case side11 => exact Kd.C_below HR130_5.out (by repeat ((with_reducible first | exact HB.out | refine below_set ?_ GE131.out)))); (case side12 => exact HC130_5.out); rintro e w38 ⟨rfl, hb⟩; refine ⟨_, rfl, ?_⟩; have n0_ := Aside0.mk (blk_below (g := gb126) (o := .cells #[.slice A0_0 l0_0.length c0_0, .slice (some ad130) l0_1.length c0_1] 25 (0, 0)) (by refine blk_far ?_ NB126_131.out _; refine blk_far ?_ NB126_131.out _; refine blk_far ?_ NB126_131.out _; refine blk_far ?_ NB126_131.out _; refine blk_far ?_ NB126_131.out _; refine blk_far ?_ NB126_131.out _; exact BK126.out) hb); have n1_ := Aside0.mk (blk_below (g := gb131) (o := .cells #[.int .i64 ((rd_T44 l0_1 x63_3).f0), .slice A130_1 ((rd_T44 l0_1 x63_3).f1).length c130_1, .slice A130_2 ((rd_T44 l0_1 x63_3).f2).length c130_2, .slice A130_3 ((rd_T44 l0_1 x63_3).f3).length c130_3, .int .i64 ((rd_T44 l0_1 x63_3).f4), .slice A130_5 ((rd_T44 l0_1 x63_3).f5).length c130_5] 44 (0, 0)) (by refine blk_put (cs := #[.int .i64 ((rd_T44 l0_1 x63_3).f0), .slice A130_1 ((rd_T44 l0_1 x63_3).f1).length c130_1, .slice A130_2 ((rd_T44 l0_1 x63_3).f2).length c130_2, .slice A130_3 ((rd_T44 l0_1 x63_3).f3).length c130_3, .int .i64 ((rd_T44 l0_1 x63_3).f4), .slice none 0 0]) ?_ 5 _ rfl; refine blk_put (cs := #[.int .i64 ((rd_T44 l0_1 x63_3).f0), .slice A130_1 ((rd_T44 l0_1 x63_3).f1).length c130_1, .slice A130_2 ((rd_T44 l0_1 x63_3).f2).length c130_2, .slice A130_3 ((rd_T44 l0_1 x63_3).f3).length c130_3, .int .i64 0, .slice none 0 0]) ?_ 4 _ rfl; refine blk_put (cs := #[.int .i64 ((rd_T44 l0_1 x63_3).f0), .slice A130_1 ((rd_T44 l0_1 x63_3).f1).length c130_1, .slice A130_2 ((rd_T44 l0_1 x63_3).f2).length c130_2, .slice none 0 0, .int .i64 0, .slice none 0 0]) ?_ 3 _ rfl; refine blk_put (cs := #[.int .i64 ((rd_T44 l0_1 x63_3).f0), .slice A130_1 ((rd_T44 l0_1 x63_3).f1).length c130_1, .slice none 0 0, .slice none 0 0, .int .i64 0, .slice none 0 0]) ?_ 2 _ rfl; refine blk_put (cs := #[.int .i64 ((rd_T44 l0_1 x63_3).f0), .slice none 0 0, .slice none 0 0, .slice none 0 0, .int .i64 0, .slice none 0 0]) ?_ 1 _ rfl; refine blk_put (cs := #[.int .i64 0, .slice none 0 0, .slice none 0 0, .slice none 0 0, .int .i64 0, .slice none 0 0]) ?_ 0 _ rfl; exact BK131.out) hb); have n2_ := Aside0.mk (below_step (by repeat ((with_reducible first | exact HB.out | refine below_set ?_ GE131.out))) hb); clear BK126; clear BK131; clear HB; have BK126 := n0_; have BK131 := n1_; have HB := n2_; clear n0_ n1_ n2_; (try clear hb); (try clear hb2); (try clear hk); (try clear hi); (try simp only [errW_none, errW_some])))
    go_ret
    exact ⟨by rfl, by exact HB.out⟩
   rw [if_neg c27] at H
   exact absurd H (by simp)
  rw [if_neg c26] at H
  exact absurd H (by simp)
 rw [if_neg c25] at H
 have c25b0 : decide (x63_3 < (l0_1.length : Int)) = false := decide_eq_false c25
 clear c25
 obtain rfl := Option.some.inj H
 (try clear hSr)
 (try have hSr := Sent.ofB hS HB)
 go_wp2
 go_ret
 exact ⟨by rfl, by exact HB.out⟩

end Go.Proofs.YtehekppkicjimaaDoor.QFK
