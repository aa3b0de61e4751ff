-- written by a program of mine (wip/tools/print2.py), which turns the kit's printer a little
import Derived.Test.YtehekppkicjimaaDoorSQFKx0
import Derived.Test.YtehekppkicjimaaDoorSQFKx15
import Derived.Test.YtehekppkicjimaaDoorSErr
namespace Go.Proofs.YtehekppkicjimaaDoor.QFK
open Go.RowKit Go.Proofs.YtehekppkicjimaaDoorW.PrintWords Go.Proofs.YtehekppkicjimaaDoorW.PrintLast Go.Proofs.YtehekppkicjimaaDoorW.PrintMore
attribute [local go_sem] max2_int min2_int max_two min_two max_three min_three max_four min_four
set_option linter.unusedVariables false
set_option linter.unusedSimpArgs false

attribute [local go_sem] Sent.alloc Sent.drew Sent.drewN Sent.c0 Sent.c1
/-! ### finite_valid: function 19 -/
mutual
def finite_valid.j0 : Nat → Bool → List (List Int) → List (S44) → Int → List Int → List Int → List Int → Int → List (List Int) → Option (Option Int)
 | 0, _, _, _, _, _, _, _, _, _ => none
 | k + 1, x38, x106000, x106001, x107000, x107001, x107002, x107003, x107004, x107005 => if x38 = true then (some (some 1)) else ((some (([x107004] : List Int) : List Int)).bind fun y107 => (if y107.length + x107002.length < 17592186044416 then ((some (y107 ++ x107002 : List Int)).bind fun y110 => (if y110.length + x107003.length < 17592186044416 then (finite_valid.l0 k (y110 ++ x107003) x107005 (x107005.length : Int) 0 x106000 x106001 x107000 x107001 x107002 x107003 x107004 x107005) else (none))) else (none)))
def finite_valid.l0 : Nat → List Int → List (List Int) → Int → Int → List (List Int) → List (S44) → Int → List Int → List Int → List Int → Int → List (List Int) → Option (Option Int)
 | 0, _, _, _, _, _, _, _, _, _, _, _, _ => none
 | k + 1, x5, x50, x51, x52, x106000, x106001, x107000, x107001, x107002, x107003, x107004, x107005 => if x52 < x51 then (if 0 ≤ x52 then (if x52 < (x50.length : Int) then (if ((rd_L1 x50 x52).length : Int) > 60 then (some (some 1)) else (if x5.length + (rd_L1 x50 x52).length < 17592186044416 then (finite_valid.l0 k (x5 ++ (rd_L1 x50 x52)) x50 x51 (wrap64 (x52 + 1)) x106000 x106001 x107000 x107001 x107002 x107003 x107004 x107005) else (none))) else (none)) else (none)) else (finite_valid.l1 k x5 (x5.length : Int) 0 x106000 x106001 x107000 x107001 x107002 x107003 x107004 x107005)
def finite_valid.l1 : Nat → List Int → Int → Int → List (List Int) → List (S44) → Int → List Int → List Int → List Int → Int → List (List Int) → Option (Option Int)
 | 0, _, _, _, _, _, _, _, _, _, _, _ => none
 | k + 1, x64, x65, x66, x106000, x106001, x107000, x107001, x107002, x107003, x107004, x107005 => if x66 < x65 then (if 0 ≤ x66 then (if x66 < (x64.length : Int) then (if (rd x64 x66) < (-100000000) then (some (some 1)) else (if (rd x64 x66) > 100000000 then (some (some 1)) else (finite_valid.l1 k x64 x65 (wrap64 (x66 + 1)) x106000 x106001 x107000 x107001 x107002 x107003 x107004 x107005))) else (none)) else (none)) else (finite_valid.l2 k x107001 (x107001.length : Int) 0 x106000 x106001 x107000 x107001 x107002 x107003 x107004 x107005)
def finite_valid.l2 : Nat → List Int → Int → Int → List (List Int) → List (S44) → Int → List Int → List Int → List Int → Int → List (List Int) → Option (Option Int)
 | 0, _, _, _, _, _, _, _, _, _, _, _ => none
 | k + 1, x79, x80, x81, x106000, x106001, x107000, x107001, x107002, x107003, x107004, x107005 => if x81 < x80 then (if 0 ≤ x81 then (if x81 < (x79.length : Int) then (if (rd x79 x81) < 0 then (some (some 0)) else (if (rd x79 x81) ≥ (x106000.length : Int) then (some (some 0)) else (finite_valid.l2 k x79 x80 (wrap64 (x81 + 1)) x106000 x106001 x107000 x107001 x107002 x107003 x107004 x107005))) else (none)) else (none)) else (if x107000 = 1 then (if (wrap64 ((wrap64 ((x107002.length : Int) + (x107003.length : Int))) + (x107005.length : Int))) = 0 then (if x107004 = 0 then (some none) else (some (some 0))) else (some (some 0))) else (if x107000 = 2 then (if (x107002.length : Int) = (x107001.length : Int) then (if (wrap64 ((x107003.length : Int) + (x107005.length : Int))) = 0 then ((slices_Contains_int_int.f k x107002 0).bind fun t122 => (if t122 = true then (some (some 0)) else (some none))) else (some (some 0))) else (some (some 0))) else (if x107000 = 3 then (if (wrap64 ((x107002.length : Int) + (x107003.length : Int))) = 0 then (finite_valid.j4 k (x107001.length : Int) (x107004 == 0) x107000 x107001 x107002 x107003 x107004 x107005) else (finite_valid.j4 k (x107001.length : Int) false x107000 x107001 x107002 x107003 x107004 x107005)) else (if x107000 = 4 then (if (x107001.length : Int) ≥ 2 then (if (wrap64 ((wrap64 ((x107002.length : Int) + (x107003.length : Int))) + (x107005.length : Int))) = 0 then (if x107004 = 0 then (some none) else (some (some 0))) else (some (some 0))) else (some (some 0))) else (if x107000 = 5 then (if (x107002.length : Int) = (x107001.length : Int) then (if (x107003.length : Int) = (x107001.length : Int) then (if (x107005.length : Int) = 0 then (finite_valid.j6 k (decide (x107004 ≥ 0)) x107000 x107001 x107002 x107003 x107004 x107005) else (finite_valid.j6 k false x107000 x107001 x107002 x107003 x107004 x107005)) else (finite_valid.j6 k false x107000 x107001 x107002 x107003 x107004 x107005)) else (finite_valid.j6 k false x107000 x107001 x107002 x107003 x107004 x107005)) else (some (some 0)))))))
def finite_valid.j4 : Nat → Int → Bool → Int → List Int → List Int → List Int → Int → List (List Int) → Option (Option Int)
 | 0, _, _, _, _, _, _, _, _ => none
 | k + 1, x12, x13, x107000, x107001, x107002, x107003, x107004, x107005 => finite_valid.l3 k x12 x13 x107005 (x107005.length : Int) 0
def finite_valid.l3 : Nat → Int → Bool → List (List Int) → Int → Int → Option (Option Int)
 | 0, _, _, _, _, _ => none
 | k + 1, x12, x13, x159, x160, x161 => if x161 < x160 then (if 0 ≤ x161 then (if x161 < (x159.length : Int) then (if x13 = true then (finite_valid.l3 k x12 (((rd_L1 x159 x161).length : Int) == x12) x159 x160 (wrap64 (x161 + 1))) else (finite_valid.l3 k x12 false x159 x160 (wrap64 (x161 + 1)))) else (none)) else (none)) else (if x13 = true then (some none) else (some (some 0)))
def finite_valid.j6 : Nat → Bool → Int → List Int → List Int → List Int → Int → List (List Int) → Option (Option Int)
 | 0, _, _, _, _, _, _, _ => none
 | k + 1, x13, x107000, x107001, x107002, x107003, x107004, x107005 => finite_valid.l4 k x13 (x107002.length : Int) 0 x107000 x107001 x107002 x107003 x107004 x107005
def finite_valid.l4 : Nat → Bool → Int → Int → Int → List Int → List Int → List Int → Int → List (List Int) → Option (Option Int)
 | 0, _, _, _, _, _, _, _, _, _ => none
 | k + 1, x13, x223, x224, x107000, x107001, x107002, x107003, x107004, x107005 => if x224 < x223 then (if x13 = true then (if x224 < (x107003.length : Int) then (if 0 ≤ x224 then (if x224 < (x107002.length : Int) then (if (rd x107002 x224) ≥ 0 then (finite_valid.l4 k (decide ((rd x107003 x224) ≥ 0)) x223 (wrap64 (x224 + 1)) x107000 x107001 x107002 x107003 x107004 x107005) else (finite_valid.l4 k false x223 (wrap64 (x224 + 1)) x107000 x107001 x107002 x107003 x107004 x107005)) else (none)) else (none)) else (finite_valid.l4 k false x223 (wrap64 (x224 + 1)) x107000 x107001 x107002 x107003 x107004 x107005)) else (finite_valid.l4 k false x223 (wrap64 (x224 + 1)) x107000 x107001 x107002 x107003 x107004 x107005)) else (if x13 = true then (some none) else (some (some 0)))
end
def finite_valid.f (k : Nat) (l0_0 : List (List Int)) (l0_1 : List (S44)) (a1_0 : Int) (l1_1 : List Int) (l1_2 : List Int) (l1_3 : List Int) (a1_4 : Int) (l1_5 : List (List Int)) : Option (Option Int) := if (l1_1.length : Int) > 60 then (finite_valid.j0 k true l0_0 l0_1 a1_0 l1_1 l1_2 l1_3 a1_4 l1_5) else (if (l1_2.length : Int) > 60 then (finite_valid.j0 k true l0_0 l0_1 a1_0 l1_1 l1_2 l1_3 a1_4 l1_5) else (if (l1_3.length : Int) > 60 then (finite_valid.j0 k true l0_0 l0_1 a1_0 l1_1 l1_2 l1_3 a1_4 l1_5) else (finite_valid.j0 k (decide ((l1_5.length : Int) > 200)) l0_0 l0_1 a1_0 l1_1 l1_2 l1_3 a1_4 l1_5)))
theorem finite_valid.mono_l : ∀ k, (∀ y0 y1 y2 y3 y4 y5 y6 y7 y8, LeO (finite_valid.j0 k y0 y1 y2 y3 y4 y5 y6 y7 y8) (finite_valid.j0 (k + 1) y0 y1 y2 y3 y4 y5 y6 y7 y8)) ∧ (∀ y0 y1 y2 y3 y4 y5 y6 y7 y8 y9 y10 y11, LeO (finite_valid.l0 k y0 y1 y2 y3 y4 y5 y6 y7 y8 y9 y10 y11) (finite_valid.l0 (k + 1) y0 y1 y2 y3 y4 y5 y6 y7 y8 y9 y10 y11)) ∧ (∀ y0 y1 y2 y3 y4 y5 y6 y7 y8 y9 y10, LeO (finite_valid.l1 k y0 y1 y2 y3 y4 y5 y6 y7 y8 y9 y10) (finite_valid.l1 (k + 1) y0 y1 y2 y3 y4 y5 y6 y7 y8 y9 y10)) ∧ (∀ y0 y1 y2 y3 y4 y5 y6 y7 y8 y9 y10, LeO (finite_valid.l2 k y0 y1 y2 y3 y4 y5 y6 y7 y8 y9 y10) (finite_valid.l2 (k + 1) y0 y1 y2 y3 y4 y5 y6 y7 y8 y9 y10)) ∧ (∀ y0 y1 y2 y3 y4 y5 y6 y7, LeO (finite_valid.j4 k y0 y1 y2 y3 y4 y5 y6 y7) (finite_valid.j4 (k + 1) y0 y1 y2 y3 y4 y5 y6 y7)) ∧ (∀ y0 y1 y2 y3 y4, LeO (finite_valid.l3 k y0 y1 y2 y3 y4) (finite_valid.l3 (k + 1) y0 y1 y2 y3 y4)) ∧ (∀ y0 y1 y2 y3 y4 y5 y6, LeO (finite_valid.j6 k y0 y1 y2 y3 y4 y5 y6) (finite_valid.j6 (k + 1) y0 y1 y2 y3 y4 y5 y6)) ∧ (∀ y0 y1 y2 y3 y4 y5 y6 y7 y8, LeO (finite_valid.l4 k y0 y1 y2 y3 y4 y5 y6 y7 y8) (finite_valid.l4 (k + 1) y0 y1 y2 y3 y4 y5 y6 y7 y8))
 | 0 => ⟨fun _ _ _ _ _ _ _ _ _ r h => by simp [finite_valid.j0] at h, fun _ _ _ _ _ _ _ _ _ _ _ _ r h => by simp [finite_valid.l0] at h, fun _ _ _ _ _ _ _ _ _ _ _ r h => by simp [finite_valid.l1] at h, fun _ _ _ _ _ _ _ _ _ _ _ r h => by simp [finite_valid.l2] at h, fun _ _ _ _ _ _ _ _ r h => by simp [finite_valid.j4] at h, fun _ _ _ _ _ r h => by simp [finite_valid.l3] at h, fun _ _ _ _ _ _ _ r h => by simp [finite_valid.j6] at h, fun _ _ _ _ _ _ _ _ _ r h => by simp [finite_valid.l4] at h⟩
 | k + 1 => by
  obtain ⟨ih0, ih1, ih2, ih3, ih4, ih5, ih6, ih7⟩ := finite_valid.mono_l k
  refine ⟨?_, ?_, ?_, ?_, ?_, ?_, ?_, ?_⟩
  ·intro y0 y1 y2 y3 y4 y5 y6 y7 y8
   unfold finite_valid.j0
   repeat' first | (with_reducible exact ih1 _ _ _ _ _ _ _ _ _ _ _ _) | (with_reducible exact LeO.refl _) | (with_reducible refine LeO.ite ?_ ?_) | (with_reducible refine LeO.bind ?_ (fun _ => ?_))
  ·intro y0 y1 y2 y3 y4 y5 y6 y7 y8 y9 y10 y11
   unfold finite_valid.l0
   repeat' first | (with_reducible exact ih1 _ _ _ _ _ _ _ _ _ _ _ _) | (with_reducible exact ih2 _ _ _ _ _ _ _ _ _ _ _) | (with_reducible exact LeO.refl _) | (with_reducible refine LeO.ite ?_ ?_)
  ·intro y0 y1 y2 y3 y4 y5 y6 y7 y8 y9 y10
   unfold finite_valid.l1
   repeat' first | (with_reducible exact ih2 _ _ _ _ _ _ _ _ _ _ _) | (with_reducible exact ih3 _ _ _ _ _ _ _ _ _ _ _) | (with_reducible exact LeO.refl _) | (with_reducible refine LeO.ite ?_ ?_)
  ·intro y0 y1 y2 y3 y4 y5 y6 y7 y8 y9 y10
   unfold finite_valid.l2
   repeat' first | (with_reducible exact ih3 _ _ _ _ _ _ _ _ _ _ _) | (with_reducible exact ih4 _ _ _ _ _ _ _ _) | (with_reducible exact ih6 _ _ _ _ _ _ _) | (with_reducible exact slices_Contains_int_int.mono _ _ _) | (with_reducible exact LeO.refl _) | (with_reducible refine LeO.ite ?_ ?_) | (with_reducible refine LeO.bind ?_ (fun _ => ?_))
  ·intro y0 y1 y2 y3 y4 y5 y6 y7
   unfold finite_valid.j4
   repeat' (with_reducible exact ih5 _ _ _ _ _)
  ·intro y0 y1 y2 y3 y4
   unfold finite_valid.l3
   repeat' first | (with_reducible exact ih5 _ _ _ _ _) | (with_reducible exact LeO.refl _) | (with_reducible refine LeO.ite ?_ ?_)
  ·intro y0 y1 y2 y3 y4 y5 y6
   unfold finite_valid.j6
   repeat' (with_reducible exact ih7 _ _ _ _ _ _ _ _ _)
  intro y0 y1 y2 y3 y4 y5 y6 y7 y8
  unfold finite_valid.l4
  repeat' first | (with_reducible exact ih7 _ _ _ _ _ _ _ _ _) | (with_reducible exact LeO.refl _) | (with_reducible refine LeO.ite ?_ ?_)
theorem finite_valid.mono : ∀ a0 a1 a2 a3 a4 a5 a6 a7 k, LeO (finite_valid.f k a0 a1 a2 a3 a4 a5 a6 a7) (finite_valid.f (k + 1) a0 a1 a2 a3 a4 a5 a6 a7) := by
 intro a0 a1 a2 a3 a4 a5 a6 a7 k
 obtain ⟨ih0, ih1, ih2, ih3, ih4, ih5, ih6, ih7⟩ := finite_valid.mono_l k
 unfold finite_valid.f
 repeat' first | (with_reducible exact ih0 _ _ _ _ _ _ _ _ _) | (with_reducible refine LeO.ite ?_ ?_)
def finite_valid.T3 : Bool × List (List Nat × List Nat) := (true, [([], []), ([0], [0]), ([1], [1]), ([], []), ([3], [3]), ([2, 4], [2, 4]), ([], []), ([6], [6]), ([5, 7, 5], [5, 7]), ([8, 8, 0, 1, 2, 3, 4, 5, 6, 7, 8], [8])])
def finite_valid.B3 : List Nat := [0, 1, 3, 0, 8, 31, 0, 64, 255, 511]
theorem finite_valid.tab3 : rtab .any (opsOf Tryd.f19 3) = finite_valid.T3 := by kernel_rfl
theorem finite_valid.bits3 : waitsOk finite_valid.T3.2 finite_valid.B3 = true := by kernel_rfl
set_option maxHeartbeats 8000000 in
set_option maxRecDepth 100000 in
theorem finite_valid.calls [Sn : Sents] (k : Nat) (A0_0 : Option Addr) (c0_0 : Nat) (l0_0 : List (List Int)) (A0_1 : Option Addr) (c0_1 : Nat) (l0_1 : List (S44)) (a1_0 : Int) (A1_1 : Option Addr) (c1_1 : Nat) (l1_1 : List Int) (A1_2 : Option Addr) (c1_2 : Nat) (l1_2 : List Int) (A1_3 : Option Addr) (c1_3 : Nat) (l1_3 : List Int) (a1_4 : Int) (A1_5 : Option Addr) (c1_5 : Nat) (l1_5 : List (List Int)) (r : Option Int) (w : World) (hr0_0 : Kd.C (Kd.slice 3 (Kd.int .i64)) w A0_0 l0_0.length l0_0) (hc0_0 : l0_0.length ≤ c0_0) (hr0_1 : Kd.C k44 w A0_1 l0_1.length l0_1) (hc0_1 : l0_1.length ≤ c0_1) (hr1_1 : Kd.C (Kd.int .i64) w A1_1 l1_1.length l1_1) (hc1_1 : l1_1.length ≤ c1_1) (hr1_2 : Kd.C (Kd.int .i64) w A1_2 l1_2.length l1_2) (hc1_2 : l1_2.length ≤ c1_2) (hr1_3 : Kd.C (Kd.int .i64) w A1_3 l1_3.length l1_3) (hc1_3 : l1_3.length ≤ c1_3) (hr1_5 : Kd.C (Kd.slice 3 (Kd.int .i64)) w A1_5 l1_5.length l1_5) (hc1_5 : l1_5.length ≤ c1_5) (h : finite_valid.f k l0_0 l0_1 a1_0 l1_1 l1_2 l1_3 a1_4 l1_5 = some r) (hS : Sent w := by first | assumption | exact Sent.ofB hS HB | (refine Sent.below hS ?_; (repeat (first | exact HB.out | apply below_alloc | apply pw_below_drewN | apply below_drew | (refine below_set ?_ (Aside0.out (by assumption)))))) | (repeat (first | exact hS | apply Sent.alloc | apply Sent.drewN | apply Sent.drew))) :
 Calls Tryd.prog 19 #[.agg #[.slice A0_0 l0_0.length c0_0, .slice A0_1 l0_1.length c0_1], .agg #[.int .i64 a1_0, .slice A1_1 l1_1.length c1_1, .slice A1_2 l1_2.length c1_2, .slice A1_3 l1_3.length c1_3, .int .i64 a1_4, .slice A1_5 l1_5.length c1_5]] w fun e w' => e = .returned (errW r) ∧ Below w.heap.size w w' := by
 have hu25 := Tryd.underlying25
 have hu44 := Tryd.underlying44
 have HR0_0 := Aside0.mk hr0_0
 have HC0_0 := Aside0.mk hc0_0
 clear hr0_0 hc0_0
 have HR0_1 := Aside0.mk hr0_1
 have HC0_1 := Aside0.mk hc0_1
 clear hr0_1 hc0_1
 have HR1_1 := Aside0.mk hr1_1
 have HC1_1 := Aside0.mk hc1_1
 clear hr1_1 hc1_1
 have HR1_2 := Aside0.mk hr1_2
 have HC1_2 := Aside0.mk hc1_2
 clear hr1_2 hc1_2
 have HR1_3 := Aside0.mk hr1_3
 have HC1_3 := Aside0.mk hc1_3
 clear hr1_3 hc1_3
 have HR1_5 := Aside0.mk hr1_5
 have HC1_5 := Aside0.mk hc1_5
 clear hr1_5 hc1_5
 have HB := Aside0.mk (Below.refl w.heap.size w)
 have H : (if (l1_1.length : Int) > 60 then (finite_valid.j0 k true l0_0 l0_1 a1_0 l1_1 l1_2 l1_3 a1_4 l1_5) else (if (l1_2.length : Int) > 60 then (finite_valid.j0 k true l0_0 l0_1 a1_0 l1_1 l1_2 l1_3 a1_4 l1_5) else (if (l1_3.length : Int) > 60 then (finite_valid.j0 k true l0_0 l0_1 a1_0 l1_1 l1_2 l1_3 a1_4 l1_5) else (finite_valid.j0 k (decide ((l1_5.length : Int) > 200)) l0_0 l0_1 a1_0 l1_1 l1_2 l1_3 a1_4 l1_5)))) = some r := h
 clear h
 have HC3 := Aside0.mk H
 clear H
 go_enter Tryd.func19, Tryd.ntmps19
 go_upto_region 1 with (first | ((with_reducible refine gate_dst (N := 2) rfl ?_); (try (refine gate_guard (by rfl) ?_; dsimp only)); refine box_event ?hg (N := 2) ?hd (cs := #[.slice A0_0 l0_0.length c0_0, .slice A0_1 l0_1.length c0_1]) (t := 25) ?hr ?_; (case hd => rfl); (case hg => rfl); (case hr => (go_simp; done)); intro gb105 hg w4 hbox hb; have n0_ := Aside0.mk (below_step (by exact HB.out) hb); have n1_ := Aside0.mk (hbox); have n2_ := Aside0.mk ((by rw [hg]; exact (below_size (by exact HB.out)) : w.heap.size ≤ gb105)); have n3_ := Aside0.mk ((by rw [hg]; exact (below_size (by exact HB.out)) : w.heap.size ≤ gb105)); clear HB; have HB := n0_; have BK105 := n1_; have GW105 := n2_; have GE105 := n3_; clear n0_ n1_ n2_ n3_; clear hb hbox hg) | ((with_reducible refine gate_dst (N := 3) rfl ?_); (try (refine gate_guard (by rfl) ?_; dsimp only)); refine box_event ?hg (N := 3) ?hd (cs := #[.int .i64 a1_0, .slice A1_1 l1_1.length c1_1, .slice A1_2 l1_2.length c1_2, .slice A1_3 l1_3.length c1_3, .int .i64 a1_4, .slice A1_5 l1_5.length c1_5]) (t := 44) ?hr ?_; (case hd => rfl); (case hg => rfl); (case hr => (go_simp; done)); intro gb106 hg w5 hbox hb; have n0_ := Aside0.mk (blk_below (g := gb105) (o := .cells #[.slice A0_0 l0_0.length c0_0, .slice A0_1 l0_1.length c0_1] 25 (0, 0)) (by exact BK105.out) hb); have n1_ := Aside0.mk (below_step (by exact HB.out) hb); have n2_ := Aside0.mk (hbox); have n3_ := Aside0.mk ((by rw [hg]; exact (below_size (by exact HB.out)) : w.heap.size ≤ gb106)); have n4_ := Aside0.mk ((by rw [hg]; exact (below_size (by exact HB.out)) : w.heap.size ≤ gb106)); have n5_ := Aside0.mk ((by rw [hg]; exact Nat.ne_of_lt (blk_lt (g := gb105) (o := .cells #[.slice A0_0 l0_0.length c0_0, .slice A0_1 l0_1.length c0_1] 25 (0, 0)) (by exact BK105.out)) : gb105 ≠ gb106)); have n6_ := Aside0.mk ((by rw [hg]; exact Nat.ne_of_gt (blk_lt (g := gb105) (o := .cells #[.slice A0_0 l0_0.length c0_0, .slice A0_1 l0_1.length c0_1] 25 (0, 0)) (by exact BK105.out)) : gb106 ≠ gb105)); clear BK105; clear HB; have BK105 := n0_; have HB := n1_; have BK106 := n2_; have GW106 := n3_; have GE106 := n4_; have NB105_106 := n5_; have NB106_105 := n6_; clear n0_ n1_ n2_ n3_ n4_ n5_ n6_; clear hb hbox hg))
 (try simp only [Act.put, List.setIfInBounds_toArray, List.set_cons_zero, List.set_cons_succ])
 go_cut [38] (fun v38 wc => ∃ (kq : Nat) (x38_2 : Bool), v38 = .bool x38_2 ∧ Aside0 (finite_valid.j0 kq x38_2 l0_0 l0_1 a1_0 l1_1 l1_2 l1_3 a1_4 l1_5 = some r) ∧ Aside0 (kq ≤ k) ∧ Aside0 (wc.heap[gb105]? = some (.cells #[(.slice A0_0 l0_0.length c0_0), (.slice A0_1 l0_1.length c0_1)] 25 (0, 0))) ∧ Aside0 (wc.heap[gb106]? = some (.cells #[.int .i64 a1_0, (.slice A1_1 l1_1.length c1_1), (.slice A1_2 l1_2.length c1_2), (.slice A1_3 l1_3.length c1_3), .int .i64 a1_4, (.slice A1_5 l1_5.length c1_5)] 44 (0, 0))) ∧ Aside0 (Below w.heap.size w wc))
 case first => as_aux_lemma =>
  have H := HC3.out
  clear HC3
  by_cases c6 : (l1_1.length : Int) > 60
  ·rw [if_pos c6] at H
   have c6b0 : decide (60 < (l1_1.length : Int)) = true := decide_eq_true c6
   have c6b1 : decide (60 < l1_1.length) = true := decide_eq_true (by omega)
   clear c6
   (skip)
   have H' := Aside0.mk H
   clear H
   have hnb7 := NB106_105.out
   have hnc7 := NB105_106.out
   have hcz8_0 : w5.cell? ⟨gb106, 0, none⟩ = some (.int .i64 a1_0) := (blk_cell BK106.out 0).trans rfl
   have hcz8_1 : w5.cell? ⟨gb106, 1, none⟩ = some (.slice A1_1 l1_1.length c1_1) := (blk_cell BK106.out 1).trans rfl
   have hcz8_2 : w5.cell? ⟨gb106, 2, none⟩ = some (.slice A1_2 l1_2.length c1_2) := (blk_cell BK106.out 2).trans rfl
   have hcz8_3 : w5.cell? ⟨gb106, 3, none⟩ = some (.slice A1_3 l1_3.length c1_3) := (blk_cell BK106.out 3).trans rfl
   have hcz8_4 : w5.cell? ⟨gb106, 4, none⟩ = some (.int .i64 a1_4) := (blk_cell BK106.out 4).trans rfl
   have hcz8_5 : w5.cell? ⟨gb106, 5, none⟩ = some (.slice A1_5 l1_5.length c1_5) := (blk_cell BK106.out 5).trans rfl
   have hfz8_0 := blk_frozen BK106.out 0
   have hfz8_1 := blk_frozen BK106.out 1
   have hfz8_2 := blk_frozen BK106.out 2
   have hfz8_3 := blk_frozen BK106.out 3
   have hfz8_4 := blk_frozen BK106.out 4
   have hfz8_5 := blk_frozen BK106.out 5
   (try clear hSr)
   (try have hSr := Sent.ofB hS HB)
   go_wp2
   go_meet
   case rel => exact ⟨_, (true), (by rfl), H', ⟨by omega⟩, ⟨by exact BK105.out⟩, ⟨by exact BK106.out⟩, ⟨by exact HB.out⟩⟩
  rw [if_neg c6] at H
  have c6b0 : decide (60 < (l1_1.length : Int)) = false := decide_eq_false c6
  have c6b1 : decide (60 < l1_1.length) = false := decide_eq_false (by omega)
  clear c6
  (skip)
  by_cases c9 : (l1_2.length : Int) > 60
  ·rw [if_pos c9] at H
   have c9b0 : decide (60 < (l1_2.length : Int)) = true := decide_eq_true c9
   have c9b1 : decide (60 < l1_2.length) = true := decide_eq_true (by omega)
   clear c9
   have H' := Aside0.mk H
   clear H
   have hnb10 := NB106_105.out
   have hnc10 := NB105_106.out
   have hcz11_0 : w5.cell? ⟨gb106, 0, none⟩ = some (.int .i64 a1_0) := (blk_cell BK106.out 0).trans rfl
   have hcz11_1 : w5.cell? ⟨gb106, 1, none⟩ = some (.slice A1_1 l1_1.length c1_1) := (blk_cell BK106.out 1).trans rfl
   have hcz11_2 : w5.cell? ⟨gb106, 2, none⟩ = some (.slice A1_2 l1_2.length c1_2) := (blk_cell BK106.out 2).trans rfl
   have hcz11_3 : w5.cell? ⟨gb106, 3, none⟩ = some (.slice A1_3 l1_3.length c1_3) := (blk_cell BK106.out 3).trans rfl
   have hcz11_4 : w5.cell? ⟨gb106, 4, none⟩ = some (.int .i64 a1_4) := (blk_cell BK106.out 4).trans rfl
   have hcz11_5 : w5.cell? ⟨gb106, 5, none⟩ = some (.slice A1_5 l1_5.length c1_5) := (blk_cell BK106.out 5).trans rfl
   have hfz11_0 := blk_frozen BK106.out 0
   have hfz11_1 := blk_frozen BK106.out 1
   have hfz11_2 := blk_frozen BK106.out 2
   have hfz11_3 := blk_frozen BK106.out 3
   have hfz11_4 := blk_frozen BK106.out 4
   have hfz11_5 := blk_frozen BK106.out 5
   (try clear hSr)
   (try have hSr := Sent.ofB hS HB)
   go_wp2
   go_meet
   case rel => exact ⟨_, (true), (by rfl), H', ⟨by omega⟩, ⟨by exact BK105.out⟩, ⟨by exact BK106.out⟩, ⟨by exact HB.out⟩⟩
  rw [if_neg c9] at H
  have c9b0 : decide (60 < (l1_2.length : Int)) = false := decide_eq_false c9
  have c9b1 : decide (60 < l1_2.length) = false := decide_eq_false (by omega)
  clear c9
  by_cases c12 : (l1_3.length : Int) > 60
  ·rw [if_pos c12] at H
   have c12b0 : decide (60 < (l1_3.length : Int)) = true := decide_eq_true c12
   have c12b1 : decide (60 < l1_3.length) = true := decide_eq_true (by omega)
   clear c12
   have H' := Aside0.mk H
   clear H
   have hnb13 := NB106_105.out
   have hnc13 := NB105_106.out
   have hcz14_0 : w5.cell? ⟨gb106, 0, none⟩ = some (.int .i64 a1_0) := (blk_cell BK106.out 0).trans rfl
   have hcz14_1 : w5.cell? ⟨gb106, 1, none⟩ = some (.slice A1_1 l1_1.length c1_1) := (blk_cell BK106.out 1).trans rfl
   have hcz14_2 : w5.cell? ⟨gb106, 2, none⟩ = some (.slice A1_2 l1_2.length c1_2) := (blk_cell BK106.out 2).trans rfl
   have hcz14_3 : w5.cell? ⟨gb106, 3, none⟩ = some (.slice A1_3 l1_3.length c1_3) := (blk_cell BK106.out 3).trans rfl
   have hcz14_4 : w5.cell? ⟨gb106, 4, none⟩ = some (.int .i64 a1_4) := (blk_cell BK106.out 4).trans rfl
   have hcz14_5 : w5.cell? ⟨gb106, 5, none⟩ = some (.slice A1_5 l1_5.length c1_5) := (blk_cell BK106.out 5).trans rfl
   have hfz14_0 := blk_frozen BK106.out 0
   have hfz14_1 := blk_frozen BK106.out 1
   have hfz14_2 := blk_frozen BK106.out 2
   have hfz14_3 := blk_frozen BK106.out 3
   have hfz14_4 := blk_frozen BK106.out 4
   have hfz14_5 := blk_frozen BK106.out 5
   (try clear hSr)
   (try have hSr := Sent.ofB hS HB)
   go_wp2
   go_meet
   case rel => exact ⟨_, (true), (by rfl), H', ⟨by omega⟩, ⟨by exact BK105.out⟩, ⟨by exact BK106.out⟩, ⟨by exact HB.out⟩⟩
  rw [if_neg c12] at H
  have c12b0 : decide (60 < (l1_3.length : Int)) = false := decide_eq_false c12
  have c12b1 : decide (60 < l1_3.length) = false := decide_eq_false (by omega)
  clear c12
  have H' := Aside0.mk H
  clear H
  have hnb15 := NB106_105.out
  have hnc15 := NB105_106.out
  have hcz16_0 : w5.cell? ⟨gb106, 0, none⟩ = some (.int .i64 a1_0) := (blk_cell BK106.out 0).trans rfl
  have hcz16_1 : w5.cell? ⟨gb106, 1, none⟩ = some (.slice A1_1 l1_1.length c1_1) := (blk_cell BK106.out 1).trans rfl
  have hcz16_2 : w5.cell? ⟨gb106, 2, none⟩ = some (.slice A1_2 l1_2.length c1_2) := (blk_cell BK106.out 2).trans rfl
  have hcz16_3 : w5.cell? ⟨gb106, 3, none⟩ = some (.slice A1_3 l1_3.length c1_3) := (blk_cell BK106.out 3).trans rfl
  have hcz16_4 : w5.cell? ⟨gb106, 4, none⟩ = some (.int .i64 a1_4) := (blk_cell BK106.out 4).trans rfl
  have hcz16_5 : w5.cell? ⟨gb106, 5, none⟩ = some (.slice A1_5 l1_5.length c1_5) := (blk_cell BK106.out 5).trans rfl
  have hfz16_0 := blk_frozen BK106.out 0
  have hfz16_1 := blk_frozen BK106.out 1
  have hfz16_2 := blk_frozen BK106.out 2
  have hfz16_3 := blk_frozen BK106.out 3
  have hfz16_4 := blk_frozen BK106.out 4
  have hfz16_5 := blk_frozen BK106.out 5
  (try clear hSr)
  (try have hSr := Sent.ofB hS HB)
  go_wp2
  go_meet
  case rel => exact ⟨_, (decide ((l1_5.length : Int) > 200)), (by rfl), H', ⟨by omega⟩, ⟨by exact BK105.out⟩, ⟨by exact BK106.out⟩, ⟨by exact HB.out⟩⟩
 case rest => as_aux_lemma =>
  clear HC3
  try clear c1
  try clear p2
  try clear c6
  try clear c6b0
  try clear c6b1
  try clear c7
  try clear c9
  try clear c9b0
  try clear c9b1
  try clear c10
  try clear c12
  try clear c12b0
  try clear c12b1
  try clear c13
  try clear c15
  try clear hcz11_0
  try clear hcz11_1
  try clear hcz11_2
  try clear hcz11_3
  try clear hcz11_4
  try clear hcz11_5
  try clear hcz14_0
  try clear hcz14_1
  try clear hcz14_2
  try clear hcz14_3
  try clear hcz14_4
  try clear hcz14_5
  try clear hcz16_0
  try clear hcz16_1
  try clear hcz16_2
  try clear hcz16_3
  try clear hcz16_4
  try clear hcz16_5
  try clear hcz8_0
  try clear hcz8_1
  try clear hcz8_2
  try clear hcz8_3
  try clear hcz8_4
  try clear hcz8_5
  try clear hfz11_0
  try clear hfz11_1
  try clear hfz11_2
  try clear hfz11_3
  try clear hfz11_4
  try clear hfz11_5
  try clear hfz14_0
  try clear hfz14_1
  try clear hfz14_2
  try clear hfz14_3
  try clear hfz14_4
  try clear hfz14_5
  try clear hfz16_0
  try clear hfz16_1
  try clear hfz16_2
  try clear hfz16_3
  try clear hfz16_4
  try clear hfz16_5
  try clear hfz8_0
  try clear hfz8_1
  try clear hfz8_2
  try clear hfz8_3
  try clear hfz8_4
  try clear hfz8_5
  obtain ⟨kq, x38_2, rfl, HA, HJ2, BK105, BK106, HB⟩ := hcut
  rcases kq with _ | kj2
  ·exact absurd HA.out (by simp [finite_valid.j0])
  have H := HA.out
  clear HA
  simp only [finite_valid.j0] at H
  by_cases c17 : x38_2 = true
  ·subst c17
   have H1 : (some (some 1)) = some r := by rw [if_pos rfl] at H; exact H
   clear H
   have H := H1
   clear H1
   obtain rfl := Option.some.inj H
   (try clear hSr)
   (try have hSr := Sent.ofB hS HB)
   go_wp2
   go_ret
   exact ⟨by rfl, by exact HB.out⟩
  replace c17 := Bool.eq_false_iff.mpr c17
  subst c17
  have H1 : ((some (([a1_4] : List Int) : List Int)).bind fun y107 => (if y107.length + l1_2.length < 17592186044416 then ((some (y107 ++ l1_2 : List Int)).bind fun y110 => (if y110.length + l1_3.length < 17592186044416 then (finite_valid.l0 kj2 (y110 ++ l1_3) l1_5 (l1_5.length : Int) 0 l0_0 l0_1 a1_0 l1_1 l1_2 l1_3 a1_4 l1_5) else (none))) else (none))) = some r := by rw [if_neg (show ¬ (false = true) by decide)] at H; exact H
  clear H
  have H := H1
  clear H1
  obtain ⟨y107, hy107⟩ : ∃ y_ : List Int, y_ = (([a1_4] : List Int)) := ⟨_, rfl⟩
  replace H : (if y107.length + l1_2.length < 17592186044416 then ((some (y107 ++ l1_2 : List Int)).bind fun y110 => (if y110.length + l1_3.length < 17592186044416 then (finite_valid.l0 kj2 (y110 ++ l1_3) l1_5 (l1_5.length : Int) 0 l0_0 l0_1 a1_0 l1_1 l1_2 l1_3 a1_4 l1_5) else (none))) else (none)) = some r := by (have H2_ := (Option.bind_some _ _).symm.trans H; rw [hy107]; with_reducible exact H2_)
  have Ny107 := Aside0.mk hy107
  clear hy107
  by_cases c18 : y107.length + l1_2.length < 17592186044416
  ·rw [if_pos c18] at H
   have LMc18 := Aside0.mk c18
   clear c18
   obtain ⟨y110, hy110⟩ : ∃ y_ : List Int, y_ = (y107 ++ l1_2) := ⟨_, rfl⟩
   replace H : (if y110.length + l1_3.length < 17592186044416 then (finite_valid.l0 kj2 (y110 ++ l1_3) l1_5 (l1_5.length : Int) 0 l0_0 l0_1 a1_0 l1_1 l1_2 l1_3 a1_4 l1_5) else (none)) = some r := by (have H2_ := (Option.bind_some _ _).symm.trans H; rw [hy110]; with_reducible exact H2_)
   have Ny110 := Aside0.mk hy110
   clear hy110
   by_cases c19 : y110.length + l1_3.length < 17592186044416
   ·rw [if_pos c19] at H
    have LMc19 := Aside0.mk c19
    clear c19
    obtain ⟨y113, hy113⟩ : ∃ y_ : List Int, y_ = (y110 ++ l1_3) := ⟨_, rfl⟩
    replace H : (finite_valid.l0 kj2 y113 l1_5 (l1_5.length : Int) 0 l0_0 l0_1 a1_0 l1_1 l1_2 l1_3 a1_4 l1_5) = some r := by (rw [hy113]; with_reducible exact H)
    have Ny113 := Aside0.mk hy113
    clear hy113
    have H' := Aside0.mk H
    clear H
    (try clear hSr)
    (try have hSr := Sent.ofB hS HB)
    try go_wp2
    have n0_ := Aside0.mk (blk_drew BK105.out)
    have n1_ := Aside0.mk (blk_drew BK106.out)
    have n2_ := Aside0.mk (below_drew1 HB.out)
    clear BK105
    clear BK106
    clear HB
    have BK105 := n0_
    have BK106 := n1_
    have HB := n2_
    clear n0_ n1_ n2_
    refine start_ (n := 10) (S := fun w' => w'.cell? ⟨gb106, 0, none⟩ = some (.int .i64 a1_0) ∧ w'.cell? ⟨gb106, 1, none⟩ = some (.slice A1_1 l1_1.length c1_1) ∧ w'.cell? ⟨gb106, 2, none⟩ = some (.slice A1_2 l1_2.length c1_2) ∧ w'.cell? ⟨gb106, 3, none⟩ = some (.slice A1_3 l1_3.length c1_3) ∧ w'.cell? ⟨gb106, 4, none⟩ = some (.int .i64 a1_4) ∧ w'.cell? ⟨gb106, 5, none⟩ = some (.slice A1_5 l1_5.length c1_5)) (ds := []) #[false, false, false, false, false, false, false, false, false, false] (by kernel_rfl) rfl rfl ⟨(blk_cell BK106.out 0).trans rfl, (blk_cell BK106.out 1).trans rfl, (blk_cell BK106.out 2).trans rfl, (blk_cell BK106.out 3).trans rfl, (blk_cell BK106.out 4).trans rfl, (blk_cell BK106.out 5).trans rfl⟩ (fun hHeld => ?_); refine with_tabW finite_valid.tab3 finite_valid.bits3 (fun HT_ HW_ => ?_)
    generalize wc.drew = w20 at BK105 BK106 HB hHeld ⊢
    refine pure_ (i := 0) (N := some 40) (v := ?_) (a' := ?_) #[true, false, false, false, false, false, false, false, false, false] rfl rfl (any_of HT_.out (by kernel_rfl)) (fun _ _ _ h => h) (Or.inl ⟨by rfl, ?_⟩) ?_ ?_
    rotate_left
    ·intro w'
     go_simp
     with_reducible rfl
    rotate_left
    ·simp only [Act.put, List.setIfInBounds_toArray, List.set_cons_zero, List.set_cons_succ, i64_w, i32_w]
     rfl
    refine pure_ (i := 3) (N := some 43) (v := ?_) (a' := ?_) #[true, false, false, true, false, false, false, false, false, false] rfl rfl (any_of HT_.out (by kernel_rfl)) (fun _ _ _ h => h) (Or.inl ⟨by rfl, ?_⟩) ?_ ?_
    rotate_left
    ·intro w'
     go_simp
     with_reducible rfl
    rotate_left
    ·simp only [Act.put, List.setIfInBounds_toArray, List.set_cons_zero, List.set_cons_succ, i64_w, i32_w]
     rfl
    refine pure_ (i := 6) (N := some 46) (v := ?_) (a' := ?_) #[true, false, false, true, false, false, true, false, false, false] rfl rfl (any_of HT_.out (by kernel_rfl)) (fun _ _ _ h => h) (Or.inl ⟨by rfl, ?_⟩) ?_ ?_
    rotate_left
    ·intro w'
     go_simp
     with_reducible rfl
    rotate_left
    ·simp only [Act.put, List.setIfInBounds_toArray, List.set_cons_zero, List.set_cons_succ, i64_w, i32_w]
     rfl
    refine take_ (i := 1) (N := some 41) (v := ?_) (a' := ?_) #[true, true, false, true, false, false, true, false, false, false] rfl rfl (take_ofW HT_.out HW_.out (by kernel_rfl)) (fun _ _ _ h => h) (Or.inl ⟨by rfl, ?_⟩) hHeld ?_ ?_
    rotate_left
    ·rintro w' ⟨s0, s1, s2, s3, s4, s5⟩
     go_simp
     with_reducible rfl
    rotate_left
    ·simp only [Act.put, List.setIfInBounds_toArray, List.set_cons_zero, List.set_cons_succ, i64_w, i32_w]
     rfl
    refine take_ (i := 4) (N := some 44) (v := ?_) (a' := ?_) #[true, true, false, true, true, false, true, false, false, false] rfl rfl (take_ofW HT_.out HW_.out (by kernel_rfl)) (fun _ _ _ h => h) (Or.inl ⟨by rfl, ?_⟩) hHeld ?_ ?_
    rotate_left
    ·rintro w' ⟨s0, s1, s2, s3, s4, s5⟩
     go_simp
     with_reducible rfl
    rotate_left
    ·simp only [Act.put, List.setIfInBounds_toArray, List.set_cons_zero, List.set_cons_succ, i64_w, i32_w]
     rfl
    refine take_ (i := 7) (N := some 47) (v := ?_) (a' := ?_) #[true, true, false, true, true, false, true, true, false, false] rfl rfl (take_ofW HT_.out HW_.out (by kernel_rfl)) (fun _ _ _ h => h) (Or.inl ⟨by rfl, ?_⟩) hHeld ?_ ?_
    rotate_left
    ·rintro w' ⟨s0, s1, s2, s3, s4, s5⟩
     go_simp
     with_reducible rfl
    rotate_left
    ·simp only [Act.put, List.setIfInBounds_toArray, List.set_cons_zero, List.set_cons_succ, i64_w, i32_w]
     rfl
    refine one_ (i := 2) (N := some 42) #[true, true, true, true, true, false, true, true, false, false] rfl rfl (one_of HT_.out (by kernel_rfl)) (by decide) (fun K hK => ?_)
    refine Kd.R_lit_step (Kd.int .i64) _ 3 ?hg (N := 42) ?hd (xs := ([a1_4] : List Int)) (inner := [.int .i64 a1_4]) (ok := fun _ => True) (okp := fun _ => True) ?hr ?hp (fun _ hk => hk) trivial (Below.refl _ _) (Nat.le_refl _) (by simp) ?_; (case hd => rfl); (case hg => rfl); (case hr => (go_simp; done)); (case hp => exact (Reps.one (show Kd.M (Kd.int .i64) _ _ _ a1_4 [.int .i64 a1_4] from rfl) (Reps.none _ _)))
    intro v108 w21 ho22 hb hg_ hnew_
    clear hg_ hnew_
    (rw [← Ny107.out] at ho22)
    have n0_ := Aside0.mk (Kd.R_lower ho22 (below_size (by exact HB.out)))
    have n1_ := Aside0.mk (blk_below (g := gb105) (o := .cells #[.slice A0_0 l0_0.length c0_0, .slice A0_1 l0_1.length c0_1] 25 (0, 0)) (by exact BK105.out) hb)
    have n2_ := Aside0.mk (blk_below (g := gb106) (o := .cells #[.int .i64 a1_0, .slice A1_1 l1_1.length c1_1, .slice A1_2 l1_2.length c1_2, .slice A1_3 l1_3.length c1_3, .int .i64 a1_4, .slice A1_5 l1_5.length c1_5] 44 (0, 0)) (by exact BK106.out) hb)
    have n3_ := Aside0.mk (below_step (by exact HB.out) hb)
    clear BK105
    clear BK106
    clear HB
    have HO109 := n0_
    have BK105 := n1_
    have BK106 := n2_
    have HB := n3_
    clear n0_ n1_ n2_ n3_
    clear hb ho22
    refine hK.out _ _ ⟨(blk_cell BK106.out 0).trans rfl, (blk_cell BK106.out 1).trans rfl, (blk_cell BK106.out 2).trans rfl, (blk_cell BK106.out 3).trans rfl, (blk_cell BK106.out 4).trans rfl, (blk_cell BK106.out 5).trans rfl⟩ (fun hHeld => ?_)
    clear hK K
    refine norm_ (a' := ?_) ?_ ?_
    rotate_left
    ·show Act.put _ (some 42) _ = _
     simp only [Act.put, List.setIfInBounds_toArray, List.set_cons_zero, List.set_cons_succ, i64_w, i32_w]
     rfl
    refine one_ (i := 5) (N := some 45) #[true, true, true, true, true, true, true, true, false, false] rfl rfl (one_of HT_.out (by kernel_rfl)) (by decide) (fun K hK => ?_)
    refine Kd.R_append_rows_step (Kd.int .i64) (w0 := w) w.heap.size (by rfl) (.tmp 42) (.tmp 44) 26 3 (.int .i64 0) 8 rfl Tryd.underlying26 info3 rfl (by decide) (by omega) v108 y107 l1_2 _ _ _ (fun _ => True) (fun _ => False) rfl rfl ?aO ?aR (fun _ _ h => h) (fun _ h => h.elim) ?aF ?aB ?aS ?aL ?_
    (case aR => repeat (exact (Kd.C_below HR1_2.out HB.out)))
    (case aB => exact (by exact HB.out))
    (case aF => exact (fun _ _ => trivial))
    (case aO => exact (by exact HO109.out))
    (case aS => exact (below_size (by exact HB.out)))
    (case aL => have := LMc18.out; omega)
    intro v111 w23 ho hb hg hat
    rw [← Ny110.out] at ho
    have n0_ := Aside0.mk (blk_grown (g := gb105) (o := .cells #[.slice A0_0 l0_0.length c0_0, .slice A0_1 l0_1.length c0_1] 25 (0, 0)) (by exact BK105.out) hg (Kd.R_ne HO109.out BK105.out (by decide)))
    have n1_ := Aside0.mk (blk_grown (g := gb106) (o := .cells #[.int .i64 a1_0, .slice A1_1 l1_1.length c1_1, .slice A1_2 l1_2.length c1_2, .slice A1_3 l1_3.length c1_3, .int .i64 a1_4, .slice A1_5 l1_5.length c1_5] 44 (0, 0)) (by exact BK106.out) hg (Kd.R_ne HO109.out BK106.out (by decide)))
    have n2_ := Aside0.mk (hb)
    have n3_ := Aside0.mk (ho)
    clear BK105
    clear BK106
    clear HB
    clear HO109
    have BK105 := n0_
    have BK106 := n1_
    have HB := n2_
    have HO112 := n3_
    clear n0_ n1_ n2_ n3_
    clear ho hb hg hat
    refine hK.out _ _ ⟨(blk_cell BK106.out 0).trans rfl, (blk_cell BK106.out 1).trans rfl, (blk_cell BK106.out 2).trans rfl, (blk_cell BK106.out 3).trans rfl, (blk_cell BK106.out 4).trans rfl, (blk_cell BK106.out 5).trans rfl⟩ (fun hHeld => ?_)
    clear hK K
    refine norm_ (a' := ?_) ?_ ?_
    rotate_left
    ·show Act.put _ (some 45) _ = _
     simp only [Act.put, List.setIfInBounds_toArray, List.set_cons_zero, List.set_cons_succ, i64_w, i32_w]
     rfl
    refine one_ (i := 8) (N := some 48) #[true, true, true, true, true, true, true, true, true, false] rfl rfl (one_of HT_.out (by kernel_rfl)) (by decide) (fun K hK => ?_)
    refine Kd.R_append_rows_step (Kd.int .i64) (w0 := w) w.heap.size (by rfl) (.tmp 45) (.tmp 47) 26 3 (.int .i64 0) 8 rfl Tryd.underlying26 info3 rfl (by decide) (by omega) v111 y110 l1_3 _ _ _ (fun _ => True) (fun _ => False) rfl rfl ?aO ?aR (fun _ _ h => h) (fun _ h => h.elim) ?aF ?aB ?aS ?aL ?_
    (case aR => repeat (exact (Kd.C_below HR1_3.out HB.out)))
    (case aB => exact (by exact HB.out))
    (case aF => exact (fun _ _ => trivial))
    (case aO => exact (by exact HO112.out))
    (case aS => exact (below_size (by exact HB.out)))
    (case aL => have := LMc19.out; omega)
    intro v114 w24 ho hb hg hat
    rw [← Ny113.out] at ho
    have n0_ := Aside0.mk (blk_grown (g := gb105) (o := .cells #[.slice A0_0 l0_0.length c0_0, .slice A0_1 l0_1.length c0_1] 25 (0, 0)) (by exact BK105.out) hg (Kd.R_ne HO112.out BK105.out (by decide)))
    have n1_ := Aside0.mk (blk_grown (g := gb106) (o := .cells #[.int .i64 a1_0, .slice A1_1 l1_1.length c1_1, .slice A1_2 l1_2.length c1_2, .slice A1_3 l1_3.length c1_3, .int .i64 a1_4, .slice A1_5 l1_5.length c1_5] 44 (0, 0)) (by exact BK106.out) hg (Kd.R_ne HO112.out BK106.out (by decide)))
    have n2_ := Aside0.mk (hb)
    have n3_ := Aside0.mk (ho)
    clear BK105
    clear BK106
    clear HB
    clear HO112
    have BK105 := n0_
    have BK106 := n1_
    have HB := n2_
    have HO115 := n3_
    clear n0_ n1_ n2_ n3_
    clear ho hb hg hat
    refine hK.out _ _ ⟨(blk_cell BK106.out 0).trans rfl, (blk_cell BK106.out 1).trans rfl, (blk_cell BK106.out 2).trans rfl, (blk_cell BK106.out 3).trans rfl, (blk_cell BK106.out 4).trans rfl, (blk_cell BK106.out 5).trans rfl⟩ (fun hHeld => ?_)
    clear hK K
    refine norm_ (a' := ?_) ?_ ?_
    rotate_left
    ·show Act.put _ (some 48) _ = _
     simp only [Act.put, List.setIfInBounds_toArray, List.set_cons_zero, List.set_cons_succ, i64_w, i32_w]
     rfl
    refine pure_ (i := 9) (N := some 5) (v := ?_) (a' := ?_) #[true, true, true, true, true, true, true, true, true, true] rfl rfl (any_of HT_.out (by kernel_rfl)) (fun _ _ _ h => h) (Or.inl ⟨by rfl, ?_⟩) ?_ ?_
    rotate_left
    ·intro w'
     go_simp
     with_reducible rfl
    rotate_left
    ·simp only [Act.put, List.setIfInBounds_toArray, List.set_cons_zero, List.set_cons_succ, i64_w, i32_w]
     rfl
    refine done_ (done_of HT_.out (by kernel_rfl)) ?_
    have hnb25 := NB106_105.out
    have hnc25 := NB105_106.out
    have hcz26_0 : w24.cell? ⟨gb106, 0, none⟩ = some (.int .i64 a1_0) := (blk_cell BK106.out 0).trans rfl
    have hcz26_1 : w24.cell? ⟨gb106, 1, none⟩ = some (.slice A1_1 l1_1.length c1_1) := (blk_cell BK106.out 1).trans rfl
    have hcz26_2 : w24.cell? ⟨gb106, 2, none⟩ = some (.slice A1_2 l1_2.length c1_2) := (blk_cell BK106.out 2).trans rfl
    have hcz26_3 : w24.cell? ⟨gb106, 3, none⟩ = some (.slice A1_3 l1_3.length c1_3) := (blk_cell BK106.out 3).trans rfl
    have hcz26_4 : w24.cell? ⟨gb106, 4, none⟩ = some (.int .i64 a1_4) := (blk_cell BK106.out 4).trans rfl
    have hcz26_5 : w24.cell? ⟨gb106, 5, none⟩ = some (.slice A1_5 l1_5.length c1_5) := (blk_cell BK106.out 5).trans rfl
    have hfz26_0 := blk_frozen BK106.out 0
    have hfz26_1 := blk_frozen BK106.out 1
    have hfz26_2 := blk_frozen BK106.out 2
    have hfz26_3 := blk_frozen BK106.out 3
    have hfz26_4 := blk_frozen BK106.out 4
    have hfz26_5 := blk_frozen BK106.out 5
    (try clear hSr)
    (try have hSr := Sent.ofB hS HB)
    try go_wp2
    go_loopg [5, 52] kj2 (fun kq v5 v52 w' => ∃ (x5_2 : List Int) (x52_2 : Int), v52 = .int .i64 x52_2 ∧ Aside0 (finite_valid.l0 kq x5_2 l1_5 (l1_5.length : Int) x52_2 l0_0 l0_1 a1_0 l1_1 l1_2 l1_3 a1_4 l1_5 = some r) ∧ Aside0 (kq ≤ kj2) ∧ Aside0 (Kd.R (Kd.int .i64) 3 w' w.heap.size (fun _ => True) v5 x5_2) ∧ Aside0 (w'.heap[gb105]? = some (.cells #[(.slice A0_0 l0_0.length c0_0), (.slice A0_1 l0_1.length c0_1)] 25 (0, 0))) ∧ Aside0 (w'.heap[gb106]? = some (.cells #[.int .i64 a1_0, (.slice A1_1 l1_1.length c1_1), (.slice A1_2 l1_2.length c1_2), (.slice A1_3 l1_3.length c1_3), .int .i64 a1_4, (.slice A1_5 l1_5.length c1_5)] 44 (0, 0))) ∧ Aside0 (Below w.heap.size w w'))
    case atStart => exact ⟨(y113), (0), (by rfl), H', ⟨Nat.le_refl _⟩, ⟨by exact HO115.out⟩, ⟨by exact BK105.out⟩, ⟨by exact BK106.out⟩, ⟨by exact HB.out⟩⟩
    case round => as_aux_lemma =>
     clear H'
     try clear c1
     try clear c2
     try clear p2
     try clear c6
     try clear c6b0
     try clear c6b1
     try clear c7
     try clear c9
     try clear c9b0
     try clear c9b1
     try clear c10
     try clear c12
     try clear c12b0
     try clear c12b1
     try clear c13
     try clear c15
     try clear c17
     try clear c18
     try clear c19
     try clear c25
     try clear hcz11_0
     try clear hcz11_1
     try clear hcz11_2
     try clear hcz11_3
     try clear hcz11_4
     try clear hcz11_5
     try clear hcz14_0
     try clear hcz14_1
     try clear hcz14_2
     try clear hcz14_3
     try clear hcz14_4
     try clear hcz14_5
     try clear hcz16_0
     try clear hcz16_1
     try clear hcz16_2
     try clear hcz16_3
     try clear hcz16_4
     try clear hcz16_5
     try clear hcz26_0
     try clear hcz26_1
     try clear hcz26_2
     try clear hcz26_3
     try clear hcz26_4
     try clear hcz26_5
     try clear hcz8_0
     try clear hcz8_1
     try clear hcz8_2
     try clear hcz8_3
     try clear hcz8_4
     try clear hcz8_5
     try clear hfz11_0
     try clear hfz11_1
     try clear hfz11_2
     try clear hfz11_3
     try clear hfz11_4
     try clear hfz11_5
     try clear hfz14_0
     try clear hfz14_1
     try clear hfz14_2
     try clear hfz14_3
     try clear hfz14_4
     try clear hfz14_5
     try clear hfz16_0
     try clear hfz16_1
     try clear hfz16_2
     try clear hfz16_3
     try clear hfz16_4
     try clear hfz16_5
     try clear hfz26_0
     try clear hfz26_1
     try clear hfz26_2
     try clear hfz26_3
     try clear hfz26_4
     try clear hfz26_5
     try clear hfz8_0
     try clear hfz8_1
     try clear hfz8_2
     try clear hfz8_3
     try clear hfz8_4
     try clear hfz8_5
     try clear p2
     obtain ⟨x5_2, x52_2, rfl, HA, HK2, HO_5, BK105, BK106, HB⟩ := hrel
     rcases gk with _ | k2
     ·exact absurd HA.out (by simp [finite_valid.l0])
     have H := HA.out
     clear HA
     simp only [finite_valid.l0] at H
     by_cases c27 : x52_2 < (l1_5.length : Int)
     ·rw [if_pos c27] at H
      have c27b0 : decide (x52_2 < (l1_5.length : Int)) = true := decide_eq_true c27
      clear c27
      by_cases c28 : 0 ≤ x52_2
      ·rw [if_pos c28] at H
       have c28b0 : decide (0 ≤ x52_2) = true := decide_eq_true c28
       clear c28
       by_cases c29 : x52_2 < (l1_5.length : Int)
       ·rw [if_pos c29] at H
        have c29b0 : decide (x52_2 < (l1_5.length : Int)) = true := decide_eq_true c29
        clear c29
        by_cases c30 : ((rd_L1 l1_5 x52_2).length : Int) > 60
        ·rw [if_pos c30] at H
         have c30b0 : decide (60 < ((rd_L1 l1_5 x52_2).length : Int)) = true := decide_eq_true c30
         have c30b1 : decide (60 < (rd_L1 l1_5 x52_2).length) = true := decide_eq_true (by omega)
         clear c30
         obtain rfl := Option.some.inj H
         have p116 : 0 ≤ (x52_2 : Int) := of_decide_eq_true (by (with_reducible assumption))
         have q116 : x52_2 < (l1_5.length : Int) := of_decide_eq_true (by (with_reducible assumption))
         obtain ⟨ad116, A116_0, c116_0, e116, hx116_0, hl116_0, hi116_0⟩ := at_L1 HR1_5.out x52_2 p116 q116
         cases e116
         replace hx116_0 := (HB.out.cell (World.block_lt_of_cell? w _ hx116_0)).trans hx116_0
         have HR116_0 := Aside0.mk hi116_0
         have HC116_0 := Aside0.mk hl116_0
         clear hi116_0 hl116_0
         replace p116 := eq_true p116
         replace q116 := eq_true q116
         (try clear hSr)
         (try have hSr := Sent.ofB hS HB)
         go_wp2
         go_ret
         exact ⟨by rfl, by exact HB.out⟩
        rw [if_neg c30] at H
        have c30b0 : decide (60 < ((rd_L1 l1_5 x52_2).length : Int)) = false := decide_eq_false c30
        have c30b1 : decide (60 < (rd_L1 l1_5 x52_2).length) = false := decide_eq_false (by omega)
        clear c30
        by_cases c31 : x5_2.length + (rd_L1 l1_5 x52_2).length < 17592186044416
        ·rw [if_pos c31] at H
         have LMc31 := Aside0.mk c31
         clear c31
         obtain ⟨y117, hy117⟩ : ∃ y_ : List Int, y_ = (x5_2 ++ (rd_L1 l1_5 x52_2)) := ⟨_, rfl⟩
         replace H : (finite_valid.l0 k2 y117 l1_5 (l1_5.length : Int) (wrap64 (x52_2 + 1)) l0_0 l0_1 a1_0 l1_1 l1_2 l1_3 a1_4 l1_5) = some r := by (rw [hy117]; with_reducible exact H)
         have Ny117 := Aside0.mk hy117
         clear hy117
         have H' := Aside0.mk H
         clear H
         have p116 : 0 ≤ (x52_2 : Int) := of_decide_eq_true (by (with_reducible assumption))
         have q116 : x52_2 < (l1_5.length : Int) := of_decide_eq_true (by (with_reducible assumption))
         obtain ⟨ad116, A116_0, c116_0, e116, hx116_0, hl116_0, hi116_0⟩ := at_L1 HR1_5.out x52_2 p116 q116
         cases e116
         replace hx116_0 := (HB.out.cell (World.block_lt_of_cell? w _ hx116_0)).trans hx116_0
         have HR116_0 := Aside0.mk hi116_0
         have HC116_0 := Aside0.mk hl116_0
         clear hi116_0 hl116_0
         replace p116 := eq_true p116
         replace q116 := eq_true q116
         (try clear hSr)
         (try have hSr := Sent.ofB hS HB)
         go_wp2_with (((with_reducible refine gate_builtin (b := .append) (xs := #[.tmp 60, .tmp 61]) rfl ?_); (try (refine gate_guard (by rfl) ?_; dsimp only)); at_builtin; refine Kd.R_append_rows (Kd.int .i64) (w0 := w) w.heap.size rfl (.tmp 60) (.tmp 61) 26 3 (.int .i64 0) 8 rfl Tryd.underlying26 info3 rfl (by decide) (by omega) u5 x5_2 (rd_L1 l1_5 x52_2) _ _ _ (fun _ => True) (fun _ => False) rfl rfl ?aO ?aR (fun _ _ h => h) (fun _ h => h.elim) ?aF ?aB ?aS ?aL ?_; (case aR => repeat (exact (Kd.C_below HR116_0.out HB.out))); (case aB => exact (by exact HB.out)); (case aF => exact (fun _ _ => trivial)); (case aO => exact (by exact HO_5.out)); (case aS => exact (below_size (by exact HB.out))); (case aL => have := LMc31.out; omega); intro v118 w32 ho hb hg hat; rw [← Ny117.out] at ho; have n0_ := Aside0.mk (blk_grown (g := gb105) (o := .cells #[.slice A0_0 l0_0.length c0_0, .slice A0_1 l0_1.length c0_1] 25 (0, 0)) (by exact BK105.out) hg (Kd.R_ne HO_5.out BK105.out (by decide))); have n1_ := Aside0.mk (blk_grown (g := gb106) (o := .cells #[.int .i64 a1_0, .slice A1_1 l1_1.length c1_1, .slice A1_2 l1_2.length c1_2, .slice A1_3 l1_3.length c1_3, .int .i64 a1_4, .slice (some ad116) l1_5.length c1_5] 44 (0, 0)) (by exact BK106.out) hg (Kd.R_ne HO_5.out BK106.out (by decide))); have n2_ := Aside0.mk (hb); have n3_ := Aside0.mk (ho); clear BK105; clear BK106; clear HB; clear HO_5; have BK105 := n0_; have BK106 := n1_; have HB := n2_; have HO119 := n3_; clear n0_ n1_ n2_ n3_; clear ho hb hg hat))
         go_roundg k2
         case measure => have := HJ2.out; have := HK2.out; omega
         case rel => exact ⟨(y117), (wrap64 (x52_2 + 1)), (by rfl), H', ⟨by have := HJ2.out; have := HK2.out; omega⟩, ⟨by exact HO119.out⟩, ⟨by exact BK105.out⟩, ⟨by exact BK106.out⟩, ⟨by exact HB.out⟩⟩
        rw [if_neg c31] at H
        exact absurd H (by simp)
       rw [if_neg c29] at H
       exact absurd H (by simp)
      rw [if_neg c28] at H
      exact absurd H (by simp)
     rw [if_neg c27] at H
     have c27b0 : decide (x52_2 < (l1_5.length : Int)) = false := decide_eq_false c27
     clear c27
     have H' := Aside0.mk H
     clear H
     obtain ⟨Ao33, co33, eo33⟩ := Kd.R_slice HO_5.out
     subst eo33
     (try clear hSr)
     (try have hSr := Sent.ofB hS HB)
     go_wp2
     go_loopg [66] k2 (fun kq v66 w' => ∃ (x66_3 : Int), v66 = .int .i64 x66_3 ∧ Aside0 (finite_valid.l1 kq x5_2 (x5_2.length : Int) x66_3 l0_0 l0_1 a1_0 l1_1 l1_2 l1_3 a1_4 l1_5 = some r) ∧ Aside0 (kq ≤ k2) ∧ Aside0 (Kd.R (Kd.int .i64) 3 w' w.heap.size (fun _ => True) (.slice Ao33 x5_2.length co33) x5_2) ∧ Aside0 (w'.heap[gb105]? = some (.cells #[(.slice A0_0 l0_0.length c0_0), (.slice A0_1 l0_1.length c0_1)] 25 (0, 0))) ∧ Aside0 (w'.heap[gb106]? = some (.cells #[.int .i64 a1_0, (.slice A1_1 l1_1.length c1_1), (.slice A1_2 l1_2.length c1_2), (.slice A1_3 l1_3.length c1_3), .int .i64 a1_4, (.slice A1_5 l1_5.length c1_5)] 44 (0, 0))) ∧ Aside0 (Below w.heap.size w w'))
     case atStart => exact ⟨(0), (by rfl), H', ⟨Nat.le_refl _⟩, ⟨by exact HO_5.out⟩, ⟨by exact BK105.out⟩, ⟨by exact BK106.out⟩, ⟨by exact HB.out⟩⟩
     case round => as_aux_lemma =>
      clear H'
      try clear c1
      try clear p1
      try clear q1
      try clear hx1
      try clear c2
      try clear p2
      try clear c3
      try clear c6
      try clear c6b0
      try clear c6b1
      try clear p6
      try clear c7
      try clear c9
      try clear c9b0
      try clear c9b1
      try clear c10
      try clear c11
      try clear p11
      try clear q11
      try clear hx11
      try clear c12
      try clear c12b0
      try clear c12b1
      try clear c13
      try clear c15
      try clear c17
      try clear c18
      try clear c19
      try clear c25
      try clear c27
      try clear c27b0
      try clear c28
      try clear c28b0
      try clear c29
      try clear c29b0
      try clear c30
      try clear c30b0
      try clear c30b1
      try clear c31
      try clear hcz11_0
      try clear hcz11_1
      try clear hcz11_2
      try clear hcz11_3
      try clear hcz11_4
      try clear hcz11_5
      try clear hcz14_0
      try clear hcz14_1
      try clear hcz14_2
      try clear hcz14_3
      try clear hcz14_4
      try clear hcz14_5
      try clear hcz16_0
      try clear hcz16_1
      try clear hcz16_2
      try clear hcz16_3
      try clear hcz16_4
      try clear hcz16_5
      try clear hcz26_0
      try clear hcz26_1
      try clear hcz26_2
      try clear hcz26_3
      try clear hcz26_4
      try clear hcz26_5
      try clear hcz8_0
      try clear hcz8_1
      try clear hcz8_2
      try clear hcz8_3
      try clear hcz8_4
      try clear hcz8_5
      try clear hfz11_0
      try clear hfz11_1
      try clear hfz11_2
      try clear hfz11_3
      try clear hfz11_4
      try clear hfz11_5
      try clear hfz14_0
      try clear hfz14_1
      try clear hfz14_2
      try clear hfz14_3
      try clear hfz14_4
      try clear hfz14_5
      try clear hfz16_0
      try clear hfz16_1
      try clear hfz16_2
      try clear hfz16_3
      try clear hfz16_4
      try clear hfz16_5
      try clear hfz26_0
      try clear hfz26_1
      try clear hfz26_2
      try clear hfz26_3
      try clear hfz26_4
      try clear hfz26_5
      try clear hfz8_0
      try clear hfz8_1
      try clear hfz8_2
      try clear hfz8_3
      try clear hfz8_4
      try clear hfz8_5
      try clear hx116_0
      try clear p116
      try clear p2
      try clear q116
      obtain ⟨x66_3, rfl, HA, HK3, HO_64, BK105, BK106, HB⟩ := hrel
      rcases gk with _ | k3
      ·exact absurd HA.out (by simp [finite_valid.l1])
      have H := HA.out
      clear HA
      simp only [finite_valid.l1] at H
      by_cases c34 : x66_3 < (x5_2.length : Int)
      ·rw [if_pos c34] at H
       have c34b0 : decide (x66_3 < (x5_2.length : Int)) = true := decide_eq_true c34
       clear c34
       by_cases c35 : 0 ≤ x66_3
       ·rw [if_pos c35] at H
        have c35b0 : decide (0 ≤ x66_3) = true := decide_eq_true c35
        clear c35
        by_cases c36 : x66_3 < (x5_2.length : Int)
        ·rw [if_pos c36] at H
         have c36b0 : decide (x66_3 < (x5_2.length : Int)) = true := decide_eq_true c36
         clear c36
         by_cases c37 : (rd x5_2 x66_3) < (-100000000)
         ·rw [if_pos c37] at H
          have c37b0 : decide ((rd x5_2 x66_3) < (-100000000)) = true := decide_eq_true c37
          clear c37
          obtain rfl := Option.some.inj H
          have p120 : 0 ≤ (x66_3 : Int) := of_decide_eq_true (by (with_reducible assumption))
          have q120 : x66_3 < (x5_2.length : Int) := of_decide_eq_true (by (with_reducible assumption))
          obtain ⟨ad120, e120, hx120_0⟩ := Kd.at_int (Kd.R_reads' HO_64.out).2.2 x66_3 p120 q120
          cases e120
          replace p120 := eq_true p120
          replace q120 := eq_true q120
          (try clear hSr)
          (try have hSr := Sent.ofB hS HB)
          go_wp2
          go_ret
          exact ⟨by rfl, by exact HB.out⟩
         rw [if_neg c37] at H
         have c37b0 : decide ((rd x5_2 x66_3) < (-100000000)) = false := decide_eq_false c37
         clear c37
         by_cases c38 : (rd x5_2 x66_3) > 100000000
         ·rw [if_pos c38] at H
          have c38b0 : decide (100000000 < (rd x5_2 x66_3)) = true := decide_eq_true c38
          clear c38
          obtain rfl := Option.some.inj H
          have p120 : 0 ≤ (x66_3 : Int) := of_decide_eq_true (by (with_reducible assumption))
          have q120 : x66_3 < (x5_2.length : Int) := of_decide_eq_true (by (with_reducible assumption))
          obtain ⟨ad120, e120, hx120_0⟩ := Kd.at_int (Kd.R_reads' HO_64.out).2.2 x66_3 p120 q120
          cases e120
          replace p120 := eq_true p120
          replace q120 := eq_true q120
          (try clear hSr)
          (try have hSr := Sent.ofB hS HB)
          go_wp2
          go_ret
          exact ⟨by rfl, by exact HB.out⟩
         rw [if_neg c38] at H
         have c38b0 : decide (100000000 < (rd x5_2 x66_3)) = false := decide_eq_false c38
         clear c38
         have H' := Aside0.mk H
         clear H
         have p120 : 0 ≤ (x66_3 : Int) := of_decide_eq_true (by (with_reducible assumption))
         have q120 : x66_3 < (x5_2.length : Int) := of_decide_eq_true (by (with_reducible assumption))
         obtain ⟨ad120, e120, hx120_0⟩ := Kd.at_int (Kd.R_reads' HO_64.out).2.2 x66_3 p120 q120
         cases e120
         replace p120 := eq_true p120
         replace q120 := eq_true q120
         (try clear hSr)
         (try have hSr := Sent.ofB hS HB)
         go_wp2
         go_roundg k3
         case measure => have := HJ2.out; have := HK2.out; have := HK3.out; omega
         case rel => exact ⟨(wrap64 (x66_3 + 1)), (by rfl), H', ⟨by have := HJ2.out; have := HK2.out; have := HK3.out; omega⟩, ⟨by exact HO_64.out⟩, ⟨by exact BK105.out⟩, ⟨by exact BK106.out⟩, ⟨by exact HB.out⟩⟩
        rw [if_neg c36] at H
        exact absurd H (by simp)
       rw [if_neg c35] at H
       exact absurd H (by simp)
      rw [if_neg c34] at H
      have c34b0 : decide (x66_3 < (x5_2.length : Int)) = false := decide_eq_false c34
      clear c34
      have H' := Aside0.mk H
      clear H
      have hnb39 := NB106_105.out
      have hnc39 := NB105_106.out
      have hcz40_0 : wr.cell? ⟨gb106, 0, none⟩ = some (.int .i64 a1_0) := (blk_cell BK106.out 0).trans rfl
      have hcz40_1 : wr.cell? ⟨gb106, 1, none⟩ = some (.slice A1_1 l1_1.length c1_1) := (blk_cell BK106.out 1).trans rfl
      have hcz40_2 : wr.cell? ⟨gb106, 2, none⟩ = some (.slice A1_2 l1_2.length c1_2) := (blk_cell BK106.out 2).trans rfl
      have hcz40_3 : wr.cell? ⟨gb106, 3, none⟩ = some (.slice A1_3 l1_3.length c1_3) := (blk_cell BK106.out 3).trans rfl
      have hcz40_4 : wr.cell? ⟨gb106, 4, none⟩ = some (.int .i64 a1_4) := (blk_cell BK106.out 4).trans rfl
      have hcz40_5 : wr.cell? ⟨gb106, 5, none⟩ = some (.slice A1_5 l1_5.length c1_5) := (blk_cell BK106.out 5).trans rfl
      have hfz40_0 := blk_frozen BK106.out 0
      have hfz40_1 := blk_frozen BK106.out 1
      have hfz40_2 := blk_frozen BK106.out 2
      have hfz40_3 := blk_frozen BK106.out 3
      have hfz40_4 := blk_frozen BK106.out 4
      have hfz40_5 := blk_frozen BK106.out 5
      (try clear hSr)
      (try have hSr := Sent.ofB hS HB)
      go_wp2
      go_loopg [81] k3 (fun kq v81 w' => ∃ (x81_4 : Int), v81 = .int .i64 x81_4 ∧ Aside0 (finite_valid.l2 kq l1_1 (l1_1.length : Int) x81_4 l0_0 l0_1 a1_0 l1_1 l1_2 l1_3 a1_4 l1_5 = some r) ∧ Aside0 (kq ≤ k3) ∧ Aside0 (w'.heap[gb105]? = some (.cells #[(.slice A0_0 l0_0.length c0_0), (.slice A0_1 l0_1.length c0_1)] 25 (0, 0))) ∧ Aside0 (w'.heap[gb106]? = some (.cells #[.int .i64 a1_0, (.slice A1_1 l1_1.length c1_1), (.slice A1_2 l1_2.length c1_2), (.slice A1_3 l1_3.length c1_3), .int .i64 a1_4, (.slice A1_5 l1_5.length c1_5)] 44 (0, 0))) ∧ Aside0 (Below w.heap.size w w'))
      case atStart => exact ⟨(0), (by rfl), H', ⟨Nat.le_refl _⟩, ⟨by exact BK105.out⟩, ⟨by exact BK106.out⟩, ⟨by exact HB.out⟩⟩
      case round => as_aux_lemma =>
       clear H'
       try clear c1
       try clear p1
       try clear q1
       try clear hx1
       try clear c2
       try clear p2
       try clear c3
       try clear c6
       try clear c6b0
       try clear c6b1
       try clear p6
       try clear c7
       try clear c9
       try clear c9b0
       try clear c9b1
       try clear c10
       try clear c11
       try clear p11
       try clear q11
       try clear hx11
       try clear c12
       try clear c12b0
       try clear c12b1
       try clear p12
       try clear q12
       try clear hx12
       try clear c13
       try clear c15
       try clear c17
       try clear c18
       try clear c19
       try clear c25
       try clear c27
       try clear c27b0
       try clear c28
       try clear c28b0
       try clear c29
       try clear c29b0
       try clear c30
       try clear c30b0
       try clear c30b1
       try clear c31
       try clear c34
       try clear c34b0
       try clear c35
       try clear c35b0
       try clear c36
       try clear c36b0
       try clear c37
       try clear c37b0
       try clear c38
       try clear c38b0
       try clear c39
       try clear hcz11_0
       try clear hcz11_1
       try clear hcz11_2
       try clear hcz11_3
       try clear hcz11_4
       try clear hcz11_5
       try clear hcz14_0
       try clear hcz14_1
       try clear hcz14_2
       try clear hcz14_3
       try clear hcz14_4
       try clear hcz14_5
       try clear hcz16_0
       try clear hcz16_1
       try clear hcz16_2
       try clear hcz16_3
       try clear hcz16_4
       try clear hcz16_5
       try clear hcz26_0
       try clear hcz26_1
       try clear hcz26_2
       try clear hcz26_3
       try clear hcz26_4
       try clear hcz26_5
       try clear hcz40_0
       try clear hcz40_1
       try clear hcz40_2
       try clear hcz40_3
       try clear hcz40_4
       try clear hcz40_5
       try clear hcz8_0
       try clear hcz8_1
       try clear hcz8_2
       try clear hcz8_3
       try clear hcz8_4
       try clear hcz8_5
       try clear hfz11_0
       try clear hfz11_1
       try clear hfz11_2
       try clear hfz11_3
       try clear hfz11_4
       try clear hfz11_5
       try clear hfz14_0
       try clear hfz14_1
       try clear hfz14_2
       try clear hfz14_3
       try clear hfz14_4
       try clear hfz14_5
       try clear hfz16_0
       try clear hfz16_1
       try clear hfz16_2
       try clear hfz16_3
       try clear hfz16_4
       try clear hfz16_5
       try clear hfz26_0
       try clear hfz26_1
       try clear hfz26_2
       try clear hfz26_3
       try clear hfz26_4
       try clear hfz26_5
       try clear hfz40_0
       try clear hfz40_1
       try clear hfz40_2
       try clear hfz40_3
       try clear hfz40_4
       try clear hfz40_5
       try clear hfz8_0
       try clear hfz8_1
       try clear hfz8_2
       try clear hfz8_3
       try clear hfz8_4
       try clear hfz8_5
       try clear hx116_0
       try clear hx120_0
       try clear p1
       try clear p11
       try clear p116
       try clear p120
       try clear p2
       try clear p6
       try clear q1
       try clear q11
       try clear q116
       try clear q120
       obtain ⟨x81_4, rfl, HA, HK4, BK105, BK106, HB⟩ := hrel
       rcases gk with _ | k4
       ·exact absurd HA.out (by simp [finite_valid.l2])
       have H := HA.out
       clear HA
       simp only [finite_valid.l2] at H
       by_cases c41 : x81_4 < (l1_1.length : Int)
       ·rw [if_pos c41] at H
        have c41b0 : decide (x81_4 < (l1_1.length : Int)) = true := decide_eq_true c41
        clear c41
        by_cases c42 : 0 ≤ x81_4
        ·rw [if_pos c42] at H
         have c42b0 : decide (0 ≤ x81_4) = true := decide_eq_true c42
         clear c42
         by_cases c43 : x81_4 < (l1_1.length : Int)
         ·rw [if_pos c43] at H
          have c43b0 : decide (x81_4 < (l1_1.length : Int)) = true := decide_eq_true c43
          clear c43
          by_cases c44 : (rd l1_1 x81_4) < 0
          ·rw [if_pos c44] at H
           have c44b0 : decide ((rd l1_1 x81_4) < 0) = true := decide_eq_true c44
           clear c44
           obtain rfl := Option.some.inj H
           have p121 : 0 ≤ (x81_4 : Int) := of_decide_eq_true (by (with_reducible assumption))
           have q121 : x81_4 < (l1_1.length : Int) := of_decide_eq_true (by (with_reducible assumption))
           obtain ⟨ad121, e121, hx121_0⟩ := Kd.at_int HR1_1.out x81_4 p121 q121
           cases e121
           replace hx121_0 := (HB.out.cell (World.block_lt_of_cell? w _ hx121_0)).trans hx121_0
           replace p121 := eq_true p121
           replace q121 := eq_true q121
           (try clear hSr)
           (try have hSr := Sent.ofB hS HB)
           go_wp2
           go_ret
           exact ⟨by rfl, by exact HB.out⟩
          rw [if_neg c44] at H
          have c44b0 : decide ((rd l1_1 x81_4) < 0) = false := decide_eq_false c44
          clear c44
          by_cases c45 : (rd l1_1 x81_4) ≥ (l0_0.length : Int)
          ·rw [if_pos c45] at H
           have c45b0 : decide ((l0_0.length : Int) ≤ (rd l1_1 x81_4)) = true := decide_eq_true c45
           clear c45
           obtain rfl := Option.some.inj H
           have p121 : 0 ≤ (x81_4 : Int) := of_decide_eq_true (by (with_reducible assumption))
           have q121 : x81_4 < (l1_1.length : Int) := of_decide_eq_true (by (with_reducible assumption))
           obtain ⟨ad121, e121, hx121_0⟩ := Kd.at_int HR1_1.out x81_4 p121 q121
           cases e121
           replace hx121_0 := (HB.out.cell (World.block_lt_of_cell? w _ hx121_0)).trans hx121_0
           replace p121 := eq_true p121
           replace q121 := eq_true q121
           have hnb46 := NB105_106.out
           have hnc46 := NB106_105.out
           have hcz47_0 : wr.cell? ⟨gb105, 0, none⟩ = some (.slice A0_0 l0_0.length c0_0) := (blk_cell BK105.out 0).trans rfl
           have hcz47_1 : wr.cell? ⟨gb105, 1, none⟩ = some (.slice A0_1 l0_1.length c0_1) := (blk_cell BK105.out 1).trans rfl
           have hfz47_0 := blk_frozen BK105.out 0
           have hfz47_1 := blk_frozen BK105.out 1
           (try clear hSr)
           (try have hSr := Sent.ofB hS HB)
           go_wp2
           go_ret
           exact ⟨by rfl, by exact HB.out⟩
          rw [if_neg c45] at H
          have c45b0 : decide ((l0_0.length : Int) ≤ (rd l1_1 x81_4)) = false := decide_eq_false c45
          clear c45
          have H' := Aside0.mk H
          clear H
          have p121 : 0 ≤ (x81_4 : Int) := of_decide_eq_true (by (with_reducible assumption))
          have q121 : x81_4 < (l1_1.length : Int) := of_decide_eq_true (by (with_reducible assumption))
          obtain ⟨ad121, e121, hx121_0⟩ := Kd.at_int HR1_1.out x81_4 p121 q121
          cases e121
          replace hx121_0 := (HB.out.cell (World.block_lt_of_cell? w _ hx121_0)).trans hx121_0
          replace p121 := eq_true p121
          replace q121 := eq_true q121
          have hnb48 := NB105_106.out
          have hnc48 := NB106_105.out
          have hcz49_0 : wr.cell? ⟨gb105, 0, none⟩ = some (.slice A0_0 l0_0.length c0_0) := (blk_cell BK105.out 0).trans rfl
          have hcz49_1 : wr.cell? ⟨gb105, 1, none⟩ = some (.slice A0_1 l0_1.length c0_1) := (blk_cell BK105.out 1).trans rfl
          have hfz49_0 := blk_frozen BK105.out 0
          have hfz49_1 := blk_frozen BK105.out 1
          (try clear hSr)
          (try have hSr := Sent.ofB hS HB)
          go_wp2
          go_roundg k4
          case measure => have := HJ2.out; have := HK2.out; have := HK3.out; have := HK4.out; omega
          case rel => exact ⟨(wrap64 (x81_4 + 1)), (by rfl), H', ⟨by have := HJ2.out; have := HK2.out; have := HK3.out; have := HK4.out; omega⟩, ⟨by exact BK105.out⟩, ⟨by exact BK106.out⟩, ⟨by exact HB.out⟩⟩
         rw [if_neg c43] at H
         exact absurd H (by simp)
        rw [if_neg c42] at H
        exact absurd H (by simp)
       rw [if_neg c41] at H
       have c41b0 : decide (x81_4 < (l1_1.length : Int)) = false := decide_eq_false c41
       clear c41
       by_cases c50 : a1_0 = 1
       ·rw [if_pos c50] at H
        have c50b0 : (a1_0 == 1) = true := beq_iff_eq.mpr c50
        have c50b1 : (a1_0 != 1) = false := bne_eq_false_iff_eq.mpr c50
        clear c50
        by_cases c51 : (wrap64 ((wrap64 ((l1_2.length : Int) + (l1_3.length : Int))) + (l1_5.length : Int))) = 0
        ·rw [if_pos c51] at H
         have c51b0 : ((wrap64 ((wrap64 ((l1_2.length : Int) + (l1_3.length : Int))) + (l1_5.length : Int))) == 0) = true := beq_iff_eq.mpr c51
         have c51b1 : ((wrap64 ((wrap64 ((l1_2.length : Int) + (l1_3.length : Int))) + (l1_5.length : Int))) != 0) = false := bne_eq_false_iff_eq.mpr c51
         clear c51
         by_cases c52 : a1_4 = 0
         ·rw [if_pos c52] at H
          have c52b0 : (a1_4 == 0) = true := beq_iff_eq.mpr c52
          have c52b1 : (a1_4 != 0) = false := bne_eq_false_iff_eq.mpr c52
          clear c52
          obtain rfl := Option.some.inj H
          have hnb53 := NB106_105.out
          have hnc53 := NB105_106.out
          have hcz54_0 : wr.cell? ⟨gb106, 0, none⟩ = some (.int .i64 a1_0) := (blk_cell BK106.out 0).trans rfl
          have hcz54_1 : wr.cell? ⟨gb106, 1, none⟩ = some (.slice A1_1 l1_1.length c1_1) := (blk_cell BK106.out 1).trans rfl
          have hcz54_2 : wr.cell? ⟨gb106, 2, none⟩ = some (.slice A1_2 l1_2.length c1_2) := (blk_cell BK106.out 2).trans rfl
          have hcz54_3 : wr.cell? ⟨gb106, 3, none⟩ = some (.slice A1_3 l1_3.length c1_3) := (blk_cell BK106.out 3).trans rfl
          have hcz54_4 : wr.cell? ⟨gb106, 4, none⟩ = some (.int .i64 a1_4) := (blk_cell BK106.out 4).trans rfl
          have hcz54_5 : wr.cell? ⟨gb106, 5, none⟩ = some (.slice A1_5 l1_5.length c1_5) := (blk_cell BK106.out 5).trans rfl
          have hfz54_0 := blk_frozen BK106.out 0
          have hfz54_1 := blk_frozen BK106.out 1
          have hfz54_2 := blk_frozen BK106.out 2
          have hfz54_3 := blk_frozen BK106.out 3
          have hfz54_4 := blk_frozen BK106.out 4
          have hfz54_5 := blk_frozen BK106.out 5
          (try clear hSr)
          (try have hSr := Sent.ofB hS HB)
          go_wp2
          go_ret
          exact ⟨by rfl, by exact HB.out⟩
         rw [if_neg c52] at H
         have c52b0 : (a1_4 == 0) = false := beq_eq_false_iff_ne.mpr c52
         have c52b1 : (a1_4 != 0) = true := bne_iff_ne.mpr c52
         obtain rfl := Option.some.inj H
         have hnb55 := NB106_105.out
         have hnc55 := NB105_106.out
         have hcz56_0 : wr.cell? ⟨gb106, 0, none⟩ = some (.int .i64 a1_0) := (blk_cell BK106.out 0).trans rfl
         have hcz56_1 : wr.cell? ⟨gb106, 1, none⟩ = some (.slice A1_1 l1_1.length c1_1) := (blk_cell BK106.out 1).trans rfl
         have hcz56_2 : wr.cell? ⟨gb106, 2, none⟩ = some (.slice A1_2 l1_2.length c1_2) := (blk_cell BK106.out 2).trans rfl
         have hcz56_3 : wr.cell? ⟨gb106, 3, none⟩ = some (.slice A1_3 l1_3.length c1_3) := (blk_cell BK106.out 3).trans rfl
         have hcz56_4 : wr.cell? ⟨gb106, 4, none⟩ = some (.int .i64 a1_4) := (blk_cell BK106.out 4).trans rfl
         have hcz56_5 : wr.cell? ⟨gb106, 5, none⟩ = some (.slice A1_5 l1_5.length c1_5) := (blk_cell BK106.out 5).trans rfl
         have hfz56_0 := blk_frozen BK106.out 0
         have hfz56_1 := blk_frozen BK106.out 1
         have hfz56_2 := blk_frozen BK106.out 2
         have hfz56_3 := blk_frozen BK106.out 3
         have hfz56_4 := blk_frozen BK106.out 4
         have hfz56_5 := blk_frozen BK106.out 5
         (try clear hSr)
         (try have hSr := Sent.ofB hS HB)
         go_wp2
         go_ret
         exact ⟨by rfl, by exact HB.out⟩
        rw [if_neg c51] at H
        have c51b0 : ((wrap64 ((wrap64 ((l1_2.length : Int) + (l1_3.length : Int))) + (l1_5.length : Int))) == 0) = false := beq_eq_false_iff_ne.mpr c51
        have c51b1 : ((wrap64 ((wrap64 ((l1_2.length : Int) + (l1_3.length : Int))) + (l1_5.length : Int))) != 0) = true := bne_iff_ne.mpr c51
        obtain rfl := Option.some.inj H
        have hnb57 := NB106_105.out
        have hnc57 := NB105_106.out
        have hcz58_0 : wr.cell? ⟨gb106, 0, none⟩ = some (.int .i64 a1_0) := (blk_cell BK106.out 0).trans rfl
        have hcz58_1 : wr.cell? ⟨gb106, 1, none⟩ = some (.slice A1_1 l1_1.length c1_1) := (blk_cell BK106.out 1).trans rfl
        have hcz58_2 : wr.cell? ⟨gb106, 2, none⟩ = some (.slice A1_2 l1_2.length c1_2) := (blk_cell BK106.out 2).trans rfl
        have hcz58_3 : wr.cell? ⟨gb106, 3, none⟩ = some (.slice A1_3 l1_3.length c1_3) := (blk_cell BK106.out 3).trans rfl
        have hcz58_4 : wr.cell? ⟨gb106, 4, none⟩ = some (.int .i64 a1_4) := (blk_cell BK106.out 4).trans rfl
        have hcz58_5 : wr.cell? ⟨gb106, 5, none⟩ = some (.slice A1_5 l1_5.length c1_5) := (blk_cell BK106.out 5).trans rfl
        have hfz58_0 := blk_frozen BK106.out 0
        have hfz58_1 := blk_frozen BK106.out 1
        have hfz58_2 := blk_frozen BK106.out 2
        have hfz58_3 := blk_frozen BK106.out 3
        have hfz58_4 := blk_frozen BK106.out 4
        have hfz58_5 := blk_frozen BK106.out 5
        (try clear hSr)
        (try have hSr := Sent.ofB hS HB)
        go_wp2
        go_ret
        exact ⟨by rfl, by exact HB.out⟩
       rw [if_neg c50] at H
       have c50b0 : (a1_0 == 1) = false := beq_eq_false_iff_ne.mpr c50
       have c50b1 : (a1_0 != 1) = true := bne_iff_ne.mpr c50
       by_cases c59 : a1_0 = 2
       ·rw [if_pos c59] at H
        have c59b0 : (a1_0 == 2) = true := beq_iff_eq.mpr c59
        have c59b1 : (a1_0 != 2) = false := bne_eq_false_iff_eq.mpr c59
        clear c59
        by_cases c60 : (l1_2.length : Int) = (l1_1.length : Int)
        ·rw [if_pos c60] at H
         have c60b0 : ((l1_2.length : Int) == (l1_1.length : Int)) = true := beq_iff_eq.mpr c60
         have c60b1 : ((l1_2.length : Int) != (l1_1.length : Int)) = false := bne_eq_false_iff_eq.mpr c60
         have c60b2 : (l1_2.length == l1_1.length) = true := by (simp at c60 ⊢; omega)
         clear c60
         by_cases c61 : (wrap64 ((l1_3.length : Int) + (l1_5.length : Int))) = 0
         ·rw [if_pos c61] at H
          have c61b0 : ((wrap64 ((l1_3.length : Int) + (l1_5.length : Int))) == 0) = true := beq_iff_eq.mpr c61
          have c61b1 : ((wrap64 ((l1_3.length : Int) + (l1_5.length : Int))) != 0) = false := bne_eq_false_iff_eq.mpr c61
          clear c61
          replace H := Option.bind_eq_some_iff.mp H
          obtain ⟨t122, A620, H⟩ := H
          replace H : (if t122 = true then (some (some 0)) else (some none)) = some r := H
          have A62 := Aside0.mk A620
          clear A620
          by_cases c63 : t122 = true
          ·subst c63
           have H1 : (some (some 0)) = some r := by rw [if_pos rfl] at H; exact H
           clear H
           have H := H1
           clear H1
           obtain rfl := Option.some.inj H
           have hnb64 := NB106_105.out
           have hnc64 := NB105_106.out
           have hcz65_0 : wr.cell? ⟨gb106, 0, none⟩ = some (.int .i64 a1_0) := (blk_cell BK106.out 0).trans rfl
           have hcz65_1 : wr.cell? ⟨gb106, 1, none⟩ = some (.slice A1_1 l1_1.length c1_1) := (blk_cell BK106.out 1).trans rfl
           have hcz65_2 : wr.cell? ⟨gb106, 2, none⟩ = some (.slice A1_2 l1_2.length c1_2) := (blk_cell BK106.out 2).trans rfl
           have hcz65_3 : wr.cell? ⟨gb106, 3, none⟩ = some (.slice A1_3 l1_3.length c1_3) := (blk_cell BK106.out 3).trans rfl
           have hcz65_4 : wr.cell? ⟨gb106, 4, none⟩ = some (.int .i64 a1_4) := (blk_cell BK106.out 4).trans rfl
           have hcz65_5 : wr.cell? ⟨gb106, 5, none⟩ = some (.slice A1_5 l1_5.length c1_5) := (blk_cell BK106.out 5).trans rfl
           have hfz65_0 := blk_frozen BK106.out 0
           have hfz65_1 := blk_frozen BK106.out 1
           have hfz65_2 := blk_frozen BK106.out 2
           have hfz65_3 := blk_frozen BK106.out 3
           have hfz65_4 := blk_frozen BK106.out 4
           have hfz65_5 := blk_frozen BK106.out 5
           (try clear hSr)
           (try have hSr := Sent.ofB hS HB)
           go_wp2_with ((go_at_call 15; (with_reducible refine (slices_Contains_int_int.calls k4 _ _ l1_2 0 true _ ?side1 ?side2 A62.out).mono ?_); (case side1 => repeat (exact (Kd.C_below HR1_2.out HB.out))); (case side2 => exact HC1_2.out); rintro e w' ⟨rfl, ⟨nd, rfl⟩⟩))
           go_ret
           exact ⟨by rfl, by repeat ((with_reducible first | exact HB.out | apply pw_below_drewN))⟩
          replace c63 := Bool.eq_false_iff.mpr c63
          subst c63
          have H1 : (some none) = some r := by rw [if_neg (show ¬ (false = true) by decide)] at H; exact H
          clear H
          have H := H1
          clear H1
          obtain rfl := Option.some.inj H
          have hnb66 := NB106_105.out
          have hnc66 := NB105_106.out
          have hcz67_0 : wr.cell? ⟨gb106, 0, none⟩ = some (.int .i64 a1_0) := (blk_cell BK106.out 0).trans rfl
          have hcz67_1 : wr.cell? ⟨gb106, 1, none⟩ = some (.slice A1_1 l1_1.length c1_1) := (blk_cell BK106.out 1).trans rfl
          have hcz67_2 : wr.cell? ⟨gb106, 2, none⟩ = some (.slice A1_2 l1_2.length c1_2) := (blk_cell BK106.out 2).trans rfl
          have hcz67_3 : wr.cell? ⟨gb106, 3, none⟩ = some (.slice A1_3 l1_3.length c1_3) := (blk_cell BK106.out 3).trans rfl
          have hcz67_4 : wr.cell? ⟨gb106, 4, none⟩ = some (.int .i64 a1_4) := (blk_cell BK106.out 4).trans rfl
          have hcz67_5 : wr.cell? ⟨gb106, 5, none⟩ = some (.slice A1_5 l1_5.length c1_5) := (blk_cell BK106.out 5).trans rfl
          have hfz67_0 := blk_frozen BK106.out 0
          have hfz67_1 := blk_frozen BK106.out 1
          have hfz67_2 := blk_frozen BK106.out 2
          have hfz67_3 := blk_frozen BK106.out 3
          have hfz67_4 := blk_frozen BK106.out 4
          have hfz67_5 := blk_frozen BK106.out 5
          (try clear hSr)
          (try have hSr := Sent.ofB hS HB)
          go_wp2_with ((go_at_call 15; (with_reducible refine (slices_Contains_int_int.calls k4 _ _ l1_2 0 false _ ?side1 ?side2 A62.out).mono ?_); (case side1 => repeat (exact (Kd.C_below HR1_2.out HB.out))); (case side2 => exact HC1_2.out); rintro e w' ⟨rfl, ⟨nd, rfl⟩⟩))
          go_ret
          exact ⟨by rfl, by repeat ((with_reducible first | exact HB.out | apply pw_below_drewN))⟩
         rw [if_neg c61] at H
         have c61b0 : ((wrap64 ((l1_3.length : Int) + (l1_5.length : Int))) == 0) = false := beq_eq_false_iff_ne.mpr c61
         have c61b1 : ((wrap64 ((l1_3.length : Int) + (l1_5.length : Int))) != 0) = true := bne_iff_ne.mpr c61
         obtain rfl := Option.some.inj H
         have hnb68 := NB106_105.out
         have hnc68 := NB105_106.out
         have hcz69_0 : wr.cell? ⟨gb106, 0, none⟩ = some (.int .i64 a1_0) := (blk_cell BK106.out 0).trans rfl
         have hcz69_1 : wr.cell? ⟨gb106, 1, none⟩ = some (.slice A1_1 l1_1.length c1_1) := (blk_cell BK106.out 1).trans rfl
         have hcz69_2 : wr.cell? ⟨gb106, 2, none⟩ = some (.slice A1_2 l1_2.length c1_2) := (blk_cell BK106.out 2).trans rfl
         have hcz69_3 : wr.cell? ⟨gb106, 3, none⟩ = some (.slice A1_3 l1_3.length c1_3) := (blk_cell BK106.out 3).trans rfl
         have hcz69_4 : wr.cell? ⟨gb106, 4, none⟩ = some (.int .i64 a1_4) := (blk_cell BK106.out 4).trans rfl
         have hcz69_5 : wr.cell? ⟨gb106, 5, none⟩ = some (.slice A1_5 l1_5.length c1_5) := (blk_cell BK106.out 5).trans rfl
         have hfz69_0 := blk_frozen BK106.out 0
         have hfz69_1 := blk_frozen BK106.out 1
         have hfz69_2 := blk_frozen BK106.out 2
         have hfz69_3 := blk_frozen BK106.out 3
         have hfz69_4 := blk_frozen BK106.out 4
         have hfz69_5 := blk_frozen BK106.out 5
         (try clear hSr)
         (try have hSr := Sent.ofB hS HB)
         go_wp2
         go_ret
         exact ⟨by rfl, by exact HB.out⟩
        rw [if_neg c60] at H
        have c60b0 : ((l1_2.length : Int) == (l1_1.length : Int)) = false := beq_eq_false_iff_ne.mpr c60
        have c60b1 : ((l1_2.length : Int) != (l1_1.length : Int)) = true := bne_iff_ne.mpr c60
        have c60b2 : (l1_2.length == l1_1.length) = false := by (simp at c60 ⊢; omega)
        obtain rfl := Option.some.inj H
        have hnb70 := NB106_105.out
        have hnc70 := NB105_106.out
        have hcz71_0 : wr.cell? ⟨gb106, 0, none⟩ = some (.int .i64 a1_0) := (blk_cell BK106.out 0).trans rfl
        have hcz71_1 : wr.cell? ⟨gb106, 1, none⟩ = some (.slice A1_1 l1_1.length c1_1) := (blk_cell BK106.out 1).trans rfl
        have hcz71_2 : wr.cell? ⟨gb106, 2, none⟩ = some (.slice A1_2 l1_2.length c1_2) := (blk_cell BK106.out 2).trans rfl
        have hcz71_3 : wr.cell? ⟨gb106, 3, none⟩ = some (.slice A1_3 l1_3.length c1_3) := (blk_cell BK106.out 3).trans rfl
        have hcz71_4 : wr.cell? ⟨gb106, 4, none⟩ = some (.int .i64 a1_4) := (blk_cell BK106.out 4).trans rfl
        have hcz71_5 : wr.cell? ⟨gb106, 5, none⟩ = some (.slice A1_5 l1_5.length c1_5) := (blk_cell BK106.out 5).trans rfl
        have hfz71_0 := blk_frozen BK106.out 0
        have hfz71_1 := blk_frozen BK106.out 1
        have hfz71_2 := blk_frozen BK106.out 2
        have hfz71_3 := blk_frozen BK106.out 3
        have hfz71_4 := blk_frozen BK106.out 4
        have hfz71_5 := blk_frozen BK106.out 5
        (try clear hSr)
        (try have hSr := Sent.ofB hS HB)
        go_wp2
        go_ret
        exact ⟨by rfl, by exact HB.out⟩
       rw [if_neg c59] at H
       have c59b0 : (a1_0 == 2) = false := beq_eq_false_iff_ne.mpr c59
       have c59b1 : (a1_0 != 2) = true := bne_iff_ne.mpr c59
       by_cases c72 : a1_0 = 3
       ·rw [if_pos c72] at H
        have c72b0 : (a1_0 == 3) = true := beq_iff_eq.mpr c72
        have c72b1 : (a1_0 != 3) = false := bne_eq_false_iff_eq.mpr c72
        clear c72
        have HC73 := Aside0.mk H
        clear H
        have hnb74 := NB106_105.out
        have hnc74 := NB105_106.out
        have hcz75_0 : wr.cell? ⟨gb106, 0, none⟩ = some (.int .i64 a1_0) := (blk_cell BK106.out 0).trans rfl
        have hcz75_1 : wr.cell? ⟨gb106, 1, none⟩ = some (.slice A1_1 l1_1.length c1_1) := (blk_cell BK106.out 1).trans rfl
        have hcz75_2 : wr.cell? ⟨gb106, 2, none⟩ = some (.slice A1_2 l1_2.length c1_2) := (blk_cell BK106.out 2).trans rfl
        have hcz75_3 : wr.cell? ⟨gb106, 3, none⟩ = some (.slice A1_3 l1_3.length c1_3) := (blk_cell BK106.out 3).trans rfl
        have hcz75_4 : wr.cell? ⟨gb106, 4, none⟩ = some (.int .i64 a1_4) := (blk_cell BK106.out 4).trans rfl
        have hcz75_5 : wr.cell? ⟨gb106, 5, none⟩ = some (.slice A1_5 l1_5.length c1_5) := (blk_cell BK106.out 5).trans rfl
        have hfz75_0 := blk_frozen BK106.out 0
        have hfz75_1 := blk_frozen BK106.out 1
        have hfz75_2 := blk_frozen BK106.out 2
        have hfz75_3 := blk_frozen BK106.out 3
        have hfz75_4 := blk_frozen BK106.out 4
        have hfz75_5 := blk_frozen BK106.out 5
        go_upto_region 31 with (fail)
        go_cut [13] (fun v13 wc => ∃ (kq : Nat) (x13_72 : Bool), v13 = .bool x13_72 ∧ Aside0 (finite_valid.j4 kq (l1_1.length : Int) x13_72 a1_0 l1_1 l1_2 l1_3 a1_4 l1_5 = some r) ∧ Aside0 (kq ≤ k4) ∧ Aside0 (wc.heap[gb105]? = some (.cells #[(.slice A0_0 l0_0.length c0_0), (.slice A0_1 l0_1.length c0_1)] 25 (0, 0))) ∧ Aside0 (wc.heap[gb106]? = some (.cells #[.int .i64 a1_0, (.slice A1_1 l1_1.length c1_1), (.slice A1_2 l1_2.length c1_2), (.slice A1_3 l1_3.length c1_3), .int .i64 a1_4, (.slice A1_5 l1_5.length c1_5)] 44 (0, 0))) ∧ Aside0 (Below w.heap.size w wc))
        case first => as_aux_lemma =>
         have H := HC73.out
         clear HC73
         by_cases c76 : (wrap64 ((l1_2.length : Int) + (l1_3.length : Int))) = 0
         ·rw [if_pos c76] at H
          have c76b0 : ((wrap64 ((l1_2.length : Int) + (l1_3.length : Int))) == 0) = true := beq_iff_eq.mpr c76
          have c76b1 : ((wrap64 ((l1_2.length : Int) + (l1_3.length : Int))) != 0) = false := bne_eq_false_iff_eq.mpr c76
          clear c76
          (skip)
          have H' := Aside0.mk H
          clear H
          have hnb77 := NB106_105.out
          have hnc77 := NB105_106.out
          have hcz78_0 : wr.cell? ⟨gb106, 0, none⟩ = some (.int .i64 a1_0) := (blk_cell BK106.out 0).trans rfl
          have hcz78_1 : wr.cell? ⟨gb106, 1, none⟩ = some (.slice A1_1 l1_1.length c1_1) := (blk_cell BK106.out 1).trans rfl
          have hcz78_2 : wr.cell? ⟨gb106, 2, none⟩ = some (.slice A1_2 l1_2.length c1_2) := (blk_cell BK106.out 2).trans rfl
          have hcz78_3 : wr.cell? ⟨gb106, 3, none⟩ = some (.slice A1_3 l1_3.length c1_3) := (blk_cell BK106.out 3).trans rfl
          have hcz78_4 : wr.cell? ⟨gb106, 4, none⟩ = some (.int .i64 a1_4) := (blk_cell BK106.out 4).trans rfl
          have hcz78_5 : wr.cell? ⟨gb106, 5, none⟩ = some (.slice A1_5 l1_5.length c1_5) := (blk_cell BK106.out 5).trans rfl
          have hfz78_0 := blk_frozen BK106.out 0
          have hfz78_1 := blk_frozen BK106.out 1
          have hfz78_2 := blk_frozen BK106.out 2
          have hfz78_3 := blk_frozen BK106.out 3
          have hfz78_4 := blk_frozen BK106.out 4
          have hfz78_5 := blk_frozen BK106.out 5
          (try clear hSr)
          (try have hSr := Sent.ofB hS HB)
          go_wp2
          go_meet
          case rel => exact ⟨_, ((a1_4 == 0)), (by rfl), H', ⟨by have := HJ2.out; have := HK2.out; have := HK3.out; have := HK4.out; omega⟩, ⟨by exact BK105.out⟩, ⟨by exact BK106.out⟩, ⟨by exact HB.out⟩⟩
         rw [if_neg c76] at H
         have c76b0 : ((wrap64 ((l1_2.length : Int) + (l1_3.length : Int))) == 0) = false := beq_eq_false_iff_ne.mpr c76
         have c76b1 : ((wrap64 ((l1_2.length : Int) + (l1_3.length : Int))) != 0) = true := bne_iff_ne.mpr c76
         (skip)
         have H' := Aside0.mk H
         clear H
         have hnb79 := NB106_105.out
         have hnc79 := NB105_106.out
         have hcz80_0 : wr.cell? ⟨gb106, 0, none⟩ = some (.int .i64 a1_0) := (blk_cell BK106.out 0).trans rfl
         have hcz80_1 : wr.cell? ⟨gb106, 1, none⟩ = some (.slice A1_1 l1_1.length c1_1) := (blk_cell BK106.out 1).trans rfl
         have hcz80_2 : wr.cell? ⟨gb106, 2, none⟩ = some (.slice A1_2 l1_2.length c1_2) := (blk_cell BK106.out 2).trans rfl
         have hcz80_3 : wr.cell? ⟨gb106, 3, none⟩ = some (.slice A1_3 l1_3.length c1_3) := (blk_cell BK106.out 3).trans rfl
         have hcz80_4 : wr.cell? ⟨gb106, 4, none⟩ = some (.int .i64 a1_4) := (blk_cell BK106.out 4).trans rfl
         have hcz80_5 : wr.cell? ⟨gb106, 5, none⟩ = some (.slice A1_5 l1_5.length c1_5) := (blk_cell BK106.out 5).trans rfl
         have hfz80_0 := blk_frozen BK106.out 0
         have hfz80_1 := blk_frozen BK106.out 1
         have hfz80_2 := blk_frozen BK106.out 2
         have hfz80_3 := blk_frozen BK106.out 3
         have hfz80_4 := blk_frozen BK106.out 4
         have hfz80_5 := blk_frozen BK106.out 5
         (try clear hSr)
         (try have hSr := Sent.ofB hS HB)
         go_wp2
         go_meet
         case rel => exact ⟨_, (false), (by rfl), H', ⟨by have := HJ2.out; have := HK2.out; have := HK3.out; have := HK4.out; omega⟩, ⟨by exact BK105.out⟩, ⟨by exact BK106.out⟩, ⟨by exact HB.out⟩⟩
        case rest => as_aux_lemma =>
         clear HC73
         try clear c1
         try clear p1
         try clear q1
         try clear hx1
         try clear c2
         try clear p2
         try clear c3
         try clear c4
         try clear c5
         try clear c6
         try clear c6b0
         try clear c6b1
         try clear p6
         try clear c7
         try clear c9
         try clear c9b0
         try clear c9b1
         try clear c10
         try clear c11
         try clear p11
         try clear q11
         try clear hx11
         try clear c12
         try clear c12b0
         try clear c12b1
         try clear p12
         try clear q12
         try clear hx12
         try clear c13
         try clear c15
         try clear c17
         try clear c18
         try clear c19
         try clear c25
         try clear c27
         try clear c27b0
         try clear c28
         try clear c28b0
         try clear c29
         try clear c29b0
         try clear c30
         try clear c30b0
         try clear c30b1
         try clear c31
         try clear c34
         try clear c34b0
         try clear c35
         try clear c35b0
         try clear c36
         try clear c36b0
         try clear c37
         try clear c37b0
         try clear c38
         try clear c38b0
         try clear c39
         try clear c41
         try clear c41b0
         try clear c42
         try clear c42b0
         try clear c43
         try clear c43b0
         try clear c44
         try clear c44b0
         try clear c45
         try clear c45b0
         try clear c46
         try clear c48
         try clear c50
         try clear c50b0
         try clear c50b1
         try clear c51
         try clear c51b0
         try clear c51b1
         try clear c52
         try clear c52b0
         try clear c52b1
         try clear c53
         try clear c55
         try clear c57
         try clear c59
         try clear c59b0
         try clear c59b1
         try clear c60
         try clear c60b0
         try clear c60b1
         try clear c60b2
         try clear c61
         try clear c61b0
         try clear c61b1
         try clear c63
         try clear c64
         try clear p64
         try clear c66
         try clear c68
         try clear c70
         try clear c72
         try clear c72b0
         try clear c72b1
         try clear c74
         try clear c76
         try clear c76b0
         try clear c76b1
         try clear c77
         try clear c79
         try clear hcz11_0
         try clear hcz11_1
         try clear hcz11_2
         try clear hcz11_3
         try clear hcz11_4
         try clear hcz11_5
         try clear hcz14_0
         try clear hcz14_1
         try clear hcz14_2
         try clear hcz14_3
         try clear hcz14_4
         try clear hcz14_5
         try clear hcz16_0
         try clear hcz16_1
         try clear hcz16_2
         try clear hcz16_3
         try clear hcz16_4
         try clear hcz16_5
         try clear hcz26_0
         try clear hcz26_1
         try clear hcz26_2
         try clear hcz26_3
         try clear hcz26_4
         try clear hcz26_5
         try clear hcz40_0
         try clear hcz40_1
         try clear hcz40_2
         try clear hcz40_3
         try clear hcz40_4
         try clear hcz40_5
         try clear hcz47_0
         try clear hcz47_1
         try clear hcz49_0
         try clear hcz49_1
         try clear hcz54_0
         try clear hcz54_1
         try clear hcz54_2
         try clear hcz54_3
         try clear hcz54_4
         try clear hcz54_5
         try clear hcz56_0
         try clear hcz56_1
         try clear hcz56_2
         try clear hcz56_3
         try clear hcz56_4
         try clear hcz56_5
         try clear hcz58_0
         try clear hcz58_1
         try clear hcz58_2
         try clear hcz58_3
         try clear hcz58_4
         try clear hcz58_5
         try clear hcz65_0
         try clear hcz65_1
         try clear hcz65_2
         try clear hcz65_3
         try clear hcz65_4
         try clear hcz65_5
         try clear hcz67_0
         try clear hcz67_1
         try clear hcz67_2
         try clear hcz67_3
         try clear hcz67_4
         try clear hcz67_5
         try clear hcz69_0
         try clear hcz69_1
         try clear hcz69_2
         try clear hcz69_3
         try clear hcz69_4
         try clear hcz69_5
         try clear hcz71_0
         try clear hcz71_1
         try clear hcz71_2
         try clear hcz71_3
         try clear hcz71_4
         try clear hcz71_5
         try clear hcz75_0
         try clear hcz75_1
         try clear hcz75_2
         try clear hcz75_3
         try clear hcz75_4
         try clear hcz75_5
         try clear hcz78_0
         try clear hcz78_1
         try clear hcz78_2
         try clear hcz78_3
         try clear hcz78_4
         try clear hcz78_5
         try clear hcz80_0
         try clear hcz80_1
         try clear hcz80_2
         try clear hcz80_3
         try clear hcz80_4
         try clear hcz80_5
         try clear hcz8_0
         try clear hcz8_1
         try clear hcz8_2
         try clear hcz8_3
         try clear hcz8_4
         try clear hcz8_5
         try clear hfz11_0
         try clear hfz11_1
         try clear hfz11_2
         try clear hfz11_3
         try clear hfz11_4
         try clear hfz11_5
         try clear hfz14_0
         try clear hfz14_1
         try clear hfz14_2
         try clear hfz14_3
         try clear hfz14_4
         try clear hfz14_5
         try clear hfz16_0
         try clear hfz16_1
         try clear hfz16_2
         try clear hfz16_3
         try clear hfz16_4
         try clear hfz16_5
         try clear hfz26_0
         try clear hfz26_1
         try clear hfz26_2
         try clear hfz26_3
         try clear hfz26_4
         try clear hfz26_5
         try clear hfz40_0
         try clear hfz40_1
         try clear hfz40_2
         try clear hfz40_3
         try clear hfz40_4
         try clear hfz40_5
         try clear hfz47_0
         try clear hfz47_1
         try clear hfz49_0
         try clear hfz49_1
         try clear hfz54_0
         try clear hfz54_1
         try clear hfz54_2
         try clear hfz54_3
         try clear hfz54_4
         try clear hfz54_5
         try clear hfz56_0
         try clear hfz56_1
         try clear hfz56_2
         try clear hfz56_3
         try clear hfz56_4
         try clear hfz56_5
         try clear hfz58_0
         try clear hfz58_1
         try clear hfz58_2
         try clear hfz58_3
         try clear hfz58_4
         try clear hfz58_5
         try clear hfz65_0
         try clear hfz65_1
         try clear hfz65_2
         try clear hfz65_3
         try clear hfz65_4
         try clear hfz65_5
         try clear hfz67_0
         try clear hfz67_1
         try clear hfz67_2
         try clear hfz67_3
         try clear hfz67_4
         try clear hfz67_5
         try clear hfz69_0
         try clear hfz69_1
         try clear hfz69_2
         try clear hfz69_3
         try clear hfz69_4
         try clear hfz69_5
         try clear hfz71_0
         try clear hfz71_1
         try clear hfz71_2
         try clear hfz71_3
         try clear hfz71_4
         try clear hfz71_5
         try clear hfz75_0
         try clear hfz75_1
         try clear hfz75_2
         try clear hfz75_3
         try clear hfz75_4
         try clear hfz75_5
         try clear hfz78_0
         try clear hfz78_1
         try clear hfz78_2
         try clear hfz78_3
         try clear hfz78_4
         try clear hfz78_5
         try clear hfz80_0
         try clear hfz80_1
         try clear hfz80_2
         try clear hfz80_3
         try clear hfz80_4
         try clear hfz80_5
         try clear hfz8_0
         try clear hfz8_1
         try clear hfz8_2
         try clear hfz8_3
         try clear hfz8_4
         try clear hfz8_5
         try clear hx116_0
         try clear hx120_0
         try clear hx121_0
         try clear p1
         try clear p11
         try clear p116
         try clear p12
         try clear p120
         try clear p121
         try clear p2
         try clear p6
         try clear q1
         try clear q11
         try clear q116
         try clear q12
         try clear q120
         try clear q121
         obtain ⟨kq, x13_72, rfl, HA, HJ72, BK105, BK106, HB⟩ := hcut
         rcases kq with _ | kj72
         ·exact absurd HA.out (by simp [finite_valid.j4])
         have H := HA.out
         clear HA
         simp only [finite_valid.j4] at H
         have H' := Aside0.mk H
         clear H
         have hnb81 := NB106_105.out
         have hnc81 := NB105_106.out
         have hcz82_0 : wc.cell? ⟨gb106, 0, none⟩ = some (.int .i64 a1_0) := (blk_cell BK106.out 0).trans rfl
         have hcz82_1 : wc.cell? ⟨gb106, 1, none⟩ = some (.slice A1_1 l1_1.length c1_1) := (blk_cell BK106.out 1).trans rfl
         have hcz82_2 : wc.cell? ⟨gb106, 2, none⟩ = some (.slice A1_2 l1_2.length c1_2) := (blk_cell BK106.out 2).trans rfl
         have hcz82_3 : wc.cell? ⟨gb106, 3, none⟩ = some (.slice A1_3 l1_3.length c1_3) := (blk_cell BK106.out 3).trans rfl
         have hcz82_4 : wc.cell? ⟨gb106, 4, none⟩ = some (.int .i64 a1_4) := (blk_cell BK106.out 4).trans rfl
         have hcz82_5 : wc.cell? ⟨gb106, 5, none⟩ = some (.slice A1_5 l1_5.length c1_5) := (blk_cell BK106.out 5).trans rfl
         have hfz82_0 := blk_frozen BK106.out 0
         have hfz82_1 := blk_frozen BK106.out 1
         have hfz82_2 := blk_frozen BK106.out 2
         have hfz82_3 := blk_frozen BK106.out 3
         have hfz82_4 := blk_frozen BK106.out 4
         have hfz82_5 := blk_frozen BK106.out 5
         (try clear hSr)
         (try have hSr := Sent.ofB hS HB)
         go_wp2
         go_loopg [13, 161] kj72 (fun kq v13 v161 w' => ∃ (x13_6 : Bool) (x161_6 : Int), v13 = .bool x13_6 ∧ v161 = .int .i64 x161_6 ∧ Aside0 (finite_valid.l3 kq (l1_1.length : Int) x13_6 l1_5 (l1_5.length : Int) x161_6 = some r) ∧ Aside0 (kq ≤ kj72) ∧ Aside0 (w'.heap[gb105]? = some (.cells #[(.slice A0_0 l0_0.length c0_0), (.slice A0_1 l0_1.length c0_1)] 25 (0, 0))) ∧ Aside0 (w'.heap[gb106]? = some (.cells #[.int .i64 a1_0, (.slice A1_1 l1_1.length c1_1), (.slice A1_2 l1_2.length c1_2), (.slice A1_3 l1_3.length c1_3), .int .i64 a1_4, (.slice A1_5 l1_5.length c1_5)] 44 (0, 0))) ∧ Aside0 (Below w.heap.size w w'))
         case atStart => exact ⟨(x13_72), (0), (by rfl), (by rfl), H', ⟨Nat.le_refl _⟩, ⟨by exact BK105.out⟩, ⟨by exact BK106.out⟩, ⟨by exact HB.out⟩⟩
         case round => as_aux_lemma =>
          clear H'
          try clear c1
          try clear p1
          try clear q1
          try clear hx1
          try clear c2
          try clear p2
          try clear c3
          try clear c4
          try clear c5
          try clear c6
          try clear c6b0
          try clear c6b1
          try clear p6
          try clear c7
          try clear c8
          try clear c9
          try clear c9b0
          try clear c9b1
          try clear c10
          try clear c11
          try clear p11
          try clear q11
          try clear hx11
          try clear c12
          try clear c12b0
          try clear c12b1
          try clear p12
          try clear q12
          try clear hx12
          try clear c13
          try clear c15
          try clear c17
          try clear c18
          try clear c19
          try clear c25
          try clear c27
          try clear c27b0
          try clear c28
          try clear c28b0
          try clear c29
          try clear c29b0
          try clear c30
          try clear c30b0
          try clear c30b1
          try clear c31
          try clear c34
          try clear c34b0
          try clear c35
          try clear c35b0
          try clear c36
          try clear c36b0
          try clear c37
          try clear c37b0
          try clear c38
          try clear c38b0
          try clear c39
          try clear c41
          try clear c41b0
          try clear c42
          try clear c42b0
          try clear c43
          try clear c43b0
          try clear c44
          try clear c44b0
          try clear c45
          try clear c45b0
          try clear c46
          try clear c48
          try clear c50
          try clear c50b0
          try clear c50b1
          try clear c51
          try clear c51b0
          try clear c51b1
          try clear c52
          try clear c52b0
          try clear c52b1
          try clear c53
          try clear c55
          try clear c57
          try clear c59
          try clear c59b0
          try clear c59b1
          try clear c60
          try clear c60b0
          try clear c60b1
          try clear c60b2
          try clear c61
          try clear c61b0
          try clear c61b1
          try clear c63
          try clear c64
          try clear p64
          try clear c66
          try clear c68
          try clear c70
          try clear c72
          try clear c72b0
          try clear c72b1
          try clear c74
          try clear c76
          try clear c76b0
          try clear c76b1
          try clear c77
          try clear c79
          try clear c81
          try clear hcz11_0
          try clear hcz11_1
          try clear hcz11_2
          try clear hcz11_3
          try clear hcz11_4
          try clear hcz11_5
          try clear hcz14_0
          try clear hcz14_1
          try clear hcz14_2
          try clear hcz14_3
          try clear hcz14_4
          try clear hcz14_5
          try clear hcz16_0
          try clear hcz16_1
          try clear hcz16_2
          try clear hcz16_3
          try clear hcz16_4
          try clear hcz16_5
          try clear hcz26_0
          try clear hcz26_1
          try clear hcz26_2
          try clear hcz26_3
          try clear hcz26_4
          try clear hcz26_5
          try clear hcz40_0
          try clear hcz40_1
          try clear hcz40_2
          try clear hcz40_3
          try clear hcz40_4
          try clear hcz40_5
          try clear hcz47_0
          try clear hcz47_1
          try clear hcz49_0
          try clear hcz49_1
          try clear hcz54_0
          try clear hcz54_1
          try clear hcz54_2
          try clear hcz54_3
          try clear hcz54_4
          try clear hcz54_5
          try clear hcz56_0
          try clear hcz56_1
          try clear hcz56_2
          try clear hcz56_3
          try clear hcz56_4
          try clear hcz56_5
          try clear hcz58_0
          try clear hcz58_1
          try clear hcz58_2
          try clear hcz58_3
          try clear hcz58_4
          try clear hcz58_5
          try clear hcz65_0
          try clear hcz65_1
          try clear hcz65_2
          try clear hcz65_3
          try clear hcz65_4
          try clear hcz65_5
          try clear hcz67_0
          try clear hcz67_1
          try clear hcz67_2
          try clear hcz67_3
          try clear hcz67_4
          try clear hcz67_5
          try clear hcz69_0
          try clear hcz69_1
          try clear hcz69_2
          try clear hcz69_3
          try clear hcz69_4
          try clear hcz69_5
          try clear hcz71_0
          try clear hcz71_1
          try clear hcz71_2
          try clear hcz71_3
          try clear hcz71_4
          try clear hcz71_5
          try clear hcz75_0
          try clear hcz75_1
          try clear hcz75_2
          try clear hcz75_3
          try clear hcz75_4
          try clear hcz75_5
          try clear hcz78_0
          try clear hcz78_1
          try clear hcz78_2
          try clear hcz78_3
          try clear hcz78_4
          try clear hcz78_5
          try clear hcz80_0
          try clear hcz80_1
          try clear hcz80_2
          try clear hcz80_3
          try clear hcz80_4
          try clear hcz80_5
          try clear hcz82_0
          try clear hcz82_1
          try clear hcz82_2
          try clear hcz82_3
          try clear hcz82_4
          try clear hcz82_5
          try clear hcz8_0
          try clear hcz8_1
          try clear hcz8_2
          try clear hcz8_3
          try clear hcz8_4
          try clear hcz8_5
          try clear hfz11_0
          try clear hfz11_1
          try clear hfz11_2
          try clear hfz11_3
          try clear hfz11_4
          try clear hfz11_5
          try clear hfz14_0
          try clear hfz14_1
          try clear hfz14_2
          try clear hfz14_3
          try clear hfz14_4
          try clear hfz14_5
          try clear hfz16_0
          try clear hfz16_1
          try clear hfz16_2
          try clear hfz16_3
          try clear hfz16_4
          try clear hfz16_5
          try clear hfz26_0
          try clear hfz26_1
          try clear hfz26_2
          try clear hfz26_3
          try clear hfz26_4
          try clear hfz26_5
          try clear hfz40_0
          try clear hfz40_1
          try clear hfz40_2
          try clear hfz40_3
          try clear hfz40_4
          try clear hfz40_5
          try clear hfz47_0
          try clear hfz47_1
          try clear hfz49_0
          try clear hfz49_1
          try clear hfz54_0
          try clear hfz54_1
          try clear hfz54_2
          try clear hfz54_3
          try clear hfz54_4
          try clear hfz54_5
          try clear hfz56_0
          try clear hfz56_1
          try clear hfz56_2
          try clear hfz56_3
          try clear hfz56_4
          try clear hfz56_5
          try clear hfz58_0
          try clear hfz58_1
          try clear hfz58_2
          try clear hfz58_3
          try clear hfz58_4
          try clear hfz58_5
          try clear hfz65_0
          try clear hfz65_1
          try clear hfz65_2
          try clear hfz65_3
          try clear hfz65_4
          try clear hfz65_5
          try clear hfz67_0
          try clear hfz67_1
          try clear hfz67_2
          try clear hfz67_3
          try clear hfz67_4
          try clear hfz67_5
          try clear hfz69_0
          try clear hfz69_1
          try clear hfz69_2
          try clear hfz69_3
          try clear hfz69_4
          try clear hfz69_5
          try clear hfz71_0
          try clear hfz71_1
          try clear hfz71_2
          try clear hfz71_3
          try clear hfz71_4
          try clear hfz71_5
          try clear hfz75_0
          try clear hfz75_1
          try clear hfz75_2
          try clear hfz75_3
          try clear hfz75_4
          try clear hfz75_5
          try clear hfz78_0
          try clear hfz78_1
          try clear hfz78_2
          try clear hfz78_3
          try clear hfz78_4
          try clear hfz78_5
          try clear hfz80_0
          try clear hfz80_1
          try clear hfz80_2
          try clear hfz80_3
          try clear hfz80_4
          try clear hfz80_5
          try clear hfz82_0
          try clear hfz82_1
          try clear hfz82_2
          try clear hfz82_3
          try clear hfz82_4
          try clear hfz82_5
          try clear hfz8_0
          try clear hfz8_1
          try clear hfz8_2
          try clear hfz8_3
          try clear hfz8_4
          try clear hfz8_5
          try clear hx116_0
          try clear hx120_0
          try clear hx121_0
          try clear p1
          try clear p11
          try clear p116
          try clear p12
          try clear p120
          try clear p121
          try clear p2
          try clear p6
          try clear p64
          try clear q1
          try clear q11
          try clear q116
          try clear q12
          try clear q120
          try clear q121
          obtain ⟨x13_6, x161_6, rfl, rfl, HA, HK6, BK105, BK106, HB⟩ := hrel
          rcases gk with _ | k6
          ·exact absurd HA.out (by simp [finite_valid.l3])
          have H := HA.out
          clear HA
          simp only [finite_valid.l3] at H
          by_cases c83 : x161_6 < (l1_5.length : Int)
          ·rw [if_pos c83] at H
           have c83b0 : decide (x161_6 < (l1_5.length : Int)) = true := decide_eq_true c83
           clear c83
           by_cases c84 : 0 ≤ x161_6
           ·rw [if_pos c84] at H
            have c84b0 : decide (0 ≤ x161_6) = true := decide_eq_true c84
            clear c84
            by_cases c85 : x161_6 < (l1_5.length : Int)
            ·rw [if_pos c85] at H
             have c85b0 : decide (x161_6 < (l1_5.length : Int)) = true := decide_eq_true c85
             clear c85
             by_cases c86 : x13_6 = true
             ·subst c86
              have H1 : (finite_valid.l3 k6 (l1_1.length : Int) (((rd_L1 l1_5 x161_6).length : Int) == (l1_1.length : Int)) l1_5 (l1_5.length : Int) (wrap64 (x161_6 + 1))) = some r := by rw [if_pos rfl] at H; exact H
              clear H
              have H := H1
              clear H1
              have H' := Aside0.mk H
              clear H
              have p123 : 0 ≤ (x161_6 : Int) := of_decide_eq_true (by (with_reducible assumption))
              have q123 : x161_6 < (l1_5.length : Int) := of_decide_eq_true (by (with_reducible assumption))
              obtain ⟨ad123, A123_0, c123_0, e123, hx123_0, hl123_0, hi123_0⟩ := at_L1 HR1_5.out x161_6 p123 q123
              cases e123
              replace hx123_0 := (HB.out.cell (World.block_lt_of_cell? w _ hx123_0)).trans hx123_0
              have HR123_0 := Aside0.mk hi123_0
              have HC123_0 := Aside0.mk hl123_0
              clear hi123_0 hl123_0
              replace p123 := eq_true p123
              replace q123 := eq_true q123
              (try clear hSr)
              (try have hSr := Sent.ofB hS HB)
              go_wp2
              go_roundg k6
              case measure => have := HJ2.out; have := HK2.out; have := HK3.out; have := HK4.out; have := HJ72.out; have := HK6.out; omega
              case rel => exact ⟨((((rd_L1 l1_5 x161_6).length : Int) == (l1_1.length : Int))), (wrap64 (x161_6 + 1)), (by rfl), (by rfl), H', ⟨by have := HJ2.out; have := HK2.out; have := HK3.out; have := HK4.out; have := HJ72.out; have := HK6.out; omega⟩, ⟨by exact BK105.out⟩, ⟨by exact BK106.out⟩, ⟨by exact HB.out⟩⟩
             replace c86 := Bool.eq_false_iff.mpr c86
             subst c86
             have H1 : (finite_valid.l3 k6 (l1_1.length : Int) false l1_5 (l1_5.length : Int) (wrap64 (x161_6 + 1))) = some r := by rw [if_neg (show ¬ (false = true) by decide)] at H; exact H
             clear H
             have H := H1
             clear H1
             have H' := Aside0.mk H
             clear H
             have p123 : 0 ≤ (x161_6 : Int) := of_decide_eq_true (by (with_reducible assumption))
             have q123 : x161_6 < (l1_5.length : Int) := of_decide_eq_true (by (with_reducible assumption))
             obtain ⟨ad123, A123_0, c123_0, e123, hx123_0, hl123_0, hi123_0⟩ := at_L1 HR1_5.out x161_6 p123 q123
             cases e123
             replace hx123_0 := (HB.out.cell (World.block_lt_of_cell? w _ hx123_0)).trans hx123_0
             have HR123_0 := Aside0.mk hi123_0
             have HC123_0 := Aside0.mk hl123_0
             clear hi123_0 hl123_0
             replace p123 := eq_true p123
             replace q123 := eq_true q123
             (try clear hSr)
             (try have hSr := Sent.ofB hS HB)
             go_wp2
             go_roundg k6
             case measure => have := HJ2.out; have := HK2.out; have := HK3.out; have := HK4.out; have := HJ72.out; have := HK6.out; omega
             case rel => exact ⟨(false), (wrap64 (x161_6 + 1)), (by rfl), (by rfl), H', ⟨by have := HJ2.out; have := HK2.out; have := HK3.out; have := HK4.out; have := HJ72.out; have := HK6.out; omega⟩, ⟨by exact BK105.out⟩, ⟨by exact BK106.out⟩, ⟨by exact HB.out⟩⟩
            rw [if_neg c85] at H
            exact absurd H (by simp)
           rw [if_neg c84] at H
           exact absurd H (by simp)
          rw [if_neg c83] at H
          have c83b0 : decide (x161_6 < (l1_5.length : Int)) = false := decide_eq_false c83
          clear c83
          by_cases c87 : x13_6 = true
          ·subst c87
           have H1 : (some none) = some r := by rw [if_pos rfl] at H; exact H
           clear H
           have H := H1
           clear H1
           obtain rfl := Option.some.inj H
           (try clear hSr)
           (try have hSr := Sent.ofB hS HB)
           go_wp2
           go_ret
           exact ⟨by rfl, by exact HB.out⟩
          replace c87 := Bool.eq_false_iff.mpr c87
          subst c87
          have H1 : (some (some 0)) = some r := by rw [if_neg (show ¬ (false = true) by decide)] at H; exact H
          clear H
          have H := H1
          clear H1
          obtain rfl := Option.some.inj H
          (try clear hSr)
          (try have hSr := Sent.ofB hS HB)
          go_wp2
          go_ret
          exact ⟨by rfl, by exact HB.out⟩
       rw [if_neg c72] at H
       have c72b0 : (a1_0 == 3) = false := beq_eq_false_iff_ne.mpr c72
       have c72b1 : (a1_0 != 3) = true := bne_iff_ne.mpr c72
       by_cases c88 : a1_0 = 4
       ·rw [if_pos c88] at H
        have c88b0 : (a1_0 == 4) = true := beq_iff_eq.mpr c88
        have c88b1 : (a1_0 != 4) = false := bne_eq_false_iff_eq.mpr c88
        clear c88
        by_cases c89 : (l1_1.length : Int) ≥ 2
        ·rw [if_pos c89] at H
         have c89b0 : decide (2 ≤ (l1_1.length : Int)) = true := decide_eq_true c89
         have c89b1 : decide (2 ≤ l1_1.length) = true := decide_eq_true (by omega)
         clear c89
         by_cases c90 : (wrap64 ((wrap64 ((l1_2.length : Int) + (l1_3.length : Int))) + (l1_5.length : Int))) = 0
         ·rw [if_pos c90] at H
          have c90b0 : ((wrap64 ((wrap64 ((l1_2.length : Int) + (l1_3.length : Int))) + (l1_5.length : Int))) == 0) = true := beq_iff_eq.mpr c90
          have c90b1 : ((wrap64 ((wrap64 ((l1_2.length : Int) + (l1_3.length : Int))) + (l1_5.length : Int))) != 0) = false := bne_eq_false_iff_eq.mpr c90
          clear c90
          by_cases c91 : a1_4 = 0
          ·rw [if_pos c91] at H
           have c91b0 : (a1_4 == 0) = true := beq_iff_eq.mpr c91
           have c91b1 : (a1_4 != 0) = false := bne_eq_false_iff_eq.mpr c91
           clear c91
           obtain rfl := Option.some.inj H
           have hnb92 := NB106_105.out
           have hnc92 := NB105_106.out
           have hcz93_0 : wr.cell? ⟨gb106, 0, none⟩ = some (.int .i64 a1_0) := (blk_cell BK106.out 0).trans rfl
           have hcz93_1 : wr.cell? ⟨gb106, 1, none⟩ = some (.slice A1_1 l1_1.length c1_1) := (blk_cell BK106.out 1).trans rfl
           have hcz93_2 : wr.cell? ⟨gb106, 2, none⟩ = some (.slice A1_2 l1_2.length c1_2) := (blk_cell BK106.out 2).trans rfl
           have hcz93_3 : wr.cell? ⟨gb106, 3, none⟩ = some (.slice A1_3 l1_3.length c1_3) := (blk_cell BK106.out 3).trans rfl
           have hcz93_4 : wr.cell? ⟨gb106, 4, none⟩ = some (.int .i64 a1_4) := (blk_cell BK106.out 4).trans rfl
           have hcz93_5 : wr.cell? ⟨gb106, 5, none⟩ = some (.slice A1_5 l1_5.length c1_5) := (blk_cell BK106.out 5).trans rfl
           have hfz93_0 := blk_frozen BK106.out 0
           have hfz93_1 := blk_frozen BK106.out 1
           have hfz93_2 := blk_frozen BK106.out 2
           have hfz93_3 := blk_frozen BK106.out 3
           have hfz93_4 := blk_frozen BK106.out 4
           have hfz93_5 := blk_frozen BK106.out 5
           (try clear hSr)
           (try have hSr := Sent.ofB hS HB)
           go_wp2
           go_ret
           exact ⟨by rfl, by exact HB.out⟩
          rw [if_neg c91] at H
          have c91b0 : (a1_4 == 0) = false := beq_eq_false_iff_ne.mpr c91
          have c91b1 : (a1_4 != 0) = true := bne_iff_ne.mpr c91
          obtain rfl := Option.some.inj H
          have hnb94 := NB106_105.out
          have hnc94 := NB105_106.out
          have hcz95_0 : wr.cell? ⟨gb106, 0, none⟩ = some (.int .i64 a1_0) := (blk_cell BK106.out 0).trans rfl
          have hcz95_1 : wr.cell? ⟨gb106, 1, none⟩ = some (.slice A1_1 l1_1.length c1_1) := (blk_cell BK106.out 1).trans rfl
          have hcz95_2 : wr.cell? ⟨gb106, 2, none⟩ = some (.slice A1_2 l1_2.length c1_2) := (blk_cell BK106.out 2).trans rfl
          have hcz95_3 : wr.cell? ⟨gb106, 3, none⟩ = some (.slice A1_3 l1_3.length c1_3) := (blk_cell BK106.out 3).trans rfl
          have hcz95_4 : wr.cell? ⟨gb106, 4, none⟩ = some (.int .i64 a1_4) := (blk_cell BK106.out 4).trans rfl
          have hcz95_5 : wr.cell? ⟨gb106, 5, none⟩ = some (.slice A1_5 l1_5.length c1_5) := (blk_cell BK106.out 5).trans rfl
          have hfz95_0 := blk_frozen BK106.out 0
          have hfz95_1 := blk_frozen BK106.out 1
          have hfz95_2 := blk_frozen BK106.out 2
          have hfz95_3 := blk_frozen BK106.out 3
          have hfz95_4 := blk_frozen BK106.out 4
          have hfz95_5 := blk_frozen BK106.out 5
          (try clear hSr)
          (try have hSr := Sent.ofB hS HB)
          go_wp2
          go_ret
          exact ⟨by rfl, by exact HB.out⟩
         rw [if_neg c90] at H
         have c90b0 : ((wrap64 ((wrap64 ((l1_2.length : Int) + (l1_3.length : Int))) + (l1_5.length : Int))) == 0) = false := beq_eq_false_iff_ne.mpr c90
         have c90b1 : ((wrap64 ((wrap64 ((l1_2.length : Int) + (l1_3.length : Int))) + (l1_5.length : Int))) != 0) = true := bne_iff_ne.mpr c90
         obtain rfl := Option.some.inj H
         have hnb96 := NB106_105.out
         have hnc96 := NB105_106.out
         have hcz97_0 : wr.cell? ⟨gb106, 0, none⟩ = some (.int .i64 a1_0) := (blk_cell BK106.out 0).trans rfl
         have hcz97_1 : wr.cell? ⟨gb106, 1, none⟩ = some (.slice A1_1 l1_1.length c1_1) := (blk_cell BK106.out 1).trans rfl
         have hcz97_2 : wr.cell? ⟨gb106, 2, none⟩ = some (.slice A1_2 l1_2.length c1_2) := (blk_cell BK106.out 2).trans rfl
         have hcz97_3 : wr.cell? ⟨gb106, 3, none⟩ = some (.slice A1_3 l1_3.length c1_3) := (blk_cell BK106.out 3).trans rfl
         have hcz97_4 : wr.cell? ⟨gb106, 4, none⟩ = some (.int .i64 a1_4) := (blk_cell BK106.out 4).trans rfl
         have hcz97_5 : wr.cell? ⟨gb106, 5, none⟩ = some (.slice A1_5 l1_5.length c1_5) := (blk_cell BK106.out 5).trans rfl
         have hfz97_0 := blk_frozen BK106.out 0
         have hfz97_1 := blk_frozen BK106.out 1
         have hfz97_2 := blk_frozen BK106.out 2
         have hfz97_3 := blk_frozen BK106.out 3
         have hfz97_4 := blk_frozen BK106.out 4
         have hfz97_5 := blk_frozen BK106.out 5
         (try clear hSr)
         (try have hSr := Sent.ofB hS HB)
         go_wp2
         go_ret
         exact ⟨by rfl, by exact HB.out⟩
        rw [if_neg c89] at H
        have c89b0 : decide (2 ≤ (l1_1.length : Int)) = false := decide_eq_false c89
        have c89b1 : decide (2 ≤ l1_1.length) = false := decide_eq_false (by omega)
        clear c89
        obtain rfl := Option.some.inj H
        have hnb98 := NB106_105.out
        have hnc98 := NB105_106.out
        have hcz99_0 : wr.cell? ⟨gb106, 0, none⟩ = some (.int .i64 a1_0) := (blk_cell BK106.out 0).trans rfl
        have hcz99_1 : wr.cell? ⟨gb106, 1, none⟩ = some (.slice A1_1 l1_1.length c1_1) := (blk_cell BK106.out 1).trans rfl
        have hcz99_2 : wr.cell? ⟨gb106, 2, none⟩ = some (.slice A1_2 l1_2.length c1_2) := (blk_cell BK106.out 2).trans rfl
        have hcz99_3 : wr.cell? ⟨gb106, 3, none⟩ = some (.slice A1_3 l1_3.length c1_3) := (blk_cell BK106.out 3).trans rfl
        have hcz99_4 : wr.cell? ⟨gb106, 4, none⟩ = some (.int .i64 a1_4) := (blk_cell BK106.out 4).trans rfl
        have hcz99_5 : wr.cell? ⟨gb106, 5, none⟩ = some (.slice A1_5 l1_5.length c1_5) := (blk_cell BK106.out 5).trans rfl
        have hfz99_0 := blk_frozen BK106.out 0
        have hfz99_1 := blk_frozen BK106.out 1
        have hfz99_2 := blk_frozen BK106.out 2
        have hfz99_3 := blk_frozen BK106.out 3
        have hfz99_4 := blk_frozen BK106.out 4
        have hfz99_5 := blk_frozen BK106.out 5
        (try clear hSr)
        (try have hSr := Sent.ofB hS HB)
        go_wp2
        go_ret
        exact ⟨by rfl, by exact HB.out⟩
       rw [if_neg c88] at H
       have c88b0 : (a1_0 == 4) = false := beq_eq_false_iff_ne.mpr c88
       have c88b1 : (a1_0 != 4) = true := bne_iff_ne.mpr c88
       by_cases c100 : a1_0 = 5
       ·rw [if_pos c100] at H
        have c100b0 : (a1_0 == 5) = true := beq_iff_eq.mpr c100
        have c100b1 : (a1_0 != 5) = false := bne_eq_false_iff_eq.mpr c100
        clear c100
        have HC101 := Aside0.mk H
        clear H
        have hnb102 := NB106_105.out
        have hnc102 := NB105_106.out
        have hcz103_0 : wr.cell? ⟨gb106, 0, none⟩ = some (.int .i64 a1_0) := (blk_cell BK106.out 0).trans rfl
        have hcz103_1 : wr.cell? ⟨gb106, 1, none⟩ = some (.slice A1_1 l1_1.length c1_1) := (blk_cell BK106.out 1).trans rfl
        have hcz103_2 : wr.cell? ⟨gb106, 2, none⟩ = some (.slice A1_2 l1_2.length c1_2) := (blk_cell BK106.out 2).trans rfl
        have hcz103_3 : wr.cell? ⟨gb106, 3, none⟩ = some (.slice A1_3 l1_3.length c1_3) := (blk_cell BK106.out 3).trans rfl
        have hcz103_4 : wr.cell? ⟨gb106, 4, none⟩ = some (.int .i64 a1_4) := (blk_cell BK106.out 4).trans rfl
        have hcz103_5 : wr.cell? ⟨gb106, 5, none⟩ = some (.slice A1_5 l1_5.length c1_5) := (blk_cell BK106.out 5).trans rfl
        have hfz103_0 := blk_frozen BK106.out 0
        have hfz103_1 := blk_frozen BK106.out 1
        have hfz103_2 := blk_frozen BK106.out 2
        have hfz103_3 := blk_frozen BK106.out 3
        have hfz103_4 := blk_frozen BK106.out 4
        have hfz103_5 := blk_frozen BK106.out 5
        go_upto_region 40 with (fail)
        go_cut [13] (fun v13 wc => ∃ (kq : Nat) (x13_100 : Bool), v13 = .bool x13_100 ∧ Aside0 (finite_valid.j6 kq x13_100 a1_0 l1_1 l1_2 l1_3 a1_4 l1_5 = some r) ∧ Aside0 (kq ≤ k4) ∧ Aside0 (wc.heap[gb105]? = some (.cells #[(.slice A0_0 l0_0.length c0_0), (.slice A0_1 l0_1.length c0_1)] 25 (0, 0))) ∧ Aside0 (wc.heap[gb106]? = some (.cells #[.int .i64 a1_0, (.slice A1_1 l1_1.length c1_1), (.slice A1_2 l1_2.length c1_2), (.slice A1_3 l1_3.length c1_3), .int .i64 a1_4, (.slice A1_5 l1_5.length c1_5)] 44 (0, 0))) ∧ Aside0 (Below w.heap.size w wc))
        case first => as_aux_lemma =>
         have H := HC101.out
         clear HC101
         by_cases c104 : (l1_2.length : Int) = (l1_1.length : Int)
         ·rw [if_pos c104] at H
          have c104b0 : ((l1_2.length : Int) == (l1_1.length : Int)) = true := beq_iff_eq.mpr c104
          have c104b1 : ((l1_2.length : Int) != (l1_1.length : Int)) = false := bne_eq_false_iff_eq.mpr c104
          have c104b2 : (l1_2.length == l1_1.length) = true := by (simp at c104 ⊢; omega)
          clear c104
          (skip)
          by_cases c105 : (l1_3.length : Int) = (l1_1.length : Int)
          ·rw [if_pos c105] at H
           have c105b0 : ((l1_3.length : Int) == (l1_1.length : Int)) = true := beq_iff_eq.mpr c105
           have c105b1 : ((l1_3.length : Int) != (l1_1.length : Int)) = false := bne_eq_false_iff_eq.mpr c105
           have c105b2 : (l1_3.length == l1_1.length) = true := by (simp at c105 ⊢; omega)
           clear c105
           by_cases c106 : (l1_5.length : Int) = 0
           ·rw [if_pos c106] at H
            have c106b0 : ((l1_5.length : Int) == 0) = true := beq_iff_eq.mpr c106
            have c106b1 : ((l1_5.length : Int) != 0) = false := bne_eq_false_iff_eq.mpr c106
            clear c106
            have H' := Aside0.mk H
            clear H
            have hnb107 := NB106_105.out
            have hnc107 := NB105_106.out
            have hcz108_0 : wr.cell? ⟨gb106, 0, none⟩ = some (.int .i64 a1_0) := (blk_cell BK106.out 0).trans rfl
            have hcz108_1 : wr.cell? ⟨gb106, 1, none⟩ = some (.slice A1_1 l1_1.length c1_1) := (blk_cell BK106.out 1).trans rfl
            have hcz108_2 : wr.cell? ⟨gb106, 2, none⟩ = some (.slice A1_2 l1_2.length c1_2) := (blk_cell BK106.out 2).trans rfl
            have hcz108_3 : wr.cell? ⟨gb106, 3, none⟩ = some (.slice A1_3 l1_3.length c1_3) := (blk_cell BK106.out 3).trans rfl
            have hcz108_4 : wr.cell? ⟨gb106, 4, none⟩ = some (.int .i64 a1_4) := (blk_cell BK106.out 4).trans rfl
            have hcz108_5 : wr.cell? ⟨gb106, 5, none⟩ = some (.slice A1_5 l1_5.length c1_5) := (blk_cell BK106.out 5).trans rfl
            have hfz108_0 := blk_frozen BK106.out 0
            have hfz108_1 := blk_frozen BK106.out 1
            have hfz108_2 := blk_frozen BK106.out 2
            have hfz108_3 := blk_frozen BK106.out 3
            have hfz108_4 := blk_frozen BK106.out 4
            have hfz108_5 := blk_frozen BK106.out 5
            (try clear hSr)
            (try have hSr := Sent.ofB hS HB)
            go_wp2
            go_meet
            case rel => exact ⟨_, (decide (a1_4 ≥ 0)), (by rfl), H', ⟨by have := HJ2.out; have := HK2.out; have := HK3.out; have := HK4.out; omega⟩, ⟨by exact BK105.out⟩, ⟨by exact BK106.out⟩, ⟨by exact HB.out⟩⟩
           rw [if_neg c106] at H
           have c106b0 : ((l1_5.length : Int) == 0) = false := beq_eq_false_iff_ne.mpr c106
           have c106b1 : ((l1_5.length : Int) != 0) = true := bne_iff_ne.mpr c106
           have c106b2 : ¬ (l1_5 = []) := fun h_ => c106 (by rw [h_]; rfl)
           have H' := Aside0.mk H
           clear H
           have hnb109 := NB106_105.out
           have hnc109 := NB105_106.out
           have hcz110_0 : wr.cell? ⟨gb106, 0, none⟩ = some (.int .i64 a1_0) := (blk_cell BK106.out 0).trans rfl
           have hcz110_1 : wr.cell? ⟨gb106, 1, none⟩ = some (.slice A1_1 l1_1.length c1_1) := (blk_cell BK106.out 1).trans rfl
           have hcz110_2 : wr.cell? ⟨gb106, 2, none⟩ = some (.slice A1_2 l1_2.length c1_2) := (blk_cell BK106.out 2).trans rfl
           have hcz110_3 : wr.cell? ⟨gb106, 3, none⟩ = some (.slice A1_3 l1_3.length c1_3) := (blk_cell BK106.out 3).trans rfl
           have hcz110_4 : wr.cell? ⟨gb106, 4, none⟩ = some (.int .i64 a1_4) := (blk_cell BK106.out 4).trans rfl
           have hcz110_5 : wr.cell? ⟨gb106, 5, none⟩ = some (.slice A1_5 l1_5.length c1_5) := (blk_cell BK106.out 5).trans rfl
           have hfz110_0 := blk_frozen BK106.out 0
           have hfz110_1 := blk_frozen BK106.out 1
           have hfz110_2 := blk_frozen BK106.out 2
           have hfz110_3 := blk_frozen BK106.out 3
           have hfz110_4 := blk_frozen BK106.out 4
           have hfz110_5 := blk_frozen BK106.out 5
           (try clear hSr)
           (try have hSr := Sent.ofB hS HB)
           go_wp2
           go_meet
           case rel => exact ⟨_, (false), (by rfl), H', ⟨by have := HJ2.out; have := HK2.out; have := HK3.out; have := HK4.out; omega⟩, ⟨by exact BK105.out⟩, ⟨by exact BK106.out⟩, ⟨by exact HB.out⟩⟩
          rw [if_neg c105] at H
          have c105b0 : ((l1_3.length : Int) == (l1_1.length : Int)) = false := beq_eq_false_iff_ne.mpr c105
          have c105b1 : ((l1_3.length : Int) != (l1_1.length : Int)) = true := bne_iff_ne.mpr c105
          have c105b2 : (l1_3.length == l1_1.length) = false := by (simp at c105 ⊢; omega)
          have H' := Aside0.mk H
          clear H
          have hnb111 := NB106_105.out
          have hnc111 := NB105_106.out
          have hcz112_0 : wr.cell? ⟨gb106, 0, none⟩ = some (.int .i64 a1_0) := (blk_cell BK106.out 0).trans rfl
          have hcz112_1 : wr.cell? ⟨gb106, 1, none⟩ = some (.slice A1_1 l1_1.length c1_1) := (blk_cell BK106.out 1).trans rfl
          have hcz112_2 : wr.cell? ⟨gb106, 2, none⟩ = some (.slice A1_2 l1_2.length c1_2) := (blk_cell BK106.out 2).trans rfl
          have hcz112_3 : wr.cell? ⟨gb106, 3, none⟩ = some (.slice A1_3 l1_3.length c1_3) := (blk_cell BK106.out 3).trans rfl
          have hcz112_4 : wr.cell? ⟨gb106, 4, none⟩ = some (.int .i64 a1_4) := (blk_cell BK106.out 4).trans rfl
          have hcz112_5 : wr.cell? ⟨gb106, 5, none⟩ = some (.slice A1_5 l1_5.length c1_5) := (blk_cell BK106.out 5).trans rfl
          have hfz112_0 := blk_frozen BK106.out 0
          have hfz112_1 := blk_frozen BK106.out 1
          have hfz112_2 := blk_frozen BK106.out 2
          have hfz112_3 := blk_frozen BK106.out 3
          have hfz112_4 := blk_frozen BK106.out 4
          have hfz112_5 := blk_frozen BK106.out 5
          (try clear hSr)
          (try have hSr := Sent.ofB hS HB)
          go_wp2
          go_meet
          case rel => exact ⟨_, (false), (by rfl), H', ⟨by have := HJ2.out; have := HK2.out; have := HK3.out; have := HK4.out; omega⟩, ⟨by exact BK105.out⟩, ⟨by exact BK106.out⟩, ⟨by exact HB.out⟩⟩
         rw [if_neg c104] at H
         have c104b0 : ((l1_2.length : Int) == (l1_1.length : Int)) = false := beq_eq_false_iff_ne.mpr c104
         have c104b1 : ((l1_2.length : Int) != (l1_1.length : Int)) = true := bne_iff_ne.mpr c104
         have c104b2 : (l1_2.length == l1_1.length) = false := by (simp at c104 ⊢; omega)
         (skip)
         have H' := Aside0.mk H
         clear H
         have hnb113 := NB106_105.out
         have hnc113 := NB105_106.out
         have hcz114_0 : wr.cell? ⟨gb106, 0, none⟩ = some (.int .i64 a1_0) := (blk_cell BK106.out 0).trans rfl
         have hcz114_1 : wr.cell? ⟨gb106, 1, none⟩ = some (.slice A1_1 l1_1.length c1_1) := (blk_cell BK106.out 1).trans rfl
         have hcz114_2 : wr.cell? ⟨gb106, 2, none⟩ = some (.slice A1_2 l1_2.length c1_2) := (blk_cell BK106.out 2).trans rfl
         have hcz114_3 : wr.cell? ⟨gb106, 3, none⟩ = some (.slice A1_3 l1_3.length c1_3) := (blk_cell BK106.out 3).trans rfl
         have hcz114_4 : wr.cell? ⟨gb106, 4, none⟩ = some (.int .i64 a1_4) := (blk_cell BK106.out 4).trans rfl
         have hcz114_5 : wr.cell? ⟨gb106, 5, none⟩ = some (.slice A1_5 l1_5.length c1_5) := (blk_cell BK106.out 5).trans rfl
         have hfz114_0 := blk_frozen BK106.out 0
         have hfz114_1 := blk_frozen BK106.out 1
         have hfz114_2 := blk_frozen BK106.out 2
         have hfz114_3 := blk_frozen BK106.out 3
         have hfz114_4 := blk_frozen BK106.out 4
         have hfz114_5 := blk_frozen BK106.out 5
         (try clear hSr)
         (try have hSr := Sent.ofB hS HB)
         go_wp2
         go_meet
         case rel => exact ⟨_, (false), (by rfl), H', ⟨by have := HJ2.out; have := HK2.out; have := HK3.out; have := HK4.out; omega⟩, ⟨by exact BK105.out⟩, ⟨by exact BK106.out⟩, ⟨by exact HB.out⟩⟩
        case rest => as_aux_lemma =>
         clear HC101
         try clear c1
         try clear p1
         try clear q1
         try clear hx1
         try clear p2
         try clear c5
         try clear c6
         try clear p6
         try clear c7
         try clear c8
         try clear c9
         try clear c10
         try clear c11
         try clear p11
         try clear q11
         try clear hx11
         try clear c12
         try clear p12
         try clear q12
         try clear hx12
         try clear c50
         try clear c50b0
         try clear c50b1
         try clear c51
         try clear c51b0
         try clear c51b1
         try clear c52
         try clear c52b0
         try clear c52b1
         try clear c53
         try clear c55
         try clear c57
         try clear c59
         try clear c59b0
         try clear c59b1
         try clear c60
         try clear c60b0
         try clear c60b1
         try clear c60b2
         try clear c61
         try clear c61b0
         try clear c61b1
         try clear c63
         try clear c64
         try clear p64
         try clear c66
         try clear c68
         try clear c70
         try clear c72
         try clear c72b0
         try clear c72b1
         try clear c74
         try clear c76
         try clear c76b0
         try clear c76b1
         try clear c77
         try clear c79
         try clear c81
         try clear c83
         try clear c83b0
         try clear c84
         try clear c84b0
         try clear c85
         try clear c85b0
         try clear c86
         try clear c87
         try clear c88
         try clear c88b0
         try clear c88b1
         try clear c89
         try clear c89b0
         try clear c89b1
         try clear c90
         try clear c90b0
         try clear c90b1
         try clear c91
         try clear c91b0
         try clear c91b1
         try clear c92
         try clear c94
         try clear c96
         try clear c98
         try clear c100
         try clear c100b0
         try clear c100b1
         try clear c102
         try clear c104
         try clear c104b0
         try clear c104b1
         try clear c104b2
         try clear c105
         try clear c105b0
         try clear c105b1
         try clear c105b2
         try clear c106
         try clear c106b0
         try clear c106b1
         try clear c106b2
         try clear c107
         try clear c109
         try clear c111
         try clear c113
         try clear hcz103_0
         try clear hcz103_1
         try clear hcz103_2
         try clear hcz103_3
         try clear hcz103_4
         try clear hcz103_5
         try clear hcz108_0
         try clear hcz108_1
         try clear hcz108_2
         try clear hcz108_3
         try clear hcz108_4
         try clear hcz108_5
         try clear hcz110_0
         try clear hcz110_1
         try clear hcz110_2
         try clear hcz110_3
         try clear hcz110_4
         try clear hcz110_5
         try clear hcz112_0
         try clear hcz112_1
         try clear hcz112_2
         try clear hcz112_3
         try clear hcz112_4
         try clear hcz112_5
         try clear hcz114_0
         try clear hcz114_1
         try clear hcz114_2
         try clear hcz114_3
         try clear hcz114_4
         try clear hcz114_5
         try clear hcz11_0
         try clear hcz11_1
         try clear hcz11_2
         try clear hcz11_3
         try clear hcz11_4
         try clear hcz11_5
         try clear hcz14_0
         try clear hcz14_1
         try clear hcz14_2
         try clear hcz14_3
         try clear hcz14_4
         try clear hcz14_5
         try clear hcz16_0
         try clear hcz16_1
         try clear hcz16_2
         try clear hcz16_3
         try clear hcz16_4
         try clear hcz16_5
         try clear hcz26_0
         try clear hcz26_1
         try clear hcz26_2
         try clear hcz26_3
         try clear hcz26_4
         try clear hcz26_5
         try clear hcz40_0
         try clear hcz40_1
         try clear hcz40_2
         try clear hcz40_3
         try clear hcz40_4
         try clear hcz40_5
         try clear hcz47_0
         try clear hcz47_1
         try clear hcz49_0
         try clear hcz49_1
         try clear hcz54_0
         try clear hcz54_1
         try clear hcz54_2
         try clear hcz54_3
         try clear hcz54_4
         try clear hcz54_5
         try clear hcz56_0
         try clear hcz56_1
         try clear hcz56_2
         try clear hcz56_3
         try clear hcz56_4
         try clear hcz56_5
         try clear hcz58_0
         try clear hcz58_1
         try clear hcz58_2
         try clear hcz58_3
         try clear hcz58_4
         try clear hcz58_5
         try clear hcz65_0
         try clear hcz65_1
         try clear hcz65_2
         try clear hcz65_3
         try clear hcz65_4
         try clear hcz65_5
         try clear hcz67_0
         try clear hcz67_1
         try clear hcz67_2
         try clear hcz67_3
         try clear hcz67_4
         try clear hcz67_5
         try clear hcz69_0
         try clear hcz69_1
         try clear hcz69_2
         try clear hcz69_3
         try clear hcz69_4
         try clear hcz69_5
         try clear hcz71_0
         try clear hcz71_1
         try clear hcz71_2
         try clear hcz71_3
         try clear hcz71_4
         try clear hcz71_5
         try clear hcz75_0
         try clear hcz75_1
         try clear hcz75_2
         try clear hcz75_3
         try clear hcz75_4
         try clear hcz75_5
         try clear hcz78_0
         try clear hcz78_1
         try clear hcz78_2
         try clear hcz78_3
         try clear hcz78_4
         try clear hcz78_5
         try clear hcz80_0
         try clear hcz80_1
         try clear hcz80_2
         try clear hcz80_3
         try clear hcz80_4
         try clear hcz80_5
         try clear hcz82_0
         try clear hcz82_1
         try clear hcz82_2
         try clear hcz82_3
         try clear hcz82_4
         try clear hcz82_5
         try clear hcz8_0
         try clear hcz8_1
         try clear hcz8_2
         try clear hcz8_3
         try clear hcz8_4
         try clear hcz8_5
         try clear hcz93_0
         try clear hcz93_1
         try clear hcz93_2
         try clear hcz93_3
         try clear hcz93_4
         try clear hcz93_5
         try clear hcz95_0
         try clear hcz95_1
         try clear hcz95_2
         try clear hcz95_3
         try clear hcz95_4
         try clear hcz95_5
         try clear hcz97_0
         try clear hcz97_1
         try clear hcz97_2
         try clear hcz97_3
         try clear hcz97_4
         try clear hcz97_5
         try clear hcz99_0
         try clear hcz99_1
         try clear hcz99_2
         try clear hcz99_3
         try clear hcz99_4
         try clear hcz99_5
         try clear hfz103_0
         try clear hfz103_1
         try clear hfz103_2
         try clear hfz103_3
         try clear hfz103_4
         try clear hfz103_5
         try clear hfz108_0
         try clear hfz108_1
         try clear hfz108_2
         try clear hfz108_3
         try clear hfz108_4
         try clear hfz108_5
         try clear hfz110_0
         try clear hfz110_1
         try clear hfz110_2
         try clear hfz110_3
         try clear hfz110_4
         try clear hfz110_5
         try clear hfz112_0
         try clear hfz112_1
         try clear hfz112_2
         try clear hfz112_3
         try clear hfz112_4
         try clear hfz112_5
         try clear hfz114_0
         try clear hfz114_1
         try clear hfz114_2
         try clear hfz114_3
         try clear hfz114_4
         try clear hfz114_5
         try clear hfz11_0
         try clear hfz11_1
         try clear hfz11_2
         try clear hfz11_3
         try clear hfz11_4
         try clear hfz11_5
         try clear hfz14_0
         try clear hfz14_1
         try clear hfz14_2
         try clear hfz14_3
         try clear hfz14_4
         try clear hfz14_5
         try clear hfz16_0
         try clear hfz16_1
         try clear hfz16_2
         try clear hfz16_3
         try clear hfz16_4
         try clear hfz16_5
         try clear hfz26_0
         try clear hfz26_1
         try clear hfz26_2
         try clear hfz26_3
         try clear hfz26_4
         try clear hfz26_5
         try clear hfz40_0
         try clear hfz40_1
         try clear hfz40_2
         try clear hfz40_3
         try clear hfz40_4
         try clear hfz40_5
         try clear hfz47_0
         try clear hfz47_1
         try clear hfz49_0
         try clear hfz49_1
         try clear hfz54_0
         try clear hfz54_1
         try clear hfz54_2
         try clear hfz54_3
         try clear hfz54_4
         try clear hfz54_5
         try clear hfz56_0
         try clear hfz56_1
         try clear hfz56_2
         try clear hfz56_3
         try clear hfz56_4
         try clear hfz56_5
         try clear hfz58_0
         try clear hfz58_1
         try clear hfz58_2
         try clear hfz58_3
         try clear hfz58_4
         try clear hfz58_5
         try clear hfz65_0
         try clear hfz65_1
         try clear hfz65_2
         try clear hfz65_3
         try clear hfz65_4
         try clear hfz65_5
         try clear hfz67_0
         try clear hfz67_1
         try clear hfz67_2
         try clear hfz67_3
         try clear hfz67_4
         try clear hfz67_5
         try clear hfz69_0
         try clear hfz69_1
         try clear hfz69_2
         try clear hfz69_3
         try clear hfz69_4
         try clear hfz69_5
         try clear hfz71_0
         try clear hfz71_1
         try clear hfz71_2
         try clear hfz71_3
         try clear hfz71_4
         try clear hfz71_5
         try clear hfz75_0
         try clear hfz75_1
         try clear hfz75_2
         try clear hfz75_3
         try clear hfz75_4
         try clear hfz75_5
         try clear hfz78_0
         try clear hfz78_1
         try clear hfz78_2
         try clear hfz78_3
         try clear hfz78_4
         try clear hfz78_5
         try clear hfz80_0
         try clear hfz80_1
         try clear hfz80_2
         try clear hfz80_3
         try clear hfz80_4
         try clear hfz80_5
         try clear hfz82_0
         try clear hfz82_1
         try clear hfz82_2
         try clear hfz82_3
         try clear hfz82_4
         try clear hfz82_5
         try clear hfz8_0
         try clear hfz8_1
         try clear hfz8_2
         try clear hfz8_3
         try clear hfz8_4
         try clear hfz8_5
         try clear hfz93_0
         try clear hfz93_1
         try clear hfz93_2
         try clear hfz93_3
         try clear hfz93_4
         try clear hfz93_5
         try clear hfz95_0
         try clear hfz95_1
         try clear hfz95_2
         try clear hfz95_3
         try clear hfz95_4
         try clear hfz95_5
         try clear hfz97_0
         try clear hfz97_1
         try clear hfz97_2
         try clear hfz97_3
         try clear hfz97_4
         try clear hfz97_5
         try clear hfz99_0
         try clear hfz99_1
         try clear hfz99_2
         try clear hfz99_3
         try clear hfz99_4
         try clear hfz99_5
         try clear hx116_0
         try clear hx120_0
         try clear hx121_0
         try clear hx123_0
         try clear p1
         try clear p11
         try clear p116
         try clear p12
         try clear p120
         try clear p121
         try clear p123
         try clear p2
         try clear p6
         try clear p64
         try clear q1
         try clear q11
         try clear q116
         try clear q12
         try clear q120
         try clear q121
         try clear q123
         obtain ⟨kq, x13_100, rfl, HA, HJ100, BK105, BK106, HB⟩ := hcut
         rcases kq with _ | kj100
         ·exact absurd HA.out (by simp [finite_valid.j6])
         have H := HA.out
         clear HA
         simp only [finite_valid.j6] at H
         have H' := Aside0.mk H
         clear H
         have hnb115 := NB106_105.out
         have hnc115 := NB105_106.out
         have hcz116_0 : wc.cell? ⟨gb106, 0, none⟩ = some (.int .i64 a1_0) := (blk_cell BK106.out 0).trans rfl
         have hcz116_1 : wc.cell? ⟨gb106, 1, none⟩ = some (.slice A1_1 l1_1.length c1_1) := (blk_cell BK106.out 1).trans rfl
         have hcz116_2 : wc.cell? ⟨gb106, 2, none⟩ = some (.slice A1_2 l1_2.length c1_2) := (blk_cell BK106.out 2).trans rfl
         have hcz116_3 : wc.cell? ⟨gb106, 3, none⟩ = some (.slice A1_3 l1_3.length c1_3) := (blk_cell BK106.out 3).trans rfl
         have hcz116_4 : wc.cell? ⟨gb106, 4, none⟩ = some (.int .i64 a1_4) := (blk_cell BK106.out 4).trans rfl
         have hcz116_5 : wc.cell? ⟨gb106, 5, none⟩ = some (.slice A1_5 l1_5.length c1_5) := (blk_cell BK106.out 5).trans rfl
         have hfz116_0 := blk_frozen BK106.out 0
         have hfz116_1 := blk_frozen BK106.out 1
         have hfz116_2 := blk_frozen BK106.out 2
         have hfz116_3 := blk_frozen BK106.out 3
         have hfz116_4 := blk_frozen BK106.out 4
         have hfz116_5 := blk_frozen BK106.out 5
         (try clear hSr)
         (try have hSr := Sent.ofB hS HB)
         go_wp2
         go_loopg [13, 224] kj100 (fun kq v13 v224 w' => ∃ (x13_6 : Bool) (x224_6 : Int), v13 = .bool x13_6 ∧ v224 = .int .i64 x224_6 ∧ Aside0 (finite_valid.l4 kq x13_6 (l1_2.length : Int) x224_6 a1_0 l1_1 l1_2 l1_3 a1_4 l1_5 = some r) ∧ Aside0 (kq ≤ kj100) ∧ Aside0 (w'.heap[gb105]? = some (.cells #[(.slice A0_0 l0_0.length c0_0), (.slice A0_1 l0_1.length c0_1)] 25 (0, 0))) ∧ Aside0 (w'.heap[gb106]? = some (.cells #[.int .i64 a1_0, (.slice A1_1 l1_1.length c1_1), (.slice A1_2 l1_2.length c1_2), (.slice A1_3 l1_3.length c1_3), .int .i64 a1_4, (.slice A1_5 l1_5.length c1_5)] 44 (0, 0))) ∧ Aside0 (Below w.heap.size w w'))
         case atStart => exact ⟨(x13_100), (0), (by rfl), (by rfl), H', ⟨Nat.le_refl _⟩, ⟨by exact BK105.out⟩, ⟨by exact BK106.out⟩, ⟨by exact HB.out⟩⟩
         case round => as_aux_lemma =>
          clear H'
          try clear c1
          try clear p1
          try clear q1
          try clear hx1
          try clear p2
          try clear c5
          try clear c6
          try clear p6
          try clear c7
          try clear c8
          try clear c9
          try clear c10
          try clear c11
          try clear p11
          try clear q11
          try clear hx11
          try clear c12
          try clear p12
          try clear q12
          try clear hx12
          try clear c50
          try clear c50b0
          try clear c50b1
          try clear c51
          try clear c51b0
          try clear c51b1
          try clear c52
          try clear c52b0
          try clear c52b1
          try clear c53
          try clear c55
          try clear c57
          try clear c59
          try clear c59b0
          try clear c59b1
          try clear c60
          try clear c60b0
          try clear c60b1
          try clear c60b2
          try clear c61
          try clear c61b0
          try clear c61b1
          try clear c63
          try clear c64
          try clear p64
          try clear c66
          try clear c68
          try clear c70
          try clear c72
          try clear c72b0
          try clear c72b1
          try clear c74
          try clear c76
          try clear c76b0
          try clear c76b1
          try clear c77
          try clear c79
          try clear c81
          try clear c83
          try clear c83b0
          try clear c84
          try clear c84b0
          try clear c85
          try clear c85b0
          try clear c86
          try clear c87
          try clear c88
          try clear c88b0
          try clear c88b1
          try clear c89
          try clear c89b0
          try clear c89b1
          try clear c90
          try clear c90b0
          try clear c90b1
          try clear c91
          try clear c91b0
          try clear c91b1
          try clear c92
          try clear c94
          try clear c96
          try clear c98
          try clear c100
          try clear c100b0
          try clear c100b1
          try clear c102
          try clear c104
          try clear c104b0
          try clear c104b1
          try clear c104b2
          try clear c105
          try clear c105b0
          try clear c105b1
          try clear c105b2
          try clear c106
          try clear c106b0
          try clear c106b1
          try clear c106b2
          try clear c107
          try clear c109
          try clear c111
          try clear c113
          try clear c115
          try clear p116
          try clear q116
          try clear hx116
          try clear hcz103_0
          try clear hcz103_1
          try clear hcz103_2
          try clear hcz103_3
          try clear hcz103_4
          try clear hcz103_5
          try clear hcz108_0
          try clear hcz108_1
          try clear hcz108_2
          try clear hcz108_3
          try clear hcz108_4
          try clear hcz108_5
          try clear hcz110_0
          try clear hcz110_1
          try clear hcz110_2
          try clear hcz110_3
          try clear hcz110_4
          try clear hcz110_5
          try clear hcz112_0
          try clear hcz112_1
          try clear hcz112_2
          try clear hcz112_3
          try clear hcz112_4
          try clear hcz112_5
          try clear hcz114_0
          try clear hcz114_1
          try clear hcz114_2
          try clear hcz114_3
          try clear hcz114_4
          try clear hcz114_5
          try clear hcz116_0
          try clear hcz116_1
          try clear hcz116_2
          try clear hcz116_3
          try clear hcz116_4
          try clear hcz116_5
          try clear hcz11_0
          try clear hcz11_1
          try clear hcz11_2
          try clear hcz11_3
          try clear hcz11_4
          try clear hcz11_5
          try clear hcz14_0
          try clear hcz14_1
          try clear hcz14_2
          try clear hcz14_3
          try clear hcz14_4
          try clear hcz14_5
          try clear hcz16_0
          try clear hcz16_1
          try clear hcz16_2
          try clear hcz16_3
          try clear hcz16_4
          try clear hcz16_5
          try clear hcz26_0
          try clear hcz26_1
          try clear hcz26_2
          try clear hcz26_3
          try clear hcz26_4
          try clear hcz26_5
          try clear hcz40_0
          try clear hcz40_1
          try clear hcz40_2
          try clear hcz40_3
          try clear hcz40_4
          try clear hcz40_5
          try clear hcz47_0
          try clear hcz47_1
          try clear hcz49_0
          try clear hcz49_1
          try clear hcz54_0
          try clear hcz54_1
          try clear hcz54_2
          try clear hcz54_3
          try clear hcz54_4
          try clear hcz54_5
          try clear hcz56_0
          try clear hcz56_1
          try clear hcz56_2
          try clear hcz56_3
          try clear hcz56_4
          try clear hcz56_5
          try clear hcz58_0
          try clear hcz58_1
          try clear hcz58_2
          try clear hcz58_3
          try clear hcz58_4
          try clear hcz58_5
          try clear hcz65_0
          try clear hcz65_1
          try clear hcz65_2
          try clear hcz65_3
          try clear hcz65_4
          try clear hcz65_5
          try clear hcz67_0
          try clear hcz67_1
          try clear hcz67_2
          try clear hcz67_3
          try clear hcz67_4
          try clear hcz67_5
          try clear hcz69_0
          try clear hcz69_1
          try clear hcz69_2
          try clear hcz69_3
          try clear hcz69_4
          try clear hcz69_5
          try clear hcz71_0
          try clear hcz71_1
          try clear hcz71_2
          try clear hcz71_3
          try clear hcz71_4
          try clear hcz71_5
          try clear hcz75_0
          try clear hcz75_1
          try clear hcz75_2
          try clear hcz75_3
          try clear hcz75_4
          try clear hcz75_5
          try clear hcz78_0
          try clear hcz78_1
          try clear hcz78_2
          try clear hcz78_3
          try clear hcz78_4
          try clear hcz78_5
          try clear hcz80_0
          try clear hcz80_1
          try clear hcz80_2
          try clear hcz80_3
          try clear hcz80_4
          try clear hcz80_5
          try clear hcz82_0
          try clear hcz82_1
          try clear hcz82_2
          try clear hcz82_3
          try clear hcz82_4
          try clear hcz82_5
          try clear hcz8_0
          try clear hcz8_1
          try clear hcz8_2
          try clear hcz8_3
          try clear hcz8_4
          try clear hcz8_5
          try clear hcz93_0
          try clear hcz93_1
          try clear hcz93_2
          try clear hcz93_3
          try clear hcz93_4
          try clear hcz93_5
          try clear hcz95_0
          try clear hcz95_1
          try clear hcz95_2
          try clear hcz95_3
          try clear hcz95_4
          try clear hcz95_5
          try clear hcz97_0
          try clear hcz97_1
          try clear hcz97_2
          try clear hcz97_3
          try clear hcz97_4
          try clear hcz97_5
          try clear hcz99_0
          try clear hcz99_1
          try clear hcz99_2
          try clear hcz99_3
          try clear hcz99_4
          try clear hcz99_5
          try clear hfz103_0
          try clear hfz103_1
          try clear hfz103_2
          try clear hfz103_3
          try clear hfz103_4
          try clear hfz103_5
          try clear hfz108_0
          try clear hfz108_1
          try clear hfz108_2
          try clear hfz108_3
          try clear hfz108_4
          try clear hfz108_5
          try clear hfz110_0
          try clear hfz110_1
          try clear hfz110_2
          try clear hfz110_3
          try clear hfz110_4
          try clear hfz110_5
          try clear hfz112_0
          try clear hfz112_1
          try clear hfz112_2
          try clear hfz112_3
          try clear hfz112_4
          try clear hfz112_5
          try clear hfz114_0
          try clear hfz114_1
          try clear hfz114_2
          try clear hfz114_3
          try clear hfz114_4
          try clear hfz114_5
          try clear hfz116_0
          try clear hfz116_1
          try clear hfz116_2
          try clear hfz116_3
          try clear hfz116_4
          try clear hfz116_5
          try clear hfz11_0
          try clear hfz11_1
          try clear hfz11_2
          try clear hfz11_3
          try clear hfz11_4
          try clear hfz11_5
          try clear hfz14_0
          try clear hfz14_1
          try clear hfz14_2
          try clear hfz14_3
          try clear hfz14_4
          try clear hfz14_5
          try clear hfz16_0
          try clear hfz16_1
          try clear hfz16_2
          try clear hfz16_3
          try clear hfz16_4
          try clear hfz16_5
          try clear hfz26_0
          try clear hfz26_1
          try clear hfz26_2
          try clear hfz26_3
          try clear hfz26_4
          try clear hfz26_5
          try clear hfz40_0
          try clear hfz40_1
          try clear hfz40_2
          try clear hfz40_3
          try clear hfz40_4
          try clear hfz40_5
          try clear hfz47_0
          try clear hfz47_1
          try clear hfz49_0
          try clear hfz49_1
          try clear hfz54_0
          try clear hfz54_1
          try clear hfz54_2
          try clear hfz54_3
          try clear hfz54_4
          try clear hfz54_5
          try clear hfz56_0
          try clear hfz56_1
          try clear hfz56_2
          try clear hfz56_3
          try clear hfz56_4
          try clear hfz56_5
          try clear hfz58_0
          try clear hfz58_1
          try clear hfz58_2
          try clear hfz58_3
          try clear hfz58_4
          try clear hfz58_5
          try clear hfz65_0
          try clear hfz65_1
          try clear hfz65_2
          try clear hfz65_3
          try clear hfz65_4
          try clear hfz65_5
          try clear hfz67_0
          try clear hfz67_1
          try clear hfz67_2
          try clear hfz67_3
          try clear hfz67_4
          try clear hfz67_5
          try clear hfz69_0
          try clear hfz69_1
          try clear hfz69_2
          try clear hfz69_3
          try clear hfz69_4
          try clear hfz69_5
          try clear hfz71_0
          try clear hfz71_1
          try clear hfz71_2
          try clear hfz71_3
          try clear hfz71_4
          try clear hfz71_5
          try clear hfz75_0
          try clear hfz75_1
          try clear hfz75_2
          try clear hfz75_3
          try clear hfz75_4
          try clear hfz75_5
          try clear hfz78_0
          try clear hfz78_1
          try clear hfz78_2
          try clear hfz78_3
          try clear hfz78_4
          try clear hfz78_5
          try clear hfz80_0
          try clear hfz80_1
          try clear hfz80_2
          try clear hfz80_3
          try clear hfz80_4
          try clear hfz80_5
          try clear hfz82_0
          try clear hfz82_1
          try clear hfz82_2
          try clear hfz82_3
          try clear hfz82_4
          try clear hfz82_5
          try clear hfz8_0
          try clear hfz8_1
          try clear hfz8_2
          try clear hfz8_3
          try clear hfz8_4
          try clear hfz8_5
          try clear hfz93_0
          try clear hfz93_1
          try clear hfz93_2
          try clear hfz93_3
          try clear hfz93_4
          try clear hfz93_5
          try clear hfz95_0
          try clear hfz95_1
          try clear hfz95_2
          try clear hfz95_3
          try clear hfz95_4
          try clear hfz95_5
          try clear hfz97_0
          try clear hfz97_1
          try clear hfz97_2
          try clear hfz97_3
          try clear hfz97_4
          try clear hfz97_5
          try clear hfz99_0
          try clear hfz99_1
          try clear hfz99_2
          try clear hfz99_3
          try clear hfz99_4
          try clear hfz99_5
          try clear hx116_0
          try clear hx120_0
          try clear hx121_0
          try clear hx123_0
          try clear p1
          try clear p11
          try clear p116
          try clear p12
          try clear p120
          try clear p121
          try clear p123
          try clear p2
          try clear p6
          try clear p64
          try clear q1
          try clear q11
          try clear q116
          try clear q12
          try clear q120
          try clear q121
          try clear q123
          obtain ⟨x13_6, x224_6, rfl, rfl, HA, HK6, BK105, BK106, HB⟩ := hrel
          rcases gk with _ | k6
          ·exact absurd HA.out (by simp [finite_valid.l4])
          have H := HA.out
          clear HA
          simp only [finite_valid.l4] at H
          by_cases c117 : x224_6 < (l1_2.length : Int)
          ·rw [if_pos c117] at H
           have c117b0 : decide (x224_6 < (l1_2.length : Int)) = true := decide_eq_true c117
           clear c117
           by_cases c118 : x13_6 = true
           ·subst c118
            have H1 : (if x224_6 < (l1_3.length : Int) then (if 0 ≤ x224_6 then (if x224_6 < (l1_2.length : Int) then (if (rd l1_2 x224_6) ≥ 0 then (finite_valid.l4 k6 (decide ((rd l1_3 x224_6) ≥ 0)) (l1_2.length : Int) (wrap64 (x224_6 + 1)) a1_0 l1_1 l1_2 l1_3 a1_4 l1_5) else (finite_valid.l4 k6 false (l1_2.length : Int) (wrap64 (x224_6 + 1)) a1_0 l1_1 l1_2 l1_3 a1_4 l1_5)) else (none)) else (none)) else (finite_valid.l4 k6 false (l1_2.length : Int) (wrap64 (x224_6 + 1)) a1_0 l1_1 l1_2 l1_3 a1_4 l1_5)) = some r := by rw [if_pos rfl] at H; exact H
            clear H
            have H := H1
            clear H1
            by_cases c119 : x224_6 < (l1_3.length : Int)
            ·rw [if_pos c119] at H
             have c119b0 : decide (x224_6 < (l1_3.length : Int)) = true := decide_eq_true c119
             clear c119
             by_cases c120 : 0 ≤ x224_6
             ·rw [if_pos c120] at H
              have c120b0 : decide (0 ≤ x224_6) = true := decide_eq_true c120
              clear c120
              by_cases c121 : x224_6 < (l1_2.length : Int)
              ·rw [if_pos c121] at H
               have c121b0 : decide (x224_6 < (l1_2.length : Int)) = true := decide_eq_true c121
               clear c121
               by_cases c122 : (rd l1_2 x224_6) ≥ 0
               ·rw [if_pos c122] at H
                have c122b0 : decide (0 ≤ (rd l1_2 x224_6)) = true := decide_eq_true c122
                clear c122
                have H' := Aside0.mk H
                clear H
                have hnb123 := NB106_105.out
                have hnc123 := NB105_106.out
                have hcz124_0 : wr.cell? ⟨gb106, 0, none⟩ = some (.int .i64 a1_0) := (blk_cell BK106.out 0).trans rfl
                have hcz124_1 : wr.cell? ⟨gb106, 1, none⟩ = some (.slice A1_1 l1_1.length c1_1) := (blk_cell BK106.out 1).trans rfl
                have hcz124_2 : wr.cell? ⟨gb106, 2, none⟩ = some (.slice A1_2 l1_2.length c1_2) := (blk_cell BK106.out 2).trans rfl
                have hcz124_3 : wr.cell? ⟨gb106, 3, none⟩ = some (.slice A1_3 l1_3.length c1_3) := (blk_cell BK106.out 3).trans rfl
                have hcz124_4 : wr.cell? ⟨gb106, 4, none⟩ = some (.int .i64 a1_4) := (blk_cell BK106.out 4).trans rfl
                have hcz124_5 : wr.cell? ⟨gb106, 5, none⟩ = some (.slice A1_5 l1_5.length c1_5) := (blk_cell BK106.out 5).trans rfl
                have hfz124_0 := blk_frozen BK106.out 0
                have hfz124_1 := blk_frozen BK106.out 1
                have hfz124_2 := blk_frozen BK106.out 2
                have hfz124_3 := blk_frozen BK106.out 3
                have hfz124_4 := blk_frozen BK106.out 4
                have hfz124_5 := blk_frozen BK106.out 5
                have p124 : 0 ≤ (x224_6 : Int) := of_decide_eq_true (by (with_reducible assumption))
                have q124 : x224_6 < (l1_2.length : Int) := of_decide_eq_true (by (with_reducible assumption))
                obtain ⟨ad124, e124, hx124_0⟩ := Kd.at_int HR1_2.out x224_6 p124 q124
                cases e124
                replace hx124_0 := (HB.out.cell (World.block_lt_of_cell? w _ hx124_0)).trans hx124_0
                replace p124 := eq_true p124
                replace q124 := eq_true q124
                have p125 : 0 ≤ (x224_6 : Int) := of_decide_eq_true (by (with_reducible assumption))
                have q125 : x224_6 < (l1_3.length : Int) := of_decide_eq_true (by (with_reducible assumption))
                obtain ⟨ad125, e125, hx125_0⟩ := Kd.at_int HR1_3.out x224_6 p125 q125
                cases e125
                replace hx125_0 := (HB.out.cell (World.block_lt_of_cell? w _ hx125_0)).trans hx125_0
                replace p125 := eq_true p125
                replace q125 := eq_true q125
                (try clear hSr)
                (try have hSr := Sent.ofB hS HB)
                go_wp2
                go_roundg k6
                case measure => have := HJ2.out; have := HK2.out; have := HK3.out; have := HK4.out; have := HJ100.out; have := HK6.out; omega
                case rel => exact ⟨(decide ((rd l1_3 x224_6) ≥ 0)), (wrap64 (x224_6 + 1)), (by rfl), (by rfl), H', ⟨by have := HJ2.out; have := HK2.out; have := HK3.out; have := HK4.out; have := HJ100.out; have := HK6.out; omega⟩, ⟨by exact BK105.out⟩, ⟨by exact BK106.out⟩, ⟨by exact HB.out⟩⟩
               rw [if_neg c122] at H
               have c122b0 : decide (0 ≤ (rd l1_2 x224_6)) = false := decide_eq_false c122
               clear c122
               have H' := Aside0.mk H
               clear H
               have hnb125 := NB106_105.out
               have hnc125 := NB105_106.out
               have hcz126_0 : wr.cell? ⟨gb106, 0, none⟩ = some (.int .i64 a1_0) := (blk_cell BK106.out 0).trans rfl
               have hcz126_1 : wr.cell? ⟨gb106, 1, none⟩ = some (.slice A1_1 l1_1.length c1_1) := (blk_cell BK106.out 1).trans rfl
               have hcz126_2 : wr.cell? ⟨gb106, 2, none⟩ = some (.slice A1_2 l1_2.length c1_2) := (blk_cell BK106.out 2).trans rfl
               have hcz126_3 : wr.cell? ⟨gb106, 3, none⟩ = some (.slice A1_3 l1_3.length c1_3) := (blk_cell BK106.out 3).trans rfl
               have hcz126_4 : wr.cell? ⟨gb106, 4, none⟩ = some (.int .i64 a1_4) := (blk_cell BK106.out 4).trans rfl
               have hcz126_5 : wr.cell? ⟨gb106, 5, none⟩ = some (.slice A1_5 l1_5.length c1_5) := (blk_cell BK106.out 5).trans rfl
               have hfz126_0 := blk_frozen BK106.out 0
               have hfz126_1 := blk_frozen BK106.out 1
               have hfz126_2 := blk_frozen BK106.out 2
               have hfz126_3 := blk_frozen BK106.out 3
               have hfz126_4 := blk_frozen BK106.out 4
               have hfz126_5 := blk_frozen BK106.out 5
               have p124 : 0 ≤ (x224_6 : Int) := of_decide_eq_true (by (with_reducible assumption))
               have q124 : x224_6 < (l1_2.length : Int) := of_decide_eq_true (by (with_reducible assumption))
               obtain ⟨ad124, e124, hx124_0⟩ := Kd.at_int HR1_2.out x224_6 p124 q124
               cases e124
               replace hx124_0 := (HB.out.cell (World.block_lt_of_cell? w _ hx124_0)).trans hx124_0
               replace p124 := eq_true p124
               replace q124 := eq_true q124
               (try clear hSr)
               (try have hSr := Sent.ofB hS HB)
               go_wp2
               go_roundg k6
               case measure => have := HJ2.out; have := HK2.out; have := HK3.out; have := HK4.out; have := HJ100.out; have := HK6.out; omega
               case rel => exact ⟨(false), (wrap64 (x224_6 + 1)), (by rfl), (by rfl), H', ⟨by have := HJ2.out; have := HK2.out; have := HK3.out; have := HK4.out; have := HJ100.out; have := HK6.out; omega⟩, ⟨by exact BK105.out⟩, ⟨by exact BK106.out⟩, ⟨by exact HB.out⟩⟩
              rw [if_neg c121] at H
              exact absurd H (by simp)
             rw [if_neg c120] at H
             exact absurd H (by simp)
            rw [if_neg c119] at H
            have c119b0 : decide (x224_6 < (l1_3.length : Int)) = false := decide_eq_false c119
            clear c119
            have H' := Aside0.mk H
            clear H
            have hnb127 := NB106_105.out
            have hnc127 := NB105_106.out
            have hcz128_0 : wr.cell? ⟨gb106, 0, none⟩ = some (.int .i64 a1_0) := (blk_cell BK106.out 0).trans rfl
            have hcz128_1 : wr.cell? ⟨gb106, 1, none⟩ = some (.slice A1_1 l1_1.length c1_1) := (blk_cell BK106.out 1).trans rfl
            have hcz128_2 : wr.cell? ⟨gb106, 2, none⟩ = some (.slice A1_2 l1_2.length c1_2) := (blk_cell BK106.out 2).trans rfl
            have hcz128_3 : wr.cell? ⟨gb106, 3, none⟩ = some (.slice A1_3 l1_3.length c1_3) := (blk_cell BK106.out 3).trans rfl
            have hcz128_4 : wr.cell? ⟨gb106, 4, none⟩ = some (.int .i64 a1_4) := (blk_cell BK106.out 4).trans rfl
            have hcz128_5 : wr.cell? ⟨gb106, 5, none⟩ = some (.slice A1_5 l1_5.length c1_5) := (blk_cell BK106.out 5).trans rfl
            have hfz128_0 := blk_frozen BK106.out 0
            have hfz128_1 := blk_frozen BK106.out 1
            have hfz128_2 := blk_frozen BK106.out 2
            have hfz128_3 := blk_frozen BK106.out 3
            have hfz128_4 := blk_frozen BK106.out 4
            have hfz128_5 := blk_frozen BK106.out 5
            (try clear hSr)
            (try have hSr := Sent.ofB hS HB)
            go_wp2
            go_roundg k6
            case measure => have := HJ2.out; have := HK2.out; have := HK3.out; have := HK4.out; have := HJ100.out; have := HK6.out; omega
            case rel => exact ⟨(false), (wrap64 (x224_6 + 1)), (by rfl), (by rfl), H', ⟨by have := HJ2.out; have := HK2.out; have := HK3.out; have := HK4.out; have := HJ100.out; have := HK6.out; omega⟩, ⟨by exact BK105.out⟩, ⟨by exact BK106.out⟩, ⟨by exact HB.out⟩⟩
           replace c118 := Bool.eq_false_iff.mpr c118
           subst c118
           have H1 : (finite_valid.l4 k6 false (l1_2.length : Int) (wrap64 (x224_6 + 1)) a1_0 l1_1 l1_2 l1_3 a1_4 l1_5) = some r := by rw [if_neg (show ¬ (false = true) by decide)] at H; exact H
           clear H
           have H := H1
           clear H1
           have H' := Aside0.mk H
           clear H
           (try clear hSr)
           (try have hSr := Sent.ofB hS HB)
           go_wp2
           go_roundg k6
           case measure => have := HJ2.out; have := HK2.out; have := HK3.out; have := HK4.out; have := HJ100.out; have := HK6.out; omega
           case rel => exact ⟨(false), (wrap64 (x224_6 + 1)), (by rfl), (by rfl), H', ⟨by have := HJ2.out; have := HK2.out; have := HK3.out; have := HK4.out; have := HJ100.out; have := HK6.out; omega⟩, ⟨by exact BK105.out⟩, ⟨by exact BK106.out⟩, ⟨by exact HB.out⟩⟩
          rw [if_neg c117] at H
          have c117b0 : decide (x224_6 < (l1_2.length : Int)) = false := decide_eq_false c117
          clear c117
          by_cases c129 : x13_6 = true
          ·subst c129
           have H1 : (some none) = some r := by rw [if_pos rfl] at H; exact H
           clear H
           have H := H1
           clear H1
           obtain rfl := Option.some.inj H
           (try clear hSr)
           (try have hSr := Sent.ofB hS HB)
           go_wp2
           go_ret
           exact ⟨by rfl, by exact HB.out⟩
          replace c129 := Bool.eq_false_iff.mpr c129
          subst c129
          have H1 : (some (some 0)) = some r := by rw [if_neg (show ¬ (false = true) by decide)] at H; exact H
          clear H
          have H := H1
          clear H1
          obtain rfl := Option.some.inj H
          (try clear hSr)
          (try have hSr := Sent.ofB hS HB)
          go_wp2
          go_ret
          exact ⟨by rfl, by exact HB.out⟩
       rw [if_neg c100] at H
       have c100b0 : (a1_0 == 5) = false := beq_eq_false_iff_ne.mpr c100
       have c100b1 : (a1_0 != 5) = true := bne_iff_ne.mpr c100
       obtain rfl := Option.some.inj H
       have hnb130 := NB106_105.out
       have hnc130 := NB105_106.out
       have hcz131_0 : wr.cell? ⟨gb106, 0, none⟩ = some (.int .i64 a1_0) := (blk_cell BK106.out 0).trans rfl
       have hcz131_1 : wr.cell? ⟨gb106, 1, none⟩ = some (.slice A1_1 l1_1.length c1_1) := (blk_cell BK106.out 1).trans rfl
       have hcz131_2 : wr.cell? ⟨gb106, 2, none⟩ = some (.slice A1_2 l1_2.length c1_2) := (blk_cell BK106.out 2).trans rfl
       have hcz131_3 : wr.cell? ⟨gb106, 3, none⟩ = some (.slice A1_3 l1_3.length c1_3) := (blk_cell BK106.out 3).trans rfl
       have hcz131_4 : wr.cell? ⟨gb106, 4, none⟩ = some (.int .i64 a1_4) := (blk_cell BK106.out 4).trans rfl
       have hcz131_5 : wr.cell? ⟨gb106, 5, none⟩ = some (.slice A1_5 l1_5.length c1_5) := (blk_cell BK106.out 5).trans rfl
       have hfz131_0 := blk_frozen BK106.out 0
       have hfz131_1 := blk_frozen BK106.out 1
       have hfz131_2 := blk_frozen BK106.out 2
       have hfz131_3 := blk_frozen BK106.out 3
       have hfz131_4 := blk_frozen BK106.out 4
       have hfz131_5 := blk_frozen BK106.out 5
       (try clear hSr)
       (try have hSr := Sent.ofB hS HB)
       go_wp2
       go_ret
       exact ⟨by rfl, by exact HB.out⟩
   rw [if_neg c19] at H
   exact absurd H (by simp)
  rw [if_neg c18] at H
  exact absurd H (by simp)

end Go.Proofs.YtehekppkicjimaaDoor.QFK
