-- written by a program of mine (wip/tools/print2.py), which turns the kit's printer a little
import Derived.Test.YtehekppkicjimaaDoorQFKx0
import Derived.Test.YtehekppkicjimaaDoorQFKx9
import Derived.Test.YtehekppkicjimaaDoorQFKx5
import Derived.Test.YtehekppkicjimaaDoorQFKx6
import Derived.Test.YtehekppkicjimaaDoorQFKx7
import Derived.Test.YtehekppkicjimaaDoorQFKx8
import Derived.Test.YtehekppkicjimaaDoorQFKx11
import Derived.Test.YtehekppkicjimaaDoorCoded
namespace Go.Proofs.YtehekppkicjimaaDoor.QFK
open Go.RowKit Go.Proofs.YtehekppkicjimaaDoorW.PrintWords Go.Proofs.YtehekppkicjimaaDoorW.PrintLast Go.Proofs.YtehekppkicjimaaDoorW.PrintMore
attribute [local go_sem] max2_int min2_int max_two min_two max_three min_three max_four min_four
set_option linter.unusedVariables false
set_option linter.unusedSimpArgs false

attribute [local go_sem] Sent.alloc Sent.drew Sent.drewN Sent.c0 Sent.c1 Sent.c2 Sent.c3 Sent.c4 Sent.c5 Sent.c6 Sent.c7 Sent.c8 Sent.c9
/-! ### optimalaw3_FiniteKeeps: function 3 -/
mutual
def optimalaw3_FiniteKeeps.j0 : Nat → List Int → Bool → List (List Int) → List (S44) → Option (Bool)
 | 0, _, _, _, _ => none
 | k + 1, x1, x21, x367000, x367001 => if x21 = true then (some false) else ((optimalaw3_fewPuzzle.f k x367000 x367001).bind fun t379 => (if t379 = true then (optimalaw3_FiniteKeeps.j1 k x1 (decide ((x1.length : Int) > 20)) x367000 x367001) else (optimalaw3_FiniteKeeps.j1 k x1 true x367000 x367001)))
def optimalaw3_FiniteKeeps.j1 : Nat → List Int → Bool → List (List Int) → List (S44) → Option (Bool)
 | 0, _, _, _, _ => none
 | k + 1, x1, x30, x367000, x367001 => if x30 = true then (some true) else ((finite_Keeps.f k x367000 x367001 x1).bind fun bt380 => ((optimaref3_PuzzleValid.f k x367000 x367001).bind fun t382 => ((finite_Valid.f k x367000 x367001).bind fun t383 => ((optimalaw3_coded.f t383 t382).bind fun t384 => (if t384 = true then (if t382 = 0 then (optimalaw3_FiniteKeeps.j2 k x1 bt380.1 bt380.2 t382 ((x1.length : Int) != (x367000.length : Int)) x367000 x367001) else (optimalaw3_FiniteKeeps.j2 k x1 bt380.1 bt380.2 t382 false x367000 x367001)) else (some false))))))
def optimalaw3_FiniteKeeps.j2 : Nat → List Int → Bool → Option Int → Int → Bool → List (List Int) → List (S44) → Option (Bool)
 | 0, _, _, _, _, _, _, _ => none
 | k + 1, x1, x5, x6, x8, x54, x367000, x367001 => if x54 = true then (optimalaw3_FiniteKeeps.j3 k x1 x5 x6 4 x367000 x367001) else (optimalaw3_FiniteKeeps.j3 k x1 x5 x6 x8 x367000 x367001)
def optimalaw3_FiniteKeeps.j3 : Nat → List Int → Bool → Option Int → Int → List (List Int) → List (S44) → Option (Bool)
 | 0, _, _, _, _, _, _ => none
 | k + 1, x1, x5, x6, x8, x367000, x367001 => if x8 > 0 then ((optimalaw3_coded.f x6 x8).bind fun t385 => (if t385 = true then (some (!x5)) else (some false))) else (if x6.isNone = true then ((optimaref3_Keeps.f k x367000 x367001 x1).bind fun t387 => (some (x5 == t387))) else (some false))
end
def optimalaw3_FiniteKeeps.f (k : Nat) (l0_0 : List (List Int)) (l0_1 : List (S44)) (l1 : List Int) : Option (Bool) := (optimalaw3_differ.f).bind fun bt367 => ((finite_Keeps.f k bt367.1 bt367.2 (([2, 1, 3] : List Int))).bind fun bt376 => (if bt376.2.isNone = true then (optimalaw3_FiniteKeeps.j0 k l1 (!bt376.1) l0_0 l0_1) else (optimalaw3_FiniteKeeps.j0 k l1 true l0_0 l0_1)))
theorem optimalaw3_FiniteKeeps.mono_l : ∀ k, (∀ y0 y1 y2 y3, LeO (optimalaw3_FiniteKeeps.j0 k y0 y1 y2 y3) (optimalaw3_FiniteKeeps.j0 (k + 1) y0 y1 y2 y3)) ∧ (∀ y0 y1 y2 y3, LeO (optimalaw3_FiniteKeeps.j1 k y0 y1 y2 y3) (optimalaw3_FiniteKeeps.j1 (k + 1) y0 y1 y2 y3)) ∧ (∀ y0 y1 y2 y3 y4 y5 y6, LeO (optimalaw3_FiniteKeeps.j2 k y0 y1 y2 y3 y4 y5 y6) (optimalaw3_FiniteKeeps.j2 (k + 1) y0 y1 y2 y3 y4 y5 y6)) ∧ (∀ y0 y1 y2 y3 y4 y5, LeO (optimalaw3_FiniteKeeps.j3 k y0 y1 y2 y3 y4 y5) (optimalaw3_FiniteKeeps.j3 (k + 1) y0 y1 y2 y3 y4 y5))
 | 0 => ⟨fun _ _ _ _ r h => by simp [optimalaw3_FiniteKeeps.j0] at h, fun _ _ _ _ r h => by simp [optimalaw3_FiniteKeeps.j1] at h, fun _ _ _ _ _ _ _ r h => by simp [optimalaw3_FiniteKeeps.j2] at h, fun _ _ _ _ _ _ r h => by simp [optimalaw3_FiniteKeeps.j3] at h⟩
 | k + 1 => by
  obtain ⟨ih0, ih1, ih2, ih3⟩ := optimalaw3_FiniteKeeps.mono_l k
  refine ⟨?_, ?_, ?_, ?_⟩
  ·intro y0 y1 y2 y3
   unfold optimalaw3_FiniteKeeps.j0
   repeat' first
   | (with_reducible exact ih0 _ _ _ _)
   | (with_reducible exact ih1 _ _ _ _)
   | (with_reducible exact ih2 _ _ _ _ _ _ _)
   | (with_reducible exact ih3 _ _ _ _ _ _)
   | (with_reducible exact finite_Keeps.mono _ _ _ _)
   | (with_reducible exact finite_Valid.mono _ _ _)
   | (with_reducible exact optimalaw3_fewPuzzle.mono _ _ _)
   | (with_reducible exact optimaref3_Keeps.mono _ _ _ _)
   | (with_reducible exact optimaref3_PuzzleValid.mono _ _ _)
   | (with_reducible exact LeO.refl _)
   | (with_reducible exact LeO.none _)
   | (with_reducible refine LeO.ite ?_ ?_)
   | (with_reducible refine LeO.bind ?_ (fun _ => ?_))
   | exact ih0 _ _ _ _
   | exact ih1 _ _ _ _
   | exact ih2 _ _ _ _ _ _ _
   | exact ih3 _ _ _ _ _ _
   | exact finite_Keeps.mono _ _ _ _
   | exact finite_Valid.mono _ _ _
   | exact optimalaw3_fewPuzzle.mono _ _ _
   | exact optimaref3_Keeps.mono _ _ _ _
   | exact optimaref3_PuzzleValid.mono _ _ _
   | exact LeO.none _
   | refine LeO.ite ?_ ?_
   | refine LeO.bind ?_ (fun _ => ?_)
  ·intro y0 y1 y2 y3
   unfold optimalaw3_FiniteKeeps.j1
   repeat' first
   | (with_reducible exact ih0 _ _ _ _)
   | (with_reducible exact ih1 _ _ _ _)
   | (with_reducible exact ih2 _ _ _ _ _ _ _)
   | (with_reducible exact ih3 _ _ _ _ _ _)
   | (with_reducible exact finite_Keeps.mono _ _ _ _)
   | (with_reducible exact finite_Valid.mono _ _ _)
   | (with_reducible exact optimalaw3_fewPuzzle.mono _ _ _)
   | (with_reducible exact optimaref3_Keeps.mono _ _ _ _)
   | (with_reducible exact optimaref3_PuzzleValid.mono _ _ _)
   | (with_reducible exact LeO.refl _)
   | (with_reducible exact LeO.none _)
   | (with_reducible refine LeO.ite ?_ ?_)
   | (with_reducible refine LeO.bind ?_ (fun _ => ?_))
   | exact ih0 _ _ _ _
   | exact ih1 _ _ _ _
   | exact ih2 _ _ _ _ _ _ _
   | exact ih3 _ _ _ _ _ _
   | exact finite_Keeps.mono _ _ _ _
   | exact finite_Valid.mono _ _ _
   | exact optimalaw3_fewPuzzle.mono _ _ _
   | exact optimaref3_Keeps.mono _ _ _ _
   | exact optimaref3_PuzzleValid.mono _ _ _
   | exact LeO.none _
   | refine LeO.ite ?_ ?_
   | refine LeO.bind ?_ (fun _ => ?_)
  ·intro y0 y1 y2 y3 y4 y5 y6
   unfold optimalaw3_FiniteKeeps.j2
   repeat' first
   | (with_reducible exact ih0 _ _ _ _)
   | (with_reducible exact ih1 _ _ _ _)
   | (with_reducible exact ih2 _ _ _ _ _ _ _)
   | (with_reducible exact ih3 _ _ _ _ _ _)
   | (with_reducible exact finite_Keeps.mono _ _ _ _)
   | (with_reducible exact finite_Valid.mono _ _ _)
   | (with_reducible exact optimalaw3_fewPuzzle.mono _ _ _)
   | (with_reducible exact optimaref3_Keeps.mono _ _ _ _)
   | (with_reducible exact optimaref3_PuzzleValid.mono _ _ _)
   | (with_reducible exact LeO.refl _)
   | (with_reducible exact LeO.none _)
   | (with_reducible refine LeO.ite ?_ ?_)
   | (with_reducible refine LeO.bind ?_ (fun _ => ?_))
   | exact ih0 _ _ _ _
   | exact ih1 _ _ _ _
   | exact ih2 _ _ _ _ _ _ _
   | exact ih3 _ _ _ _ _ _
   | exact finite_Keeps.mono _ _ _ _
   | exact finite_Valid.mono _ _ _
   | exact optimalaw3_fewPuzzle.mono _ _ _
   | exact optimaref3_Keeps.mono _ _ _ _
   | exact optimaref3_PuzzleValid.mono _ _ _
   | exact LeO.none _
   | refine LeO.ite ?_ ?_
   | refine LeO.bind ?_ (fun _ => ?_)
  intro y0 y1 y2 y3 y4 y5
  unfold optimalaw3_FiniteKeeps.j3
  repeat' first
  | (with_reducible exact ih0 _ _ _ _)
  | (with_reducible exact ih1 _ _ _ _)
  | (with_reducible exact ih2 _ _ _ _ _ _ _)
  | (with_reducible exact ih3 _ _ _ _ _ _)
  | (with_reducible exact finite_Keeps.mono _ _ _ _)
  | (with_reducible exact finite_Valid.mono _ _ _)
  | (with_reducible exact optimalaw3_fewPuzzle.mono _ _ _)
  | (with_reducible exact optimaref3_Keeps.mono _ _ _ _)
  | (with_reducible exact optimaref3_PuzzleValid.mono _ _ _)
  | (with_reducible exact LeO.refl _)
  | (with_reducible exact LeO.none _)
  | (with_reducible refine LeO.ite ?_ ?_)
  | (with_reducible refine LeO.bind ?_ (fun _ => ?_))
  | exact ih0 _ _ _ _
  | exact ih1 _ _ _ _
  | exact ih2 _ _ _ _ _ _ _
  | exact ih3 _ _ _ _ _ _
  | exact finite_Keeps.mono _ _ _ _
  | exact finite_Valid.mono _ _ _
  | exact optimalaw3_fewPuzzle.mono _ _ _
  | exact optimaref3_Keeps.mono _ _ _ _
  | exact optimaref3_PuzzleValid.mono _ _ _
  | exact LeO.none _
  | refine LeO.ite ?_ ?_
  | refine LeO.bind ?_ (fun _ => ?_)
theorem optimalaw3_FiniteKeeps.mono : ∀ a0 a1 a2 k, LeO (optimalaw3_FiniteKeeps.f k a0 a1 a2) (optimalaw3_FiniteKeeps.f (k + 1) a0 a1 a2) := by
 intro a0 a1 a2 k
 obtain ⟨ih0, ih1, ih2, ih3⟩ := optimalaw3_FiniteKeeps.mono_l k
 unfold optimalaw3_FiniteKeeps.f
 repeat' first
  | (with_reducible exact ih0 _ _ _ _)
  | (with_reducible exact ih1 _ _ _ _)
  | (with_reducible exact ih2 _ _ _ _ _ _ _)
  | (with_reducible exact ih3 _ _ _ _ _ _)
  | (with_reducible exact finite_Keeps.mono _ _ _ _)
  | (with_reducible exact finite_Valid.mono _ _ _)
  | (with_reducible exact optimalaw3_fewPuzzle.mono _ _ _)
  | (with_reducible exact optimaref3_Keeps.mono _ _ _ _)
  | (with_reducible exact optimaref3_PuzzleValid.mono _ _ _)
  | (with_reducible exact LeO.refl _)
  | (with_reducible exact LeO.none _)
  | (with_reducible refine LeO.ite ?_ ?_)
  | (with_reducible refine LeO.bind ?_ (fun _ => ?_))
  | exact ih0 _ _ _ _
  | exact ih1 _ _ _ _
  | exact ih2 _ _ _ _ _ _ _
  | exact ih3 _ _ _ _ _ _
  | exact finite_Keeps.mono _ _ _ _
  | exact finite_Valid.mono _ _ _
  | exact optimalaw3_fewPuzzle.mono _ _ _
  | exact optimaref3_Keeps.mono _ _ _ _
  | exact optimaref3_PuzzleValid.mono _ _ _
  | exact LeO.none _
  | refine LeO.ite ?_ ?_
  | refine LeO.bind ?_ (fun _ => ?_)
set_option maxHeartbeats 8000000 in
set_option maxRecDepth 100000 in
theorem optimalaw3_FiniteKeeps.calls [Sn : Sents] (k : Nat) (A0_0 : Option Addr) (c0_0 : Nat) (l0_0 : List (List Int)) (A0_1 : Option Addr) (c0_1 : Nat) (l0_1 : List (S44)) (A1 : Option Addr) (c1 : Nat) (l1 : List Int) (r : Bool) (w : World) (hr0_0 : Kd.C (Kd.slice 3 (Kd.int .i64)) w A0_0 l0_0.length l0_0) (hc0_0 : l0_0.length ≤ c0_0) (hr0_1 : Kd.C k44 w A0_1 l0_1.length l0_1) (hc0_1 : l0_1.length ≤ c0_1) (hr1 : Kd.C (Kd.int .i64) w A1 l1.length l1) (hc1 : l1.length ≤ c1) (h : optimalaw3_FiniteKeeps.f k l0_0 l0_1 l1 = some r) (hS : Sent w := by first | assumption | exact Sent.ofB hS HB | (refine Sent.below hS ?_; (repeat (first | exact HB.out | apply below_alloc | apply pw_below_drewN | apply below_drew | (refine below_set ?_ (Aside0.out (by assumption)))))) | (repeat (first | exact hS | apply Sent.alloc | apply Sent.drewN | apply Sent.drew))) :
 Calls Tryd.prog 3 #[.agg #[.slice A0_0 l0_0.length c0_0, .slice A0_1 l0_1.length c0_1], .slice A1 l1.length c1] w fun e w' => e = .returned (.bool r) ∧ Below w.heap.size w w' := by
 have hu25 := Tryd.underlying25
 have hu28 := Tryd.underlying28
 have HR0_0 := Aside0.mk hr0_0
 have HC0_0 := Aside0.mk hc0_0
 clear hr0_0 hc0_0
 have HR0_1 := Aside0.mk hr0_1
 have HC0_1 := Aside0.mk hc0_1
 clear hr0_1 hc0_1
 have HR1 := Aside0.mk hr1
 have HC1 := Aside0.mk hc1
 clear hr1 hc1
 have HB := Aside0.mk (Below.refl w.heap.size w)
 have H : ((optimalaw3_differ.f).bind fun bt367 => ((finite_Keeps.f k bt367.1 bt367.2 (([2, 1, 3] : List Int))).bind fun bt376 => (if bt376.2.isNone = true then (optimalaw3_FiniteKeeps.j0 k l1 (!bt376.1) l0_0 l0_1) else (optimalaw3_FiniteKeeps.j0 k l1 true l0_0 l0_1)))) = some r := h
 clear h
 replace H := Option.bind_eq_some_iff.mp H
 obtain ⟨⟨t367, t370⟩, A30, H⟩ := H
 replace H : ((finite_Keeps.f k t367 t370 (([2, 1, 3] : List Int))).bind fun bt376 => (if bt376.2.isNone = true then (optimalaw3_FiniteKeeps.j0 k l1 (!bt376.1) l0_0 l0_1) else (optimalaw3_FiniteKeeps.j0 k l1 true l0_0 l0_1))) = some r := H
 have A3 := Aside0.mk A30
 clear A30
 obtain ⟨y373, hy373⟩ : ∃ y_ : List Int, y_ = (([2, 1, 3] : List Int)) := ⟨_, rfl⟩
 replace H : ((finite_Keeps.f k t367 t370 y373).bind fun bt376 => (if bt376.2.isNone = true then (optimalaw3_FiniteKeeps.j0 k l1 (!bt376.1) l0_0 l0_1) else (optimalaw3_FiniteKeeps.j0 k l1 true l0_0 l0_1))) = some r := by first | (rw [hy373]; with_reducible exact H) | (have H2_ := (Option.bind_some _ _).symm.trans H; rw [hy373]; with_reducible exact H2_) | (have H2_ := (Option.bind_some _ _).symm.trans H; with_reducible exact H2_) | with_reducible exact H | (rw [hy373]; exact H) | exact H
 have Ny373 := Aside0.mk hy373
 clear hy373
 replace H := Option.bind_eq_some_iff.mp H
 obtain ⟨⟨t376, t377⟩, A40, H⟩ := H
 replace H : (if t377.isNone = true then (optimalaw3_FiniteKeeps.j0 k l1 (!t376) l0_0 l0_1) else (optimalaw3_FiniteKeeps.j0 k l1 true l0_0 l0_1)) = some r := H
 have A4 := Aside0.mk A40
 clear A40
 have HC5 := Aside0.mk H
 clear H
 go_enter Tryd.func3, Tryd.ntmps3
 go_upto_region 2 with (first | ((with_reducible refine gate_dst (N := 2) rfl ?_); (try (refine gate_guard (by rfl) ?_; dsimp only)); refine box_event ?hg (N := 2) ?hd (cs := #[.slice A0_0 l0_0.length c0_0, .slice A0_1 l0_1.length c0_1]) (t := 25) ?hr ?_; (case hd => rfl); (case hg => rfl); (case hr => first | (go_simp; done) | (go_simp; rfl)); intro gb366 hg w6 hbox hb; have n0_ := Aside0.mk (below_step (by repeat (first | (with_reducible first | exact HB.out | apply below_alloc | apply pw_below_drewN | apply below_drew1) | exact HB.out)) hb); have n1_ := Aside0.mk (hbox); have n2_ := Aside0.mk ((by rw [hg]; exact (below_size (by repeat (first | (with_reducible first | exact HB.out | apply below_alloc | apply pw_below_drewN | apply below_drew1) | exact HB.out))) : w.heap.size ≤ gb366)); have n3_ := Aside0.mk ((by rw [hg]; exact (below_size (by repeat (first | (with_reducible first | exact HB.out | apply below_alloc | apply pw_below_drewN | apply below_drew1) | exact HB.out))) : w.heap.size ≤ gb366)); clear HB; have HB := n0_; have BK366 := n1_; have GW366 := n2_; have GE366 := n3_; clear n0_ n1_ n2_ n3_; clear hb hbox hg) | ((with_reducible refine gate_callee (f := 6) rfl ?_); refine goesL_ (some 11) rfl rfl Tryd.func6 (by kernel_rfl) rfl #[] rfl (by (try simp only [List.map_toArray, List.map_cons, List.map_nil]); first | done | rfl | (simp only [List.length_drop, List.length_take]; rfl)) ?_; (with_reducible refine (optimalaw3_differ.calls  t367 t370 _ A3.out).mono ?_); rintro e w7 ⟨v368, v371, rfl, ho0, ho1, hb⟩; refine ⟨_, rfl, ?_⟩; have n0_ := Aside0.mk (Kd.N_lower (Kd.N_mono (ok' := fun k_ => some k_ ≠ (v371 : Value).ownBlock ∧ k_ ≠ gb366) ho0 (fun k_ hk_ => ⟨hk_.2, (Kd.freshB (g := gb366) (o := .cells #[.slice A0_0 l0_0.length c0_0, .slice A0_1 l0_1.length c0_1] 25 (0, 0)) (by (with_reducible repeat (first | refine blk_drewN ?_ _ | refine blk_drew ?_ | refine blk_alloc ?_ _)); exact BK366.out) k_ hk_.1)⟩)) (below_size (by repeat (first | (with_reducible first | exact HB.out | apply below_alloc | apply pw_below_drewN | apply below_drew1 | refine below_set ?_ GE366.out) | exact HB.out)))); have n1_ := Aside0.mk (Kd.N_lower (Kd.N_mono (ok' := fun k_ => some k_ ≠ (v368 : Value).ownBlock ∧ k_ ≠ gb366) ho1 (fun k_ hk_ => ⟨hk_.2, (Kd.freshB (g := gb366) (o := .cells #[.slice A0_0 l0_0.length c0_0, .slice A0_1 l0_1.length c0_1] 25 (0, 0)) (by (with_reducible repeat (first | refine blk_drewN ?_ _ | refine blk_drew ?_ | refine blk_alloc ?_ _)); exact BK366.out) k_ hk_.1)⟩)) (below_size (by repeat (first | (with_reducible first | exact HB.out | apply below_alloc | apply pw_below_drewN | apply below_drew1 | refine below_set ?_ GE366.out) | exact HB.out)))); have n2_ := Aside0.mk (blk_below (g := gb366) (o := .cells #[.slice A0_0 l0_0.length c0_0, .slice A0_1 l0_1.length c0_1] 25 (0, 0)) (by (with_reducible repeat (first | refine blk_drewN ?_ _ | refine blk_drew ?_ | refine blk_alloc ?_ _)); exact BK366.out) hb); have n3_ := Aside0.mk (below_step (by repeat (first | (with_reducible first | exact HB.out | apply below_alloc | apply pw_below_drewN | apply below_drew1 | refine below_set ?_ GE366.out) | exact HB.out)) hb); clear BK366; clear HB; have HO369 := n0_; have HO372 := n1_; have BK366 := n2_; have HB := n3_; clear n0_ n1_ n2_ n3_; (try clear hb); (try clear hb2); (try clear hk); (try clear hi); (try clear ho0); (try clear ho1)) | ((with_reducible refine gate_dst (N := 12) rfl ?_); (try (refine gate_guard (by rfl) ?_; dsimp only)); refine Kd.R_lit (Kd.int .i64) _ 3 ?hg (N := 12) ?hd (xs := ([2, 1, 3] : List Int)) (inner := [.int .i64 2, .int .i64 1, .int .i64 3]) (ok := fun _ => True) (okp := fun _ => True) ?hr ?hp (fun _ hk => hk) trivial (Below.refl _ _) (Nat.le_refl _) (by simp) ?_; (case hd => rfl); (case hg => rfl); (case hr => first | (go_simp; done) | (go_simp; rfl)); (case hp => exact (Reps.one (show Kd.M (Kd.int .i64) _ _ _ 2 [.int .i64 2] from rfl) (Reps.one (show Kd.M (Kd.int .i64) _ _ _ 1 [.int .i64 1] from rfl) (Reps.one (show Kd.M (Kd.int .i64) _ _ _ 3 [.int .i64 3] from rfl) (Reps.none _ _))))); intro v374 w8 ho9 hb hg_ hnew_; clear hg_ hnew_; (first | rw [← Ny373.out] at ho9 | (simp only [Int.reduceToNat] at ho9; rw [← Ny373.out] at ho9)); have n0_ := Aside0.mk (Kd.N_elder' (by (with_reducible repeat (first | apply Kd.N_alloc | apply Kd.N_drewN | apply Kd.N_drew)); exact HO369.out) (Kd.R_base ho9) hb); have n1_ := Aside0.mk (Kd.N_elder' (by (with_reducible repeat (first | apply Kd.N_alloc | apply Kd.N_drewN | apply Kd.N_drew)); exact HO372.out) (Kd.R_base ho9) hb); have n2_ := Aside0.mk (Kd.R_lower ho9 (below_size (by repeat (first | (with_reducible first | exact HB.out | apply below_alloc | apply pw_below_drewN | apply below_drew1 | refine below_set ?_ GE366.out) | exact HB.out)))); have n3_ := Aside0.mk (blk_below (g := gb366) (o := .cells #[.slice A0_0 l0_0.length c0_0, .slice A0_1 l0_1.length c0_1] 25 (0, 0)) (by (with_reducible repeat (first | refine blk_drewN ?_ _ | refine blk_drew ?_ | refine blk_alloc ?_ _)); exact BK366.out) hb); have n4_ := Aside0.mk (below_step (by repeat (first | (with_reducible first | exact HB.out | apply below_alloc | apply pw_below_drewN | apply below_drew1 | refine below_set ?_ GE366.out) | exact HB.out)) hb); clear HO369; clear HO372; clear BK366; clear HB; have HO369 := n0_; have HO372 := n1_; have HO375 := n2_; have BK366 := n3_; have HB := n4_; clear n0_ n1_ n2_ n3_ n4_; clear hb ho9; obtain ⟨Ao10, co10, eo10⟩ := Kd.N_slice HO369.out; subst eo10; obtain ⟨Ao11, co11, eo11⟩ := Kd.N_slice HO372.out; subst eo11; obtain ⟨Ao12, co12, eo12⟩ := Kd.R_slice HO375.out; subst eo12) | ((with_reducible refine gate_callee (f := 5) rfl ?_); refine goesL_ (some 13) rfl rfl Tryd.func5 (by kernel_rfl) rfl #[.agg #[.slice Ao10 t367.length co10, .slice Ao11 t370.length co11], .slice Ao12 y373.length co12] rfl (by (try simp only [List.map_toArray, List.map_cons, List.map_nil]); first | done | rfl | (simp only [List.length_drop, List.length_take]; rfl)) ?_; (with_reducible refine (finite_Keeps.calls k _ _ t367 _ _ t370 _ _ y373 t376 t377 _ ?side1 ?side2 ?side3 ?side4 ?side5 ?side6 A4.out).mono ?_); (case side1 => repeat (first | exact (Kd.N_reads' HO369.out).2.2 | (with_reducible refine Kd.C_alloc ?_ _) | (with_reducible refine Kd.C_drewN ?_ _) | (with_reducible refine Kd.C_drew ?_))); (case side2 => exact (Kd.N_reads' HO369.out).2.1); (case side3 => repeat (first | exact (Kd.N_reads' HO372.out).2.2 | (with_reducible refine Kd.C_alloc ?_ _) | (with_reducible refine Kd.C_drewN ?_ _) | (with_reducible refine Kd.C_drew ?_))); (case side4 => exact (Kd.N_reads' HO372.out).2.1); (case side5 => repeat (first | exact (Kd.R_reads' HO375.out).2.2 | (with_reducible refine Kd.C_alloc ?_ _) | (with_reducible refine Kd.C_drewN ?_ _) | (with_reducible refine Kd.C_drew ?_))); (case side6 => exact (Kd.R_reads' HO375.out).2.1); rintro e w13 ⟨rfl, hb⟩; refine ⟨_, rfl, ?_⟩; have n0_ := Aside0.mk (Kd.N_below (by (with_reducible repeat (first | apply Kd.N_alloc | apply Kd.N_drewN | apply Kd.N_drew)); exact HO369.out) hb); have n1_ := Aside0.mk (Kd.N_below (by (with_reducible repeat (first | apply Kd.N_alloc | apply Kd.N_drewN | apply Kd.N_drew)); exact HO372.out) hb); have n2_ := Aside0.mk (Kd.R_below (by (with_reducible repeat (first | apply Kd.R_alloc | apply Kd.R_drewN | apply Kd.R_drew)); exact HO375.out) hb); have n3_ := Aside0.mk (blk_below (g := gb366) (o := .cells #[.slice A0_0 l0_0.length c0_0, .slice A0_1 l0_1.length c0_1] 25 (0, 0)) (by (with_reducible repeat (first | refine blk_drewN ?_ _ | refine blk_drew ?_ | refine blk_alloc ?_ _)); exact BK366.out) hb); have n4_ := Aside0.mk (below_step (by repeat (first | (with_reducible first | exact HB.out | apply below_alloc | apply pw_below_drewN | apply below_drew1 | refine below_set ?_ GE366.out) | exact HB.out)) hb); clear HO369; clear HO372; clear HO375; clear BK366; clear HB; have HO369 := n0_; have HO372 := n1_; have HO375 := n2_; have BK366 := n3_; have HB := n4_; clear n0_ n1_ n2_ n3_ n4_; (try clear hb); (try clear hb2); (try clear hk); (try clear hi); (try simp only [errW_none, errW_some])))
 (try simp only [Act.put, List.setIfInBounds_toArray, List.set_cons_zero, List.set_cons_succ])
 go_cut [21] (fun v21 wc => ∃ (kq : Nat) (x21_4 : Bool), v21 = .bool x21_4 ∧ Aside0 (optimalaw3_FiniteKeeps.j0 kq l1 x21_4 l0_0 l0_1 = some r) ∧ Aside0 (kq ≤ k) ∧ Aside0 (wc.heap[gb366]? = some (.cells #[(.slice A0_0 l0_0.length c0_0), (.slice A0_1 l0_1.length c0_1)] 25 (0, 0))) ∧ Aside0 (Below w.heap.size w wc))
 case first =>
  have H := HC5.out
  clear HC5
  rcases t377 with _ | q378
  ·have H1 : (optimalaw3_FiniteKeeps.j0 k l1 (!t376) l0_0 l0_1) = some r := by rw [if_pos (show (none : Option Int).isNone = true by rfl)] at H; exact H
   clear H
   have H := H1
   clear H1
   try simp only [errW_none, errW_some]
   have H' := Aside0.mk H
   clear H
   (try clear hSr)
   (try have hSr := Sent.ofB hS HB)
   go_wp2
   go_meet
   case rel => exact ⟨_, (!t376), (by first | rfl | (simp; done) | (simp [*]; done)), H', ⟨by first | omega | exact Nat.le_refl _⟩, ⟨by (with_reducible repeat (first | refine blk_drewN ?_ _ | refine blk_drew ?_ | refine blk_alloc ?_ _)); exact BK366.out⟩, ⟨by repeat (first | (with_reducible first | exact HB.out | apply below_alloc | apply pw_below_drewN | apply below_drew1 | refine below_set ?_ GE366.out) | exact HB.out)⟩⟩
  have H1 : (optimalaw3_FiniteKeeps.j0 k l1 true l0_0 l0_1) = some r := by rw [if_neg (show ¬ (some q378).isNone = true by simp)] at H; exact H
  clear H
  have H := H1
  clear H1
  try simp only [errW_none, errW_some]
  have H' := Aside0.mk H
  clear H
  (try clear hSr)
  (try have hSr := Sent.ofB hS HB)
  go_wp2
  go_meet
  case rel => exact ⟨_, (true), (by first | rfl | (simp; done) | (simp [*]; done)), H', ⟨by first | omega | exact Nat.le_refl _⟩, ⟨by (with_reducible repeat (first | refine blk_drewN ?_ _ | refine blk_drew ?_ | refine blk_alloc ?_ _)); exact BK366.out⟩, ⟨by repeat (first | (with_reducible first | exact HB.out | apply below_alloc | apply pw_below_drewN | apply below_drew1 | refine below_set ?_ GE366.out) | exact HB.out)⟩⟩
 clear HC5
 try clear c1
 try clear p2
 try clear c3
 try clear q3
 try clear c5
 try clear c6
 try clear q378
 obtain ⟨kq, x21_4, rfl, HA, HJ4, BK366, HB⟩ := hcut
 rcases kq with _ | kj4
 ·exact absurd HA.out (by simp [optimalaw3_FiniteKeeps.j0])
 have H := HA.out
 clear HA
 simp only [optimalaw3_FiniteKeeps.j0] at H
 by_cases c14 : x21_4 = true
 ·subst c14
  have H1 : (some false) = some r := by rw [if_pos rfl] at H; exact H
  clear H
  have H := H1
  clear H1
  obtain rfl := Option.some.inj H
  (try clear hSr)
  (try have hSr := Sent.ofB hS HB)
  go_wp2
  go_ret
  exact ⟨by first | rfl | (simp [errW_none, errW_some] <;> rfl) | (simp [*, errW_none, errW_some] <;> rfl), by repeat (first | (with_reducible first | exact HB.out | apply below_alloc | apply pw_below_drewN | apply below_drew1 | refine below_set ?_ GE366.out) | exact HB.out)⟩
 replace c14 := Bool.eq_false_iff.mpr c14
 subst c14
 have H1 : ((optimalaw3_fewPuzzle.f kj4 l0_0 l0_1).bind fun t379 => (if t379 = true then (optimalaw3_FiniteKeeps.j1 kj4 l1 (decide ((l1.length : Int) > 20)) l0_0 l0_1) else (optimalaw3_FiniteKeeps.j1 kj4 l1 true l0_0 l0_1))) = some r := by rw [if_neg (show ¬ (false = true) by decide)] at H; exact H
 clear H
 have H := H1
 clear H1
 replace H := Option.bind_eq_some_iff.mp H
 obtain ⟨t379, A150, H⟩ := H
 replace H : (if t379 = true then (optimalaw3_FiniteKeeps.j1 kj4 l1 (decide ((l1.length : Int) > 20)) l0_0 l0_1) else (optimalaw3_FiniteKeeps.j1 kj4 l1 true l0_0 l0_1)) = some r := H
 have A15 := Aside0.mk A150
 clear A150
 have HC16 := Aside0.mk H
 clear H
 have hcz17_0 : wc.cell? ⟨gb366, 0, none⟩ = some (.slice A0_0 l0_0.length c0_0) := (blk_cell BK366.out 0).trans rfl
 have hcz17_1 : wc.cell? ⟨gb366, 1, none⟩ = some (.slice A0_1 l0_1.length c0_1) := (blk_cell BK366.out 1).trans rfl
 have hfz17_0 := blk_frozen BK366.out 0
 have hfz17_1 := blk_frozen BK366.out 1
 go_upto_region 5 with (first | ((with_reducible refine gate_callee (f := 7) rfl ?_); refine goesL_ (some 23) rfl rfl Tryd.func7 (by kernel_rfl) rfl #[.agg #[.slice A0_0 l0_0.length c0_0, .slice A0_1 l0_1.length c0_1]] rfl (by (try simp only [List.map_toArray, List.map_cons, List.map_nil]); first | done | rfl | (simp only [List.length_drop, List.length_take]; rfl)) ?_; (with_reducible refine (optimalaw3_fewPuzzle.calls kj4 _ _ l0_0 _ _ l0_1 t379 _ ?side1 ?side2 ?side3 ?side4 A15.out).mono ?_); (case side1 => repeat (first | exact (Kd.C_below HR0_0.out HB.out) | (with_reducible refine Kd.C_alloc ?_ _) | (with_reducible refine Kd.C_drewN ?_ _) | (with_reducible refine Kd.C_drew ?_))); (case side2 => exact HC0_0.out); (case side3 => repeat (first | exact (Kd.C_below HR0_1.out HB.out) | (with_reducible refine Kd.C_alloc ?_ _) | (with_reducible refine Kd.C_drewN ?_ _) | (with_reducible refine Kd.C_drew ?_))); (case side4 => exact HC0_1.out); rintro e w18 ⟨rfl, hb⟩; refine ⟨_, rfl, ?_⟩; have n0_ := Aside0.mk (blk_below (g := gb366) (o := .cells #[.slice A0_0 l0_0.length c0_0, .slice A0_1 l0_1.length c0_1] 25 (0, 0)) (by (with_reducible repeat (first | refine blk_drewN ?_ _ | refine blk_drew ?_ | refine blk_alloc ?_ _)); exact BK366.out) hb); have n1_ := Aside0.mk (below_step (by repeat (first | (with_reducible first | exact HB.out | apply below_alloc | apply pw_below_drewN | apply below_drew1 | refine below_set ?_ GE366.out) | exact HB.out)) hb); clear BK366; clear HB; have BK366 := n0_; have HB := n1_; clear n0_ n1_; (try clear hb); (try clear hb2); (try clear hk); (try clear hi)))
 (try simp only [Act.put, List.setIfInBounds_toArray, List.set_cons_zero, List.set_cons_succ])
 go_cut [30] (fun v30 wc => ∃ (kq : Nat) (x30_15 : Bool), v30 = .bool x30_15 ∧ Aside0 (optimalaw3_FiniteKeeps.j1 kq l1 x30_15 l0_0 l0_1 = some r) ∧ Aside0 (kq ≤ kj4) ∧ Aside0 (wc.heap[gb366]? = some (.cells #[(.slice A0_0 l0_0.length c0_0), (.slice A0_1 l0_1.length c0_1)] 25 (0, 0))) ∧ Aside0 (Below w.heap.size w wc))
 case first =>
  have H := HC16.out
  clear HC16
  by_cases c19 : t379 = true
  ·subst c19
   have H1 : (optimalaw3_FiniteKeeps.j1 kj4 l1 (decide ((l1.length : Int) > 20)) l0_0 l0_1) = some r := by rw [if_pos rfl] at H; exact H
   clear H
   have H := H1
   clear H1
   have H' := Aside0.mk H
   clear H
   (try clear hSr)
   (try have hSr := Sent.ofB hS HB)
   go_wp2
   go_meet
   case rel => exact ⟨_, (decide ((l1.length : Int) > 20)), (by first | rfl | (simp; done) | (simp [*]; done)), H', ⟨by have := HJ4.out; first | omega | exact Nat.le_refl _⟩, ⟨by (with_reducible repeat (first | refine blk_drewN ?_ _ | refine blk_drew ?_ | refine blk_alloc ?_ _)); exact BK366.out⟩, ⟨by repeat (first | (with_reducible first | exact HB.out | apply below_alloc | apply pw_below_drewN | apply below_drew1 | refine below_set ?_ GE366.out) | exact HB.out)⟩⟩
  replace c19 := Bool.eq_false_iff.mpr c19
  subst c19
  have H1 : (optimalaw3_FiniteKeeps.j1 kj4 l1 true l0_0 l0_1) = some r := by rw [if_neg (show ¬ (false = true) by decide)] at H; exact H
  clear H
  have H := H1
  clear H1
  have H' := Aside0.mk H
  clear H
  (try clear hSr)
  (try have hSr := Sent.ofB hS HB)
  go_wp2
  go_meet
  case rel => exact ⟨_, (true), (by first | rfl | (simp; done) | (simp [*]; done)), H', ⟨by have := HJ4.out; first | omega | exact Nat.le_refl _⟩, ⟨by (with_reducible repeat (first | refine blk_drewN ?_ _ | refine blk_drew ?_ | refine blk_alloc ?_ _)); exact BK366.out⟩, ⟨by repeat (first | (with_reducible first | exact HB.out | apply below_alloc | apply pw_below_drewN | apply below_drew1 | refine below_set ?_ GE366.out) | exact HB.out)⟩⟩
 clear HC16
 try clear c1
 try clear p2
 try clear c3
 try clear q3
 try clear c5
 try clear c6
 try clear c7
 try clear c14
 try clear c19
 try clear hcz17_0
 try clear hcz17_1
 try clear hfz17_0
 try clear hfz17_1
 try clear p2
 try clear q3
 try clear q378
 obtain ⟨kq, x30_15, rfl, HA, HJ15, BK366, HB⟩ := hcut
 rcases kq with _ | kj15
 ·exact absurd HA.out (by simp [optimalaw3_FiniteKeeps.j1])
 have H := HA.out
 clear HA
 simp only [optimalaw3_FiniteKeeps.j1] at H
 by_cases c20 : x30_15 = true
 ·subst c20
  have H1 : (some true) = some r := by rw [if_pos rfl] at H; exact H
  clear H
  have H := H1
  clear H1
  obtain rfl := Option.some.inj H
  (try clear hSr)
  (try have hSr := Sent.ofB hS HB)
  go_wp2
  go_ret
  exact ⟨by first | rfl | (simp [errW_none, errW_some] <;> rfl) | (simp [*, errW_none, errW_some] <;> rfl), by repeat (first | (with_reducible first | exact HB.out | apply below_alloc | apply pw_below_drewN | apply below_drew1 | refine below_set ?_ GE366.out) | exact HB.out)⟩
 replace c20 := Bool.eq_false_iff.mpr c20
 subst c20
 have H1 : ((finite_Keeps.f kj15 l0_0 l0_1 l1).bind fun bt380 => ((optimaref3_PuzzleValid.f kj15 l0_0 l0_1).bind fun t382 => ((finite_Valid.f kj15 l0_0 l0_1).bind fun t383 => ((optimalaw3_coded.f t383 t382).bind fun t384 => (if t384 = true then (if t382 = 0 then (optimalaw3_FiniteKeeps.j2 kj15 l1 bt380.1 bt380.2 t382 ((l1.length : Int) != (l0_0.length : Int)) l0_0 l0_1) else (optimalaw3_FiniteKeeps.j2 kj15 l1 bt380.1 bt380.2 t382 false l0_0 l0_1)) else (some false)))))) = some r := by rw [if_neg (show ¬ (false = true) by decide)] at H; exact H
 clear H
 have H := H1
 clear H1
 replace H := Option.bind_eq_some_iff.mp H
 obtain ⟨⟨t380, t381⟩, A210, H⟩ := H
 replace H : ((optimaref3_PuzzleValid.f kj15 l0_0 l0_1).bind fun t382 => ((finite_Valid.f kj15 l0_0 l0_1).bind fun t383 => ((optimalaw3_coded.f t383 t382).bind fun t384 => (if t384 = true then (if t382 = 0 then (optimalaw3_FiniteKeeps.j2 kj15 l1 t380 t381 t382 ((l1.length : Int) != (l0_0.length : Int)) l0_0 l0_1) else (optimalaw3_FiniteKeeps.j2 kj15 l1 t380 t381 t382 false l0_0 l0_1)) else (some false))))) = some r := H
 have A21 := Aside0.mk A210
 clear A210
 replace H := Option.bind_eq_some_iff.mp H
 obtain ⟨t382, A220, H⟩ := H
 replace H : ((finite_Valid.f kj15 l0_0 l0_1).bind fun t383 => ((optimalaw3_coded.f t383 t382).bind fun t384 => (if t384 = true then (if t382 = 0 then (optimalaw3_FiniteKeeps.j2 kj15 l1 t380 t381 t382 ((l1.length : Int) != (l0_0.length : Int)) l0_0 l0_1) else (optimalaw3_FiniteKeeps.j2 kj15 l1 t380 t381 t382 false l0_0 l0_1)) else (some false)))) = some r := H
 have A22 := Aside0.mk A220
 clear A220
 replace H := Option.bind_eq_some_iff.mp H
 obtain ⟨t383, A230, H⟩ := H
 replace H : ((optimalaw3_coded.f t383 t382).bind fun t384 => (if t384 = true then (if t382 = 0 then (optimalaw3_FiniteKeeps.j2 kj15 l1 t380 t381 t382 ((l1.length : Int) != (l0_0.length : Int)) l0_0 l0_1) else (optimalaw3_FiniteKeeps.j2 kj15 l1 t380 t381 t382 false l0_0 l0_1)) else (some false))) = some r := H
 have A23 := Aside0.mk A230
 clear A230
 replace H := Option.bind_eq_some_iff.mp H
 obtain ⟨t384, A240, H⟩ := H
 replace H : (if t384 = true then (if t382 = 0 then (optimalaw3_FiniteKeeps.j2 kj15 l1 t380 t381 t382 ((l1.length : Int) != (l0_0.length : Int)) l0_0 l0_1) else (optimalaw3_FiniteKeeps.j2 kj15 l1 t380 t381 t382 false l0_0 l0_1)) else (some false)) = some r := H
 have A24 := Aside0.mk A240
 clear A240
 by_cases c25 : t384 = true
 ·subst c25
  have H1 : (if t382 = 0 then (optimalaw3_FiniteKeeps.j2 kj15 l1 t380 t381 t382 ((l1.length : Int) != (l0_0.length : Int)) l0_0 l0_1) else (optimalaw3_FiniteKeeps.j2 kj15 l1 t380 t381 t382 false l0_0 l0_1)) = some r := by rw [if_pos rfl] at H; exact H
  clear H
  have H := H1
  clear H1
  have HC26 := Aside0.mk H
  clear H
  have hcz27_0 : wc.cell? ⟨gb366, 0, none⟩ = some (.slice A0_0 l0_0.length c0_0) := (blk_cell BK366.out 0).trans rfl
  have hcz27_1 : wc.cell? ⟨gb366, 1, none⟩ = some (.slice A0_1 l0_1.length c0_1) := (blk_cell BK366.out 1).trans rfl
  have hfz27_0 := blk_frozen BK366.out 0
  have hfz27_1 := blk_frozen BK366.out 1
  go_upto_region 12 with (first | ((with_reducible refine gate_callee (f := 5) rfl ?_); refine goesL_ (some 34) rfl rfl Tryd.func5 (by kernel_rfl) rfl #[.agg #[.slice A0_0 l0_0.length c0_0, .slice A0_1 l0_1.length c0_1], .slice A1 l1.length c1] rfl (by (try simp only [List.map_toArray, List.map_cons, List.map_nil]); first | done | rfl | (simp only [List.length_drop, List.length_take]; rfl)) ?_; (with_reducible refine (finite_Keeps.calls kj15 _ _ l0_0 _ _ l0_1 _ _ l1 t380 t381 _ ?side1 ?side2 ?side3 ?side4 ?side5 ?side6 A21.out).mono ?_); (case side1 => repeat (first | exact (Kd.C_below HR0_0.out HB.out) | (with_reducible refine Kd.C_alloc ?_ _) | (with_reducible refine Kd.C_drewN ?_ _) | (with_reducible refine Kd.C_drew ?_))); (case side2 => exact HC0_0.out); (case side3 => repeat (first | exact (Kd.C_below HR0_1.out HB.out) | (with_reducible refine Kd.C_alloc ?_ _) | (with_reducible refine Kd.C_drewN ?_ _) | (with_reducible refine Kd.C_drew ?_))); (case side4 => exact HC0_1.out); (case side5 => repeat (first | exact (Kd.C_below HR1.out HB.out) | (with_reducible refine Kd.C_alloc ?_ _) | (with_reducible refine Kd.C_drewN ?_ _) | (with_reducible refine Kd.C_drew ?_))); (case side6 => exact HC1.out); rintro e w28 ⟨rfl, hb⟩; refine ⟨_, rfl, ?_⟩; have n0_ := Aside0.mk (blk_below (g := gb366) (o := .cells #[.slice A0_0 l0_0.length c0_0, .slice A0_1 l0_1.length c0_1] 25 (0, 0)) (by (with_reducible repeat (first | refine blk_drewN ?_ _ | refine blk_drew ?_ | refine blk_alloc ?_ _)); exact BK366.out) hb); have n1_ := Aside0.mk (below_step (by repeat (first | (with_reducible first | exact HB.out | apply below_alloc | apply pw_below_drewN | apply below_drew1 | refine below_set ?_ GE366.out) | exact HB.out)) hb); clear BK366; clear HB; have BK366 := n0_; have HB := n1_; clear n0_ n1_; (try clear hb); (try clear hb2); (try clear hk); (try clear hi); (try simp only [errW_none, errW_some]); have hcz29_0 : w28.cell? ⟨gb366, 0, none⟩ = some (.slice A0_0 l0_0.length c0_0) := (blk_cell BK366.out 0).trans rfl; have hcz29_1 : w28.cell? ⟨gb366, 1, none⟩ = some (.slice A0_1 l0_1.length c0_1) := (blk_cell BK366.out 1).trans rfl; have hfz29_0 := blk_frozen BK366.out 0; have hfz29_1 := blk_frozen BK366.out 1) | ((with_reducible refine gate_callee (f := 8) rfl ?_); refine goesL_ (some 38) rfl rfl Tryd.func8 (by kernel_rfl) rfl #[.agg #[.slice A0_0 l0_0.length c0_0, .slice A0_1 l0_1.length c0_1]] rfl (by (try simp only [List.map_toArray, List.map_cons, List.map_nil]); first | done | rfl | (simp only [List.length_drop, List.length_take]; rfl)) ?_; (with_reducible refine (optimaref3_PuzzleValid.calls kj15 _ _ l0_0 _ _ l0_1 t382 _ ?side1 ?side2 ?side3 ?side4 A22.out).mono ?_); (case side1 => repeat (first | exact (Kd.C_below HR0_0.out HB.out) | (with_reducible refine Kd.C_alloc ?_ _) | (with_reducible refine Kd.C_drewN ?_ _) | (with_reducible refine Kd.C_drew ?_))); (case side2 => exact HC0_0.out); (case side3 => repeat (first | exact (Kd.C_below HR0_1.out HB.out) | (with_reducible refine Kd.C_alloc ?_ _) | (with_reducible refine Kd.C_drewN ?_ _) | (with_reducible refine Kd.C_drew ?_))); (case side4 => exact HC0_1.out); rintro e w30 ⟨rfl, hb⟩; refine ⟨_, rfl, ?_⟩; have n0_ := Aside0.mk (blk_below (g := gb366) (o := .cells #[.slice A0_0 l0_0.length c0_0, .slice A0_1 l0_1.length c0_1] 25 (0, 0)) (by (with_reducible repeat (first | refine blk_drewN ?_ _ | refine blk_drew ?_ | refine blk_alloc ?_ _)); exact BK366.out) hb); have n1_ := Aside0.mk (below_step (by repeat (first | (with_reducible first | exact HB.out | apply below_alloc | apply pw_below_drewN | apply below_drew1 | refine below_set ?_ GE366.out) | exact HB.out)) hb); clear BK366; clear HB; have BK366 := n0_; have HB := n1_; clear n0_ n1_; (try clear hb); (try clear hb2); (try clear hk); (try clear hi); have hcz31_0 : w30.cell? ⟨gb366, 0, none⟩ = some (.slice A0_0 l0_0.length c0_0) := (blk_cell BK366.out 0).trans rfl; have hcz31_1 : w30.cell? ⟨gb366, 1, none⟩ = some (.slice A0_1 l0_1.length c0_1) := (blk_cell BK366.out 1).trans rfl; have hfz31_0 := blk_frozen BK366.out 0; have hfz31_1 := blk_frozen BK366.out 1) | ((with_reducible refine gate_callee (f := 9) rfl ?_); refine goesL_ (some 40) rfl rfl Tryd.func9 (by kernel_rfl) rfl #[.agg #[.slice A0_0 l0_0.length c0_0, .slice A0_1 l0_1.length c0_1]] rfl (by (try simp only [List.map_toArray, List.map_cons, List.map_nil]); first | done | rfl | (simp only [List.length_drop, List.length_take]; rfl)) ?_; (with_reducible refine (finite_Valid.calls kj15 _ _ l0_0 _ _ l0_1 t383 _ ?side1 ?side2 ?side3 ?side4 A23.out).mono ?_); (case side1 => repeat (first | exact (Kd.C_below HR0_0.out HB.out) | (with_reducible refine Kd.C_alloc ?_ _) | (with_reducible refine Kd.C_drewN ?_ _) | (with_reducible refine Kd.C_drew ?_))); (case side2 => exact HC0_0.out); (case side3 => repeat (first | exact (Kd.C_below HR0_1.out HB.out) | (with_reducible refine Kd.C_alloc ?_ _) | (with_reducible refine Kd.C_drewN ?_ _) | (with_reducible refine Kd.C_drew ?_))); (case side4 => exact HC0_1.out); rintro e w32 ⟨rfl, hb⟩; refine ⟨_, rfl, ?_⟩; have n0_ := Aside0.mk (blk_below (g := gb366) (o := .cells #[.slice A0_0 l0_0.length c0_0, .slice A0_1 l0_1.length c0_1] 25 (0, 0)) (by (with_reducible repeat (first | refine blk_drewN ?_ _ | refine blk_drew ?_ | refine blk_alloc ?_ _)); exact BK366.out) hb); have n1_ := Aside0.mk (below_step (by repeat (first | (with_reducible first | exact HB.out | apply below_alloc | apply pw_below_drewN | apply below_drew1 | refine below_set ?_ GE366.out) | exact HB.out)) hb); clear BK366; clear HB; have BK366 := n0_; have HB := n1_; clear n0_ n1_; (try clear hb); (try clear hb2); (try clear hk); (try clear hi); (try simp only [errW_none, errW_some]); have CA24 := fun (W : World) (hSW_ : Sent W) => optimalaw3_coded.calls t383 t382 true W A24.out hSW_; try simp only [errW_none, errW_some] at CA24) | (go_at_call 10; (with_reducible refine (CA24 _ (by first | assumption | exact Sent.ofB hS HB | (refine Sent.below hS ?_; (repeat (first | exact HB.out | apply below_alloc | apply pw_below_drewN | apply below_drew | (refine below_set ?_ (Aside0.out (by assumption)))))) | (repeat (first | exact hS | apply Sent.alloc | apply Sent.drewN | apply Sent.drew)))).mono ?_); rintro e w33 ⟨rfl, hb⟩; have n0_ := Aside0.mk (blk_below (g := gb366) (o := .cells #[.slice A0_0 l0_0.length c0_0, .slice A0_1 l0_1.length c0_1] 25 (0, 0)) (by (with_reducible repeat (first | refine blk_drewN ?_ _ | refine blk_drew ?_ | refine blk_alloc ?_ _)); exact BK366.out) hb); have n1_ := Aside0.mk (below_step (by repeat (first | (with_reducible first | exact HB.out | apply below_alloc | apply pw_below_drewN | apply below_drew1 | refine below_set ?_ GE366.out) | exact HB.out)) hb); clear BK366; clear HB; have BK366 := n0_; have HB := n1_; clear n0_ n1_; (try clear hb); (try clear hb2); (try clear hk); (try clear hi)))
  (try simp only [Act.put, List.setIfInBounds_toArray, List.set_cons_zero, List.set_cons_succ])
  go_cut [54] (fun v54 wc => ∃ (kq : Nat) (x54_25 : Bool), v54 = .bool x54_25 ∧ Aside0 (optimalaw3_FiniteKeeps.j2 kq l1 t380 t381 t382 x54_25 l0_0 l0_1 = some r) ∧ Aside0 (kq ≤ kj15) ∧ Aside0 (wc.heap[gb366]? = some (.cells #[(.slice A0_0 l0_0.length c0_0), (.slice A0_1 l0_1.length c0_1)] 25 (0, 0))) ∧ Aside0 (Below w.heap.size w wc))
  case first =>
   have H := HC26.out
   clear HC26
   by_cases c34 : t382 = 0
   ·rw [if_pos c34] at H
    have c34b0 : (t382 == 0) = true := beq_iff_eq.mpr c34
    have c34b1 : (t382 != 0) = false := bne_eq_false_iff_eq.mpr c34
    clear c34
    (first | rw [c34b0] | (simp only [i64_w, i32_w]; rw [c34b0]) | skip)
    have H' := Aside0.mk H
    clear H
    have hcz35_0 : w33.cell? ⟨gb366, 0, none⟩ = some (.slice A0_0 l0_0.length c0_0) := (blk_cell BK366.out 0).trans rfl
    have hcz35_1 : w33.cell? ⟨gb366, 1, none⟩ = some (.slice A0_1 l0_1.length c0_1) := (blk_cell BK366.out 1).trans rfl
    have hfz35_0 := blk_frozen BK366.out 0
    have hfz35_1 := blk_frozen BK366.out 1
    (try clear hSr)
    (try have hSr := Sent.ofB hS HB)
    go_wp2
    go_meet
    case rel => exact ⟨_, (((l1.length : Int) != (l0_0.length : Int))), (by first | rfl | (simp; done) | (simp [*]; done)), H', ⟨by have := HJ4.out; have := HJ15.out; first | omega | exact Nat.le_refl _⟩, ⟨by (with_reducible repeat (first | refine blk_drewN ?_ _ | refine blk_drew ?_ | refine blk_alloc ?_ _)); exact BK366.out⟩, ⟨by repeat (first | (with_reducible first | exact HB.out | apply below_alloc | apply pw_below_drewN | apply below_drew1 | refine below_set ?_ GE366.out) | exact HB.out)⟩⟩
   rw [if_neg c34] at H
   have c34b0 : (t382 == 0) = false := beq_eq_false_iff_ne.mpr c34
   have c34b1 : (t382 != 0) = true := bne_iff_ne.mpr c34
   (first | rw [c34b0] | (simp only [i64_w, i32_w]; rw [c34b0]) | skip)
   have H' := Aside0.mk H
   clear H
   (try clear hSr)
   (try have hSr := Sent.ofB hS HB)
   go_wp2
   go_meet
   case rel => exact ⟨_, (false), (by first | rfl | (simp; done) | (simp [*]; done)), H', ⟨by have := HJ4.out; have := HJ15.out; first | omega | exact Nat.le_refl _⟩, ⟨by (with_reducible repeat (first | refine blk_drewN ?_ _ | refine blk_drew ?_ | refine blk_alloc ?_ _)); exact BK366.out⟩, ⟨by repeat (first | (with_reducible first | exact HB.out | apply below_alloc | apply pw_below_drewN | apply below_drew1 | refine below_set ?_ GE366.out) | exact HB.out)⟩⟩
  clear HC26
  try clear c1
  try clear c2
  try clear p2
  try clear c3
  try clear q3
  try clear c5
  try clear c6
  try clear c7
  try clear c8
  try clear c9
  try clear c14
  try clear c19
  try clear c20
  try clear c25
  try clear c34
  try clear c34b0
  try clear c34b1
  try clear hcz17_0
  try clear hcz17_1
  try clear hcz27_0
  try clear hcz27_1
  try clear hcz29_0
  try clear hcz29_1
  try clear hcz31_0
  try clear hcz31_1
  try clear hcz35_0
  try clear hcz35_1
  try clear hfz17_0
  try clear hfz17_1
  try clear hfz27_0
  try clear hfz27_1
  try clear hfz29_0
  try clear hfz29_1
  try clear hfz31_0
  try clear hfz31_1
  try clear hfz35_0
  try clear hfz35_1
  try clear p2
  try clear q3
  try clear q378
  obtain ⟨kq, x54_25, rfl, HA, HJ25, BK366, HB⟩ := hcut
  rcases kq with _ | kj25
  ·exact absurd HA.out (by simp [optimalaw3_FiniteKeeps.j2])
  have H := HA.out
  clear HA
  simp only [optimalaw3_FiniteKeeps.j2] at H
  have HC36 := Aside0.mk H
  clear H
  go_upto_if 54 with (fail)
  go_cut [8] (fun v8 wc => ∃ (kq : Nat) (x8_35 : Int), v8 = .int .i64 x8_35 ∧ Aside0 (optimalaw3_FiniteKeeps.j3 kq l1 t380 t381 x8_35 l0_0 l0_1 = some r) ∧ Aside0 (kq ≤ kj25) ∧ Aside0 (wc.heap[gb366]? = some (.cells #[(.slice A0_0 l0_0.length c0_0), (.slice A0_1 l0_1.length c0_1)] 25 (0, 0))) ∧ Aside0 (Below w.heap.size w wc))
  case first =>
   have H := HC36.out
   clear HC36
   by_cases c37 : x54_25 = true
   ·subst c37
    have H1 : (optimalaw3_FiniteKeeps.j3 kj25 l1 t380 t381 4 l0_0 l0_1) = some r := by rw [if_pos rfl] at H; exact H
    clear H
    have H := H1
    clear H1
    have H' := Aside0.mk H
    clear H
    (try clear hSr)
    (try have hSr := Sent.ofB hS HB)
    go_wp2
    go_meet
    case rel => exact ⟨_, (4), (by first | rfl | (simp; done) | (simp [*]; done)), H', ⟨by have := HJ4.out; have := HJ15.out; have := HJ25.out; first | omega | exact Nat.le_refl _⟩, ⟨by (with_reducible repeat (first | refine blk_drewN ?_ _ | refine blk_drew ?_ | refine blk_alloc ?_ _)); exact BK366.out⟩, ⟨by repeat (first | (with_reducible first | exact HB.out | apply below_alloc | apply pw_below_drewN | apply below_drew1 | refine below_set ?_ GE366.out) | exact HB.out)⟩⟩
   replace c37 := Bool.eq_false_iff.mpr c37
   subst c37
   have H1 : (optimalaw3_FiniteKeeps.j3 kj25 l1 t380 t381 t382 l0_0 l0_1) = some r := by rw [if_neg (show ¬ (false = true) by decide)] at H; exact H
   clear H
   have H := H1
   clear H1
   have H' := Aside0.mk H
   clear H
   (try clear hSr)
   (try have hSr := Sent.ofB hS HB)
   go_wp2
   go_meet
   case rel => exact ⟨_, (t382), (by first | rfl | (simp; done) | (simp [*]; done)), H', ⟨by have := HJ4.out; have := HJ15.out; have := HJ25.out; first | omega | exact Nat.le_refl _⟩, ⟨by (with_reducible repeat (first | refine blk_drewN ?_ _ | refine blk_drew ?_ | refine blk_alloc ?_ _)); exact BK366.out⟩, ⟨by repeat (first | (with_reducible first | exact HB.out | apply below_alloc | apply pw_below_drewN | apply below_drew1 | refine below_set ?_ GE366.out) | exact HB.out)⟩⟩
  clear HC36
  try clear c1
  try clear c2
  try clear p2
  try clear c3
  try clear q3
  try clear c5
  try clear c6
  try clear c7
  try clear c8
  try clear c9
  try clear c14
  try clear c19
  try clear c20
  try clear c25
  try clear c34
  try clear c34b0
  try clear c34b1
  try clear c37
  try clear q37
  try clear hcz17_0
  try clear hcz17_1
  try clear hcz27_0
  try clear hcz27_1
  try clear hcz29_0
  try clear hcz29_1
  try clear hcz31_0
  try clear hcz31_1
  try clear hcz35_0
  try clear hcz35_1
  try clear hfz17_0
  try clear hfz17_1
  try clear hfz27_0
  try clear hfz27_1
  try clear hfz29_0
  try clear hfz29_1
  try clear hfz31_0
  try clear hfz31_1
  try clear hfz35_0
  try clear hfz35_1
  try clear p2
  try clear q3
  try clear q378
  obtain ⟨kq, x8_35, rfl, HA, HJ35, BK366, HB⟩ := hcut
  rcases kq with _ | kj35
  ·exact absurd HA.out (by simp [optimalaw3_FiniteKeeps.j3])
  have H := HA.out
  clear HA
  simp only [optimalaw3_FiniteKeeps.j3] at H
  by_cases c38 : x8_35 > 0
  ·rw [if_pos c38] at H
   have c38b0 : decide (0 < x8_35) = true := decide_eq_true c38
   clear c38
   replace H := Option.bind_eq_some_iff.mp H
   obtain ⟨t385, A390, H⟩ := H
   replace H : (if t385 = true then (some (!t380)) else (some false)) = some r := H
   have A39 := Aside0.mk A390
   clear A390
   by_cases c40 : t385 = true
   ·subst c40
    have H1 : (some (!t380)) = some r := by rw [if_pos rfl] at H; exact H
    clear H
    have H := H1
    clear H1
    obtain rfl := Option.some.inj H
    have CA39 := fun (W : World) (hSW_ : Sent W) => optimalaw3_coded.calls t381 x8_35 true W A39.out hSW_
    try simp only [errW_none, errW_some] at CA39
    (try clear hSr)
    (try have hSr := Sent.ofB hS HB)
    go_wp2_with (first | (go_at_call 10; (with_reducible refine (CA39 _ (by first | assumption | exact Sent.ofB hS HB | (refine Sent.below hS ?_; (repeat (first | exact HB.out | apply below_alloc | apply pw_below_drewN | apply below_drew | (refine below_set ?_ (Aside0.out (by assumption)))))) | (repeat (first | exact hS | apply Sent.alloc | apply Sent.drewN | apply Sent.drew)))).mono ?_); rintro e w41 ⟨rfl, hb⟩; have n0_ := Aside0.mk (blk_below (g := gb366) (o := .cells #[.slice A0_0 l0_0.length c0_0, .slice A0_1 l0_1.length c0_1] 25 (0, 0)) (by (with_reducible repeat (first | refine blk_drewN ?_ _ | refine blk_drew ?_ | refine blk_alloc ?_ _)); exact BK366.out) hb); have n1_ := Aside0.mk (below_step (by repeat (first | (with_reducible first | exact HB.out | apply below_alloc | apply pw_below_drewN | apply below_drew1 | refine below_set ?_ GE366.out) | exact HB.out)) hb); clear BK366; clear HB; have BK366 := n0_; have HB := n1_; clear n0_ n1_; (try clear hb); (try clear hb2); (try clear hk); (try clear hi)))
    go_ret
    exact ⟨by first | rfl | (simp [errW_none, errW_some] <;> rfl) | (simp [*, errW_none, errW_some] <;> rfl), by repeat (first | (with_reducible first | exact HB.out | apply below_alloc | apply pw_below_drewN | apply below_drew1 | refine below_set ?_ GE366.out) | exact HB.out)⟩
   replace c40 := Bool.eq_false_iff.mpr c40
   subst c40
   have H1 : (some false) = some r := by rw [if_neg (show ¬ (false = true) by decide)] at H; exact H
   clear H
   have H := H1
   clear H1
   obtain rfl := Option.some.inj H
   have CA39 := fun (W : World) (hSW_ : Sent W) => optimalaw3_coded.calls t381 x8_35 false W A39.out hSW_
   try simp only [errW_none, errW_some] at CA39
   (try clear hSr)
   (try have hSr := Sent.ofB hS HB)
   go_wp2_with (first | (go_at_call 10; (with_reducible refine (CA39 _ (by first | assumption | exact Sent.ofB hS HB | (refine Sent.below hS ?_; (repeat (first | exact HB.out | apply below_alloc | apply pw_below_drewN | apply below_drew | (refine below_set ?_ (Aside0.out (by assumption)))))) | (repeat (first | exact hS | apply Sent.alloc | apply Sent.drewN | apply Sent.drew)))).mono ?_); rintro e w42 ⟨rfl, hb⟩; have n0_ := Aside0.mk (blk_below (g := gb366) (o := .cells #[.slice A0_0 l0_0.length c0_0, .slice A0_1 l0_1.length c0_1] 25 (0, 0)) (by (with_reducible repeat (first | refine blk_drewN ?_ _ | refine blk_drew ?_ | refine blk_alloc ?_ _)); exact BK366.out) hb); have n1_ := Aside0.mk (below_step (by repeat (first | (with_reducible first | exact HB.out | apply below_alloc | apply pw_below_drewN | apply below_drew1 | refine below_set ?_ GE366.out) | exact HB.out)) hb); clear BK366; clear HB; have BK366 := n0_; have HB := n1_; clear n0_ n1_; (try clear hb); (try clear hb2); (try clear hk); (try clear hi)))
   go_ret
   exact ⟨by first | rfl | (simp [errW_none, errW_some] <;> rfl) | (simp [*, errW_none, errW_some] <;> rfl), by repeat (first | (with_reducible first | exact HB.out | apply below_alloc | apply pw_below_drewN | apply below_drew1 | refine below_set ?_ GE366.out) | exact HB.out)⟩
  rw [if_neg c38] at H
  have c38b0 : decide (0 < x8_35) = false := decide_eq_false c38
  clear c38
  rcases t381 with _ | q386
  ·have H1 : ((optimaref3_Keeps.f kj35 l0_0 l0_1 l1).bind fun t387 => (some (t380 == t387))) = some r := by rw [if_pos (show (none : Option Int).isNone = true by rfl)] at H; exact H
   clear H
   have H := H1
   clear H1
   try simp only [errW_none, errW_some]
   replace H := Option.bind_eq_some_iff.mp H
   obtain ⟨t387, A430, H⟩ := H
   replace H : (some (t380 == t387)) = some r := H
   have A43 := Aside0.mk A430
   clear A430
   obtain rfl := Option.some.inj H
   have hcz44_0 : wc.cell? ⟨gb366, 0, none⟩ = some (.slice A0_0 l0_0.length c0_0) := (blk_cell BK366.out 0).trans rfl
   have hcz44_1 : wc.cell? ⟨gb366, 1, none⟩ = some (.slice A0_1 l0_1.length c0_1) := (blk_cell BK366.out 1).trans rfl
   have hfz44_0 := blk_frozen BK366.out 0
   have hfz44_1 := blk_frozen BK366.out 1
   (try clear hSr)
   (try have hSr := Sent.ofB hS HB)
   go_wp2_with (first | (go_at_call 11; (with_reducible refine (optimaref3_Keeps.calls kj35 _ _ l0_0 _ _ l0_1 _ _ l1 t387 _ ?side1 ?side2 ?side3 ?side4 ?side5 ?side6 A43.out).mono ?_); (case side1 => repeat (first | exact (Kd.C_below HR0_0.out HB.out) | (with_reducible refine Kd.C_alloc ?_ _) | (with_reducible refine Kd.C_drewN ?_ _) | (with_reducible refine Kd.C_drew ?_))); (case side2 => exact HC0_0.out); (case side3 => repeat (first | exact (Kd.C_below HR0_1.out HB.out) | (with_reducible refine Kd.C_alloc ?_ _) | (with_reducible refine Kd.C_drewN ?_ _) | (with_reducible refine Kd.C_drew ?_))); (case side4 => exact HC0_1.out); (case side5 => repeat (first | exact (Kd.C_below HR1.out HB.out) | (with_reducible refine Kd.C_alloc ?_ _) | (with_reducible refine Kd.C_drewN ?_ _) | (with_reducible refine Kd.C_drew ?_))); (case side6 => exact HC1.out); rintro e w45 ⟨rfl, hb⟩; have n0_ := Aside0.mk (blk_below (g := gb366) (o := .cells #[.slice A0_0 l0_0.length c0_0, .slice A0_1 l0_1.length c0_1] 25 (0, 0)) (by (with_reducible repeat (first | refine blk_drewN ?_ _ | refine blk_drew ?_ | refine blk_alloc ?_ _)); exact BK366.out) hb); have n1_ := Aside0.mk (below_step (by repeat (first | (with_reducible first | exact HB.out | apply below_alloc | apply pw_below_drewN | apply below_drew1 | refine below_set ?_ GE366.out) | exact HB.out)) hb); clear BK366; clear HB; have BK366 := n0_; have HB := n1_; clear n0_ n1_; (try clear hb); (try clear hb2); (try clear hk); (try clear hi)))
   go_ret
   exact ⟨by first | rfl | (simp [errW_none, errW_some] <;> rfl) | (simp [*, errW_none, errW_some] <;> rfl), by repeat (first | (with_reducible first | exact HB.out | apply below_alloc | apply pw_below_drewN | apply below_drew1 | refine below_set ?_ GE366.out) | exact HB.out)⟩
  have H1 : (some false) = some r := by rw [if_neg (show ¬ (some q386).isNone = true by simp)] at H; exact H
  clear H
  have H := H1
  clear H1
  try simp only [errW_none, errW_some]
  obtain rfl := Option.some.inj H
  (try clear hSr)
  (try have hSr := Sent.ofB hS HB)
  go_wp2
  go_ret
  exact ⟨by first | rfl | (simp [errW_none, errW_some] <;> rfl) | (simp [*, errW_none, errW_some] <;> rfl), by repeat (first | (with_reducible first | exact HB.out | apply below_alloc | apply pw_below_drewN | apply below_drew1 | refine below_set ?_ GE366.out) | exact HB.out)⟩
 replace c25 := Bool.eq_false_iff.mpr c25
 subst c25
 have H1 : (some false) = some r := by rw [if_neg (show ¬ (false = true) by decide)] at H; exact H
 clear H
 have H := H1
 clear H1
 obtain rfl := Option.some.inj H
 have hcz46_0 : wc.cell? ⟨gb366, 0, none⟩ = some (.slice A0_0 l0_0.length c0_0) := (blk_cell BK366.out 0).trans rfl
 have hcz46_1 : wc.cell? ⟨gb366, 1, none⟩ = some (.slice A0_1 l0_1.length c0_1) := (blk_cell BK366.out 1).trans rfl
 have hfz46_0 := blk_frozen BK366.out 0
 have hfz46_1 := blk_frozen BK366.out 1
 (try clear hSr)
 (try have hSr := Sent.ofB hS HB)
 go_wp2_with (first | ((with_reducible refine gate_callee (f := 5) rfl ?_); refine goesL_ (some 34) rfl rfl Tryd.func5 (by kernel_rfl) rfl #[.agg #[.slice A0_0 l0_0.length c0_0, .slice A0_1 l0_1.length c0_1], .slice A1 l1.length c1] rfl (by (try simp only [List.map_toArray, List.map_cons, List.map_nil]); first | done | rfl | (simp only [List.length_drop, List.length_take]; rfl)) ?_; (with_reducible refine (finite_Keeps.calls kj15 _ _ l0_0 _ _ l0_1 _ _ l1 t380 t381 _ ?side1 ?side2 ?side3 ?side4 ?side5 ?side6 A21.out).mono ?_); (case side1 => repeat (first | exact (Kd.C_below HR0_0.out HB.out) | (with_reducible refine Kd.C_alloc ?_ _) | (with_reducible refine Kd.C_drewN ?_ _) | (with_reducible refine Kd.C_drew ?_))); (case side2 => exact HC0_0.out); (case side3 => repeat (first | exact (Kd.C_below HR0_1.out HB.out) | (with_reducible refine Kd.C_alloc ?_ _) | (with_reducible refine Kd.C_drewN ?_ _) | (with_reducible refine Kd.C_drew ?_))); (case side4 => exact HC0_1.out); (case side5 => repeat (first | exact (Kd.C_below HR1.out HB.out) | (with_reducible refine Kd.C_alloc ?_ _) | (with_reducible refine Kd.C_drewN ?_ _) | (with_reducible refine Kd.C_drew ?_))); (case side6 => exact HC1.out); rintro e w47 ⟨rfl, hb⟩; refine ⟨_, rfl, ?_⟩; have n0_ := Aside0.mk (blk_below (g := gb366) (o := .cells #[.slice A0_0 l0_0.length c0_0, .slice A0_1 l0_1.length c0_1] 25 (0, 0)) (by (with_reducible repeat (first | refine blk_drewN ?_ _ | refine blk_drew ?_ | refine blk_alloc ?_ _)); exact BK366.out) hb); have n1_ := Aside0.mk (below_step (by repeat (first | (with_reducible first | exact HB.out | apply below_alloc | apply pw_below_drewN | apply below_drew1 | refine below_set ?_ GE366.out) | exact HB.out)) hb); clear BK366; clear HB; have BK366 := n0_; have HB := n1_; clear n0_ n1_; (try clear hb); (try clear hb2); (try clear hk); (try clear hi); (try simp only [errW_none, errW_some]); have hcz48_0 : w47.cell? ⟨gb366, 0, none⟩ = some (.slice A0_0 l0_0.length c0_0) := (blk_cell BK366.out 0).trans rfl; have hcz48_1 : w47.cell? ⟨gb366, 1, none⟩ = some (.slice A0_1 l0_1.length c0_1) := (blk_cell BK366.out 1).trans rfl; have hfz48_0 := blk_frozen BK366.out 0; have hfz48_1 := blk_frozen BK366.out 1) | ((with_reducible refine gate_callee (f := 8) rfl ?_); refine goesL_ (some 38) rfl rfl Tryd.func8 (by kernel_rfl) rfl #[.agg #[.slice A0_0 l0_0.length c0_0, .slice A0_1 l0_1.length c0_1]] rfl (by (try simp only [List.map_toArray, List.map_cons, List.map_nil]); first | done | rfl | (simp only [List.length_drop, List.length_take]; rfl)) ?_; (with_reducible refine (optimaref3_PuzzleValid.calls kj15 _ _ l0_0 _ _ l0_1 t382 _ ?side1 ?side2 ?side3 ?side4 A22.out).mono ?_); (case side1 => repeat (first | exact (Kd.C_below HR0_0.out HB.out) | (with_reducible refine Kd.C_alloc ?_ _) | (with_reducible refine Kd.C_drewN ?_ _) | (with_reducible refine Kd.C_drew ?_))); (case side2 => exact HC0_0.out); (case side3 => repeat (first | exact (Kd.C_below HR0_1.out HB.out) | (with_reducible refine Kd.C_alloc ?_ _) | (with_reducible refine Kd.C_drewN ?_ _) | (with_reducible refine Kd.C_drew ?_))); (case side4 => exact HC0_1.out); rintro e w49 ⟨rfl, hb⟩; refine ⟨_, rfl, ?_⟩; have n0_ := Aside0.mk (blk_below (g := gb366) (o := .cells #[.slice A0_0 l0_0.length c0_0, .slice A0_1 l0_1.length c0_1] 25 (0, 0)) (by (with_reducible repeat (first | refine blk_drewN ?_ _ | refine blk_drew ?_ | refine blk_alloc ?_ _)); exact BK366.out) hb); have n1_ := Aside0.mk (below_step (by repeat (first | (with_reducible first | exact HB.out | apply below_alloc | apply pw_below_drewN | apply below_drew1 | refine below_set ?_ GE366.out) | exact HB.out)) hb); clear BK366; clear HB; have BK366 := n0_; have HB := n1_; clear n0_ n1_; (try clear hb); (try clear hb2); (try clear hk); (try clear hi); have hcz50_0 : w49.cell? ⟨gb366, 0, none⟩ = some (.slice A0_0 l0_0.length c0_0) := (blk_cell BK366.out 0).trans rfl; have hcz50_1 : w49.cell? ⟨gb366, 1, none⟩ = some (.slice A0_1 l0_1.length c0_1) := (blk_cell BK366.out 1).trans rfl; have hfz50_0 := blk_frozen BK366.out 0; have hfz50_1 := blk_frozen BK366.out 1) | ((with_reducible refine gate_callee (f := 9) rfl ?_); refine goesL_ (some 40) rfl rfl Tryd.func9 (by kernel_rfl) rfl #[.agg #[.slice A0_0 l0_0.length c0_0, .slice A0_1 l0_1.length c0_1]] rfl (by (try simp only [List.map_toArray, List.map_cons, List.map_nil]); first | done | rfl | (simp only [List.length_drop, List.length_take]; rfl)) ?_; (with_reducible refine (finite_Valid.calls kj15 _ _ l0_0 _ _ l0_1 t383 _ ?side1 ?side2 ?side3 ?side4 A23.out).mono ?_); (case side1 => repeat (first | exact (Kd.C_below HR0_0.out HB.out) | (with_reducible refine Kd.C_alloc ?_ _) | (with_reducible refine Kd.C_drewN ?_ _) | (with_reducible refine Kd.C_drew ?_))); (case side2 => exact HC0_0.out); (case side3 => repeat (first | exact (Kd.C_below HR0_1.out HB.out) | (with_reducible refine Kd.C_alloc ?_ _) | (with_reducible refine Kd.C_drewN ?_ _) | (with_reducible refine Kd.C_drew ?_))); (case side4 => exact HC0_1.out); rintro e w51 ⟨rfl, hb⟩; refine ⟨_, rfl, ?_⟩; have n0_ := Aside0.mk (blk_below (g := gb366) (o := .cells #[.slice A0_0 l0_0.length c0_0, .slice A0_1 l0_1.length c0_1] 25 (0, 0)) (by (with_reducible repeat (first | refine blk_drewN ?_ _ | refine blk_drew ?_ | refine blk_alloc ?_ _)); exact BK366.out) hb); have n1_ := Aside0.mk (below_step (by repeat (first | (with_reducible first | exact HB.out | apply below_alloc | apply pw_below_drewN | apply below_drew1 | refine below_set ?_ GE366.out) | exact HB.out)) hb); clear BK366; clear HB; have BK366 := n0_; have HB := n1_; clear n0_ n1_; (try clear hb); (try clear hb2); (try clear hk); (try clear hi); (try simp only [errW_none, errW_some]); have CA24 := fun (W : World) (hSW_ : Sent W) => optimalaw3_coded.calls t383 t382 false W A24.out hSW_; try simp only [errW_none, errW_some] at CA24) | (go_at_call 10; (with_reducible refine (CA24 _ (by first | assumption | exact Sent.ofB hS HB | (refine Sent.below hS ?_; (repeat (first | exact HB.out | apply below_alloc | apply pw_below_drewN | apply below_drew | (refine below_set ?_ (Aside0.out (by assumption)))))) | (repeat (first | exact hS | apply Sent.alloc | apply Sent.drewN | apply Sent.drew)))).mono ?_); rintro e w52 ⟨rfl, hb⟩; have n0_ := Aside0.mk (blk_below (g := gb366) (o := .cells #[.slice A0_0 l0_0.length c0_0, .slice A0_1 l0_1.length c0_1] 25 (0, 0)) (by (with_reducible repeat (first | refine blk_drewN ?_ _ | refine blk_drew ?_ | refine blk_alloc ?_ _)); exact BK366.out) hb); have n1_ := Aside0.mk (below_step (by repeat (first | (with_reducible first | exact HB.out | apply below_alloc | apply pw_below_drewN | apply below_drew1 | refine below_set ?_ GE366.out) | exact HB.out)) hb); clear BK366; clear HB; have BK366 := n0_; have HB := n1_; clear n0_ n1_; (try clear hb); (try clear hb2); (try clear hk); (try clear hi)))
 go_ret
 exact ⟨by first | rfl | (simp [errW_none, errW_some] <;> rfl) | (simp [*, errW_none, errW_some] <;> rfl), by repeat (first | (with_reducible first | exact HB.out | apply below_alloc | apply pw_below_drewN | apply below_drew1 | refine below_set ?_ GE366.out) | exact HB.out)⟩

end Go.Proofs.YtehekppkicjimaaDoor.QFK
