-- written by a program of mine (wip/tools/print2.py), which turns the kit's printer a little
import Derived.Test.YtehekppkicjimaaDoorSQFKx0
import Derived.Test.YtehekppkicjimaaDoorSQFKx17
import Derived.Test.YtehekppkicjimaaDoorSQFKx33
import Derived.Test.YtehekppkicjimaaDoorSQFKx34
import Derived.Test.YtehekppkicjimaaDoorSErr
namespace Go.Proofs.YtehekppkicjimaaDoor.QFK
open Go.RowKit Go.Proofs.YtehekppkicjimaaDoorW.PrintWords Go.Proofs.YtehekppkicjimaaDoorW.PrintLast Go.Proofs.YtehekppkicjimaaDoorW.PrintMore
attribute [local go_sem] max2_int min2_int max_two min_two max_three min_three max_four min_four
set_option linter.unusedVariables false
set_option linter.unusedSimpArgs false

attribute [local go_sem] Sent.alloc Sent.drew Sent.drewN Sent.c0 Sent.c1
/-! ### optimaref3_conValid: function 18 -/
mutual
def optimaref3_conValid.j0 : Nat → Int → Bool → List (List Int) → List (S44) → Int → List Int → List Int → List Int → Int → List (List Int) → Option (Int)
 | 0, _, _, _, _, _, _, _, _, _, _ => none
 | k + 1, x5, x33, x310000, x310001, x311000, x311001, x311002, x311003, x311004, x311005 => if x33 = true then (some 2) else (optimaref3_conValid.l0 k x5 0 x310000 x310001 x311000 x311001 x311002 x311003 x311004 x311005)
def optimaref3_conValid.l0 : Nat → Int → Int → List (List Int) → List (S44) → Int → List Int → List Int → List Int → Int → List (List Int) → Option (Int)
 | 0, _, _, _, _, _, _, _, _, _, _ => none
 | k + 1, x5, x6, x310000, x310001, x311000, x311001, x311002, x311003, x311004, x311005 => if x6 < (x311005.length : Int) then (if 0 ≤ x6 then (if ((rd_L1 x311005 x6).length : Int) > 60 then (some 2) else (optimaref3_conValid.l0 k x5 (wrap64 (x6 + 1)) x310000 x310001 x311000 x311001 x311002 x311003 x311004 x311005)) else (none)) else ((optimaref3_anyBig.f k x311002).bind fun t312 => (if t312 = true then (some 2) else ((optimaref3_anyBig.f k x311003).bind fun t313 => (if t313 = true then (some 2) else ((optimaref3_big.f x311004).bind fun t314 => (optimaref3_conValid.l1 k x5 t314 0 x310000 x310001 x311000 x311001 x311002 x311003 x311004 x311005))))))
def optimaref3_conValid.j3 : Nat → Int → Bool → List (List Int) → List (S44) → Int → List Int → List Int → List Int → Int → List (List Int) → Option (Int)
 | 0, _, _, _, _, _, _, _, _, _, _ => none
 | k + 1, x5, x7, x310000, x310001, x311000, x311001, x311002, x311003, x311004, x311005 => if x7 = true then (some 2) else (optimaref3_conValid.l2 k x5 0 x310000 x310001 x311000 x311001 x311002 x311003 x311004 x311005)
def optimaref3_conValid.l2 : Nat → Int → Int → List (List Int) → List (S44) → Int → List Int → List Int → List Int → Int → List (List Int) → Option (Int)
 | 0, _, _, _, _, _, _, _, _, _, _ => none
 | k + 1, x5, x9, x310000, x310001, x311000, x311001, x311002, x311003, x311004, x311005 => if x9 < x5 then (if 0 ≤ x9 then (if x9 < (x311001.length : Int) then (if (rd x311001 x9) < 0 then (some 4) else (if (rd x311001 x9) ≥ (x310000.length : Int) then (some 4) else (optimaref3_conValid.l2 k x5 (wrap64 (x9 + 1)) x310000 x310001 x311000 x311001 x311002 x311003 x311004 x311005))) else (none)) else (none)) else ((optimaref3_formed.f k x311000 x311001 x311002 x311003 x311004 x311005).bind fun t319 => (if t319 = true then (some 0) else (some 4)))
def optimaref3_conValid.l1 : Nat → Int → Bool → Int → List (List Int) → List (S44) → Int → List Int → List Int → List Int → Int → List (List Int) → Option (Int)
 | 0, _, _, _, _, _, _, _, _, _, _, _ => none
 | k + 1, x5, x7, x8, x310000, x310001, x311000, x311001, x311002, x311003, x311004, x311005 => if x8 < (x311005.length : Int) then (if x7 = true then (optimaref3_conValid.j3 k x5 x7 x310000 x310001 x311000 x311001 x311002 x311003 x311004 x311005) else (if 0 ≤ x8 then ((optimaref3_anyBig.f k (rd_L1 x311005 x8)).bind fun t316 => (optimaref3_conValid.l1 k x5 t316 (wrap64 (x8 + 1)) x310000 x310001 x311000 x311001 x311002 x311003 x311004 x311005)) else (none))) else (optimaref3_conValid.j3 k x5 x7 x310000 x310001 x311000 x311001 x311002 x311003 x311004 x311005)
end
def optimaref3_conValid.f (k : Nat) (l0_0 : List (List Int)) (l0_1 : List (S44)) (a1_0 : Int) (l1_1 : List Int) (l1_2 : List Int) (l1_3 : List Int) (a1_4 : Int) (l1_5 : List (List Int)) : Option (Int) := if (l1_1.length : Int) > 60 then (optimaref3_conValid.j0 k (l1_1.length : Int) true l0_0 l0_1 a1_0 l1_1 l1_2 l1_3 a1_4 l1_5) else (if (l1_2.length : Int) > 60 then (optimaref3_conValid.j0 k (l1_1.length : Int) true l0_0 l0_1 a1_0 l1_1 l1_2 l1_3 a1_4 l1_5) else (if (l1_3.length : Int) > 60 then (optimaref3_conValid.j0 k (l1_1.length : Int) true l0_0 l0_1 a1_0 l1_1 l1_2 l1_3 a1_4 l1_5) else (optimaref3_conValid.j0 k (l1_1.length : Int) (decide ((l1_5.length : Int) > 200)) l0_0 l0_1 a1_0 l1_1 l1_2 l1_3 a1_4 l1_5)))
theorem optimaref3_conValid.mono_l : ∀ k, (∀ y0 y1 y2 y3 y4 y5 y6 y7 y8 y9, LeO (optimaref3_conValid.j0 k y0 y1 y2 y3 y4 y5 y6 y7 y8 y9) (optimaref3_conValid.j0 (k + 1) y0 y1 y2 y3 y4 y5 y6 y7 y8 y9)) ∧ (∀ y0 y1 y2 y3 y4 y5 y6 y7 y8 y9, LeO (optimaref3_conValid.l0 k y0 y1 y2 y3 y4 y5 y6 y7 y8 y9) (optimaref3_conValid.l0 (k + 1) y0 y1 y2 y3 y4 y5 y6 y7 y8 y9)) ∧ (∀ y0 y1 y2 y3 y4 y5 y6 y7 y8 y9, LeO (optimaref3_conValid.j3 k y0 y1 y2 y3 y4 y5 y6 y7 y8 y9) (optimaref3_conValid.j3 (k + 1) y0 y1 y2 y3 y4 y5 y6 y7 y8 y9)) ∧ (∀ y0 y1 y2 y3 y4 y5 y6 y7 y8 y9, LeO (optimaref3_conValid.l2 k y0 y1 y2 y3 y4 y5 y6 y7 y8 y9) (optimaref3_conValid.l2 (k + 1) y0 y1 y2 y3 y4 y5 y6 y7 y8 y9)) ∧ (∀ y0 y1 y2 y3 y4 y5 y6 y7 y8 y9 y10, LeO (optimaref3_conValid.l1 k y0 y1 y2 y3 y4 y5 y6 y7 y8 y9 y10) (optimaref3_conValid.l1 (k + 1) y0 y1 y2 y3 y4 y5 y6 y7 y8 y9 y10))
 | 0 => ⟨fun _ _ _ _ _ _ _ _ _ _ r h => by simp [optimaref3_conValid.j0] at h, fun _ _ _ _ _ _ _ _ _ _ r h => by simp [optimaref3_conValid.l0] at h, fun _ _ _ _ _ _ _ _ _ _ r h => by simp [optimaref3_conValid.j3] at h, fun _ _ _ _ _ _ _ _ _ _ r h => by simp [optimaref3_conValid.l2] at h, fun _ _ _ _ _ _ _ _ _ _ _ r h => by simp [optimaref3_conValid.l1] at h⟩
 | k + 1 => by
  obtain ⟨ih0, ih1, ih2, ih3, ih4⟩ := optimaref3_conValid.mono_l k
  refine ⟨?_, ?_, ?_, ?_, ?_⟩
  ·intro y0 y1 y2 y3 y4 y5 y6 y7 y8 y9
   unfold optimaref3_conValid.j0
   repeat' first | (with_reducible exact ih1 _ _ _ _ _ _ _ _ _ _) | (with_reducible exact LeO.refl _) | (with_reducible refine LeO.ite ?_ ?_)
  ·intro y0 y1 y2 y3 y4 y5 y6 y7 y8 y9
   unfold optimaref3_conValid.l0
   repeat' first | (with_reducible exact ih1 _ _ _ _ _ _ _ _ _ _) | (with_reducible exact ih4 _ _ _ _ _ _ _ _ _ _ _) | (with_reducible exact optimaref3_anyBig.mono _ _) | (with_reducible exact LeO.refl _) | (with_reducible refine LeO.ite ?_ ?_) | (with_reducible refine LeO.bind ?_ (fun _ => ?_))
  ·intro y0 y1 y2 y3 y4 y5 y6 y7 y8 y9
   unfold optimaref3_conValid.j3
   repeat' first | (with_reducible exact ih3 _ _ _ _ _ _ _ _ _ _) | (with_reducible exact LeO.refl _) | (with_reducible refine LeO.ite ?_ ?_)
  ·intro y0 y1 y2 y3 y4 y5 y6 y7 y8 y9
   unfold optimaref3_conValid.l2
   repeat' first | (with_reducible exact ih3 _ _ _ _ _ _ _ _ _ _) | (with_reducible exact optimaref3_formed.mono _ _ _ _ _ _ _) | (with_reducible exact LeO.refl _) | (with_reducible refine LeO.ite ?_ ?_) | (with_reducible refine LeO.bind ?_ (fun _ => ?_))
  intro y0 y1 y2 y3 y4 y5 y6 y7 y8 y9 y10
  unfold optimaref3_conValid.l1
  repeat' first | (with_reducible exact ih2 _ _ _ _ _ _ _ _ _ _) | (with_reducible exact ih4 _ _ _ _ _ _ _ _ _ _ _) | (with_reducible exact optimaref3_anyBig.mono _ _) | (with_reducible exact LeO.refl _) | (with_reducible refine LeO.ite ?_ ?_) | (with_reducible refine LeO.bind ?_ (fun _ => ?_))
theorem optimaref3_conValid.mono : ∀ a0 a1 a2 a3 a4 a5 a6 a7 k, LeO (optimaref3_conValid.f k a0 a1 a2 a3 a4 a5 a6 a7) (optimaref3_conValid.f (k + 1) a0 a1 a2 a3 a4 a5 a6 a7) := by
 intro a0 a1 a2 a3 a4 a5 a6 a7 k
 obtain ⟨ih0, ih1, ih2, ih3, ih4⟩ := optimaref3_conValid.mono_l k
 unfold optimaref3_conValid.f
 repeat' first | (with_reducible exact ih0 _ _ _ _ _ _ _ _ _ _) | (with_reducible refine LeO.ite ?_ ?_)
set_option maxHeartbeats 8000000 in
set_option maxRecDepth 100000 in
theorem optimaref3_conValid.calls (k : Nat) (A0_0 : Option Addr) (c0_0 : Nat) (l0_0 : List (List Int)) (A0_1 : Option Addr) (c0_1 : Nat) (l0_1 : List (S44)) (a1_0 : Int) (A1_1 : Option Addr) (c1_1 : Nat) (l1_1 : List Int) (A1_2 : Option Addr) (c1_2 : Nat) (l1_2 : List Int) (A1_3 : Option Addr) (c1_3 : Nat) (l1_3 : List Int) (a1_4 : Int) (A1_5 : Option Addr) (c1_5 : Nat) (l1_5 : List (List Int)) (r : Int) (w : World) (hr0_0 : Kd.C (Kd.slice 3 (Kd.int .i64)) w A0_0 l0_0.length l0_0) (hc0_0 : l0_0.length ≤ c0_0) (hr0_1 : Kd.C k44 w A0_1 l0_1.length l0_1) (hc0_1 : l0_1.length ≤ c0_1) (hr1_1 : Kd.C (Kd.int .i64) w A1_1 l1_1.length l1_1) (hc1_1 : l1_1.length ≤ c1_1) (hr1_2 : Kd.C (Kd.int .i64) w A1_2 l1_2.length l1_2) (hc1_2 : l1_2.length ≤ c1_2) (hr1_3 : Kd.C (Kd.int .i64) w A1_3 l1_3.length l1_3) (hc1_3 : l1_3.length ≤ c1_3) (hr1_5 : Kd.C (Kd.slice 3 (Kd.int .i64)) w A1_5 l1_5.length l1_5) (hc1_5 : l1_5.length ≤ c1_5) (h : optimaref3_conValid.f k l0_0 l0_1 a1_0 l1_1 l1_2 l1_3 a1_4 l1_5 = some r) :
 Calls Tryd.prog 18 #[.agg #[.slice A0_0 l0_0.length c0_0, .slice A0_1 l0_1.length c0_1], .agg #[.int .i64 a1_0, .slice A1_1 l1_1.length c1_1, .slice A1_2 l1_2.length c1_2, .slice A1_3 l1_3.length c1_3, .int .i64 a1_4, .slice A1_5 l1_5.length c1_5]] w fun e w' => e = .returned (.int .i64 r) ∧ Below w.heap.size w w' := by
 have hu25 := Tryd.underlying25
 have hu44 := Tryd.underlying44
 have HR0_0 := Aside0.mk hr0_0
 have HC0_0 := Aside0.mk hc0_0
 clear hr0_0 hc0_0
 have HR0_1 := Aside0.mk hr0_1
 have HC0_1 := Aside0.mk hc0_1
 clear hr0_1 hc0_1
 have HR1_1 := Aside0.mk hr1_1
 have HC1_1 := Aside0.mk hc1_1
 clear hr1_1 hc1_1
 have HR1_2 := Aside0.mk hr1_2
 have HC1_2 := Aside0.mk hc1_2
 clear hr1_2 hc1_2
 have HR1_3 := Aside0.mk hr1_3
 have HC1_3 := Aside0.mk hc1_3
 clear hr1_3 hc1_3
 have HR1_5 := Aside0.mk hr1_5
 have HC1_5 := Aside0.mk hc1_5
 clear hr1_5 hc1_5
 have HB := Aside0.mk (Below.refl w.heap.size w)
 have H : (if (l1_1.length : Int) > 60 then (optimaref3_conValid.j0 k (l1_1.length : Int) true l0_0 l0_1 a1_0 l1_1 l1_2 l1_3 a1_4 l1_5) else (if (l1_2.length : Int) > 60 then (optimaref3_conValid.j0 k (l1_1.length : Int) true l0_0 l0_1 a1_0 l1_1 l1_2 l1_3 a1_4 l1_5) else (if (l1_3.length : Int) > 60 then (optimaref3_conValid.j0 k (l1_1.length : Int) true l0_0 l0_1 a1_0 l1_1 l1_2 l1_3 a1_4 l1_5) else (optimaref3_conValid.j0 k (l1_1.length : Int) (decide ((l1_5.length : Int) > 200)) l0_0 l0_1 a1_0 l1_1 l1_2 l1_3 a1_4 l1_5)))) = some r := h
 clear h
 have HC3 := Aside0.mk H
 clear H
 go_enter Tryd.func18, Tryd.ntmps18
 go_upto_region 2 with (first | ((with_reducible refine gate_dst (N := 2) rfl ?_); (try (refine gate_guard (by rfl) ?_; dsimp only)); refine box_event ?hg (N := 2) ?hd (cs := #[.slice A0_0 l0_0.length c0_0, .slice A0_1 l0_1.length c0_1]) (t := 25) ?hr ?_; (case hd => rfl); (case hg => rfl); (case hr => (go_simp; done)); intro gb309 hg w4 hbox hb; have n0_ := Aside0.mk (below_step (by exact HB.out) hb); have n1_ := Aside0.mk (hbox); have n2_ := Aside0.mk ((by rw [hg]; exact (below_size (by exact HB.out)) : w.heap.size ≤ gb309)); have n3_ := Aside0.mk ((by rw [hg]; exact (below_size (by exact HB.out)) : w.heap.size ≤ gb309)); clear HB; have HB := n0_; have BK309 := n1_; have GW309 := n2_; have GE309 := n3_; clear n0_ n1_ n2_ n3_; clear hb hbox hg) | ((with_reducible refine gate_dst (N := 3) rfl ?_); (try (refine gate_guard (by rfl) ?_; dsimp only)); refine box_event ?hg (N := 3) ?hd (cs := #[.int .i64 a1_0, .slice A1_1 l1_1.length c1_1, .slice A1_2 l1_2.length c1_2, .slice A1_3 l1_3.length c1_3, .int .i64 a1_4, .slice A1_5 l1_5.length c1_5]) (t := 44) ?hr ?_; (case hd => rfl); (case hg => rfl); (case hr => (go_simp; done)); intro gb310 hg w5 hbox hb; have n0_ := Aside0.mk (blk_below (g := gb309) (o := .cells #[.slice A0_0 l0_0.length c0_0, .slice A0_1 l0_1.length c0_1] 25 (0, 0)) (by exact BK309.out) hb); have n1_ := Aside0.mk (below_step (by exact HB.out) hb); have n2_ := Aside0.mk (hbox); have n3_ := Aside0.mk ((by rw [hg]; exact (below_size (by exact HB.out)) : w.heap.size ≤ gb310)); have n4_ := Aside0.mk ((by rw [hg]; exact (below_size (by exact HB.out)) : w.heap.size ≤ gb310)); have n5_ := Aside0.mk ((by rw [hg]; exact Nat.ne_of_lt (blk_lt (g := gb309) (o := .cells #[.slice A0_0 l0_0.length c0_0, .slice A0_1 l0_1.length c0_1] 25 (0, 0)) (by exact BK309.out)) : gb309 ≠ gb310)); have n6_ := Aside0.mk ((by rw [hg]; exact Nat.ne_of_gt (blk_lt (g := gb309) (o := .cells #[.slice A0_0 l0_0.length c0_0, .slice A0_1 l0_1.length c0_1] 25 (0, 0)) (by exact BK309.out)) : gb310 ≠ gb309)); clear BK309; clear HB; have BK309 := n0_; have HB := n1_; have BK310 := n2_; have GW310 := n3_; have GE310 := n4_; have NB309_310 := n5_; have NB310_309 := n6_; clear n0_ n1_ n2_ n3_ n4_ n5_ n6_; clear hb hbox hg; have hnb6 := NB310_309.out; have hnc6 := NB309_310.out; have hcz7_0 : w5.cell? ⟨gb310, 0, none⟩ = some (.int .i64 a1_0) := (blk_cell BK310.out 0).trans rfl; have hcz7_1 : w5.cell? ⟨gb310, 1, none⟩ = some (.slice A1_1 l1_1.length c1_1) := (blk_cell BK310.out 1).trans rfl; have hcz7_2 : w5.cell? ⟨gb310, 2, none⟩ = some (.slice A1_2 l1_2.length c1_2) := (blk_cell BK310.out 2).trans rfl; have hcz7_3 : w5.cell? ⟨gb310, 3, none⟩ = some (.slice A1_3 l1_3.length c1_3) := (blk_cell BK310.out 3).trans rfl; have hcz7_4 : w5.cell? ⟨gb310, 4, none⟩ = some (.int .i64 a1_4) := (blk_cell BK310.out 4).trans rfl; have hcz7_5 : w5.cell? ⟨gb310, 5, none⟩ = some (.slice A1_5 l1_5.length c1_5) := (blk_cell BK310.out 5).trans rfl; have hfz7_0 := blk_frozen BK310.out 0; have hfz7_1 := blk_frozen BK310.out 1; have hfz7_2 := blk_frozen BK310.out 2; have hfz7_3 := blk_frozen BK310.out 3; have hfz7_4 := blk_frozen BK310.out 4; have hfz7_5 := blk_frozen BK310.out 5))
 repeat (go_quiet (fail); go_upto_region 2 with (fail))
 (try simp only [Act.put, List.setIfInBounds_toArray, List.set_cons_zero, List.set_cons_succ])
 go_cut [33] (fun v33 wc => ∃ (kq : Nat) (x33_2 : Bool), v33 = .bool x33_2 ∧ Aside0 (optimaref3_conValid.j0 kq (l1_1.length : Int) x33_2 l0_0 l0_1 a1_0 l1_1 l1_2 l1_3 a1_4 l1_5 = some r) ∧ Aside0 (kq ≤ k) ∧ Aside0 (wc.heap[gb309]? = some (.cells #[(.slice A0_0 l0_0.length c0_0), (.slice A0_1 l0_1.length c0_1)] 25 (0, 0))) ∧ Aside0 (wc.heap[gb310]? = some (.cells #[.int .i64 a1_0, (.slice A1_1 l1_1.length c1_1), (.slice A1_2 l1_2.length c1_2), (.slice A1_3 l1_3.length c1_3), .int .i64 a1_4, (.slice A1_5 l1_5.length c1_5)] 44 (0, 0))) ∧ Aside0 (Below w.heap.size w wc))
 case first =>
  have H := HC3.out
  clear HC3
  by_cases c8 : (l1_1.length : Int) > 60
  ·rw [if_pos c8] at H
   have c8b0 : decide (60 < (l1_1.length : Int)) = true := decide_eq_true c8
   have c8b1 : decide (60 < l1_1.length) = true := decide_eq_true (by omega)
   clear c8
   (skip)
   have H' := Aside0.mk H
   clear H
   go_wp2
   repeat (go_quiet (fail); try go_wp2)
   go_meet
   case rel => exact ⟨_, (true), (by rfl), H', ⟨by omega⟩, ⟨by exact BK309.out⟩, ⟨by exact BK310.out⟩, ⟨by exact HB.out⟩⟩
  rw [if_neg c8] at H
  have c8b0 : decide (60 < (l1_1.length : Int)) = false := decide_eq_false c8
  have c8b1 : decide (60 < l1_1.length) = false := decide_eq_false (by omega)
  clear c8
  (skip)
  by_cases c9 : (l1_2.length : Int) > 60
  ·rw [if_pos c9] at H
   have c9b0 : decide (60 < (l1_2.length : Int)) = true := decide_eq_true c9
   have c9b1 : decide (60 < l1_2.length) = true := decide_eq_true (by omega)
   clear c9
   have H' := Aside0.mk H
   clear H
   have hnb10 := NB310_309.out
   have hnc10 := NB309_310.out
   have hcz11_0 : w5.cell? ⟨gb310, 0, none⟩ = some (.int .i64 a1_0) := (blk_cell BK310.out 0).trans rfl
   have hcz11_1 : w5.cell? ⟨gb310, 1, none⟩ = some (.slice A1_1 l1_1.length c1_1) := (blk_cell BK310.out 1).trans rfl
   have hcz11_2 : w5.cell? ⟨gb310, 2, none⟩ = some (.slice A1_2 l1_2.length c1_2) := (blk_cell BK310.out 2).trans rfl
   have hcz11_3 : w5.cell? ⟨gb310, 3, none⟩ = some (.slice A1_3 l1_3.length c1_3) := (blk_cell BK310.out 3).trans rfl
   have hcz11_4 : w5.cell? ⟨gb310, 4, none⟩ = some (.int .i64 a1_4) := (blk_cell BK310.out 4).trans rfl
   have hcz11_5 : w5.cell? ⟨gb310, 5, none⟩ = some (.slice A1_5 l1_5.length c1_5) := (blk_cell BK310.out 5).trans rfl
   have hfz11_0 := blk_frozen BK310.out 0
   have hfz11_1 := blk_frozen BK310.out 1
   have hfz11_2 := blk_frozen BK310.out 2
   have hfz11_3 := blk_frozen BK310.out 3
   have hfz11_4 := blk_frozen BK310.out 4
   have hfz11_5 := blk_frozen BK310.out 5
   go_wp2
   repeat (go_quiet (fail); try go_wp2)
   go_meet
   case rel => exact ⟨_, (true), (by rfl), H', ⟨by omega⟩, ⟨by exact BK309.out⟩, ⟨by exact BK310.out⟩, ⟨by exact HB.out⟩⟩
  rw [if_neg c9] at H
  have c9b0 : decide (60 < (l1_2.length : Int)) = false := decide_eq_false c9
  have c9b1 : decide (60 < l1_2.length) = false := decide_eq_false (by omega)
  clear c9
  by_cases c12 : (l1_3.length : Int) > 60
  ·rw [if_pos c12] at H
   have c12b0 : decide (60 < (l1_3.length : Int)) = true := decide_eq_true c12
   have c12b1 : decide (60 < l1_3.length) = true := decide_eq_true (by omega)
   clear c12
   have H' := Aside0.mk H
   clear H
   have hnb13 := NB310_309.out
   have hnc13 := NB309_310.out
   have hcz14_0 : w5.cell? ⟨gb310, 0, none⟩ = some (.int .i64 a1_0) := (blk_cell BK310.out 0).trans rfl
   have hcz14_1 : w5.cell? ⟨gb310, 1, none⟩ = some (.slice A1_1 l1_1.length c1_1) := (blk_cell BK310.out 1).trans rfl
   have hcz14_2 : w5.cell? ⟨gb310, 2, none⟩ = some (.slice A1_2 l1_2.length c1_2) := (blk_cell BK310.out 2).trans rfl
   have hcz14_3 : w5.cell? ⟨gb310, 3, none⟩ = some (.slice A1_3 l1_3.length c1_3) := (blk_cell BK310.out 3).trans rfl
   have hcz14_4 : w5.cell? ⟨gb310, 4, none⟩ = some (.int .i64 a1_4) := (blk_cell BK310.out 4).trans rfl
   have hcz14_5 : w5.cell? ⟨gb310, 5, none⟩ = some (.slice A1_5 l1_5.length c1_5) := (blk_cell BK310.out 5).trans rfl
   have hfz14_0 := blk_frozen BK310.out 0
   have hfz14_1 := blk_frozen BK310.out 1
   have hfz14_2 := blk_frozen BK310.out 2
   have hfz14_3 := blk_frozen BK310.out 3
   have hfz14_4 := blk_frozen BK310.out 4
   have hfz14_5 := blk_frozen BK310.out 5
   go_wp2
   repeat (go_quiet (fail); try go_wp2)
   go_meet
   case rel => exact ⟨_, (true), (by rfl), H', ⟨by omega⟩, ⟨by exact BK309.out⟩, ⟨by exact BK310.out⟩, ⟨by exact HB.out⟩⟩
  rw [if_neg c12] at H
  have c12b0 : decide (60 < (l1_3.length : Int)) = false := decide_eq_false c12
  have c12b1 : decide (60 < l1_3.length) = false := decide_eq_false (by omega)
  clear c12
  have H' := Aside0.mk H
  clear H
  have hnb15 := NB310_309.out
  have hnc15 := NB309_310.out
  have hcz16_0 : w5.cell? ⟨gb310, 0, none⟩ = some (.int .i64 a1_0) := (blk_cell BK310.out 0).trans rfl
  have hcz16_1 : w5.cell? ⟨gb310, 1, none⟩ = some (.slice A1_1 l1_1.length c1_1) := (blk_cell BK310.out 1).trans rfl
  have hcz16_2 : w5.cell? ⟨gb310, 2, none⟩ = some (.slice A1_2 l1_2.length c1_2) := (blk_cell BK310.out 2).trans rfl
  have hcz16_3 : w5.cell? ⟨gb310, 3, none⟩ = some (.slice A1_3 l1_3.length c1_3) := (blk_cell BK310.out 3).trans rfl
  have hcz16_4 : w5.cell? ⟨gb310, 4, none⟩ = some (.int .i64 a1_4) := (blk_cell BK310.out 4).trans rfl
  have hcz16_5 : w5.cell? ⟨gb310, 5, none⟩ = some (.slice A1_5 l1_5.length c1_5) := (blk_cell BK310.out 5).trans rfl
  have hfz16_0 := blk_frozen BK310.out 0
  have hfz16_1 := blk_frozen BK310.out 1
  have hfz16_2 := blk_frozen BK310.out 2
  have hfz16_3 := blk_frozen BK310.out 3
  have hfz16_4 := blk_frozen BK310.out 4
  have hfz16_5 := blk_frozen BK310.out 5
  go_wp2
  repeat (go_quiet (fail); try go_wp2)
  go_meet
  case rel => exact ⟨_, (decide ((l1_5.length : Int) > 200)), (by rfl), H', ⟨by omega⟩, ⟨by exact BK309.out⟩, ⟨by exact BK310.out⟩, ⟨by exact HB.out⟩⟩
 clear HC3
 try clear c1
 try clear p2
 try clear c6
 try clear c8
 try clear c8b0
 try clear c8b1
 try clear c9
 try clear c9b0
 try clear c9b1
 try clear c10
 try clear c12
 try clear c12b0
 try clear c12b1
 try clear c13
 try clear c15
 try clear hcz11_0
 try clear hcz11_1
 try clear hcz11_2
 try clear hcz11_3
 try clear hcz11_4
 try clear hcz11_5
 try clear hcz14_0
 try clear hcz14_1
 try clear hcz14_2
 try clear hcz14_3
 try clear hcz14_4
 try clear hcz14_5
 try clear hcz16_0
 try clear hcz16_1
 try clear hcz16_2
 try clear hcz16_3
 try clear hcz16_4
 try clear hcz16_5
 try clear hcz7_0
 try clear hcz7_1
 try clear hcz7_2
 try clear hcz7_3
 try clear hcz7_4
 try clear hcz7_5
 try clear hfz11_0
 try clear hfz11_1
 try clear hfz11_2
 try clear hfz11_3
 try clear hfz11_4
 try clear hfz11_5
 try clear hfz14_0
 try clear hfz14_1
 try clear hfz14_2
 try clear hfz14_3
 try clear hfz14_4
 try clear hfz14_5
 try clear hfz16_0
 try clear hfz16_1
 try clear hfz16_2
 try clear hfz16_3
 try clear hfz16_4
 try clear hfz16_5
 try clear hfz7_0
 try clear hfz7_1
 try clear hfz7_2
 try clear hfz7_3
 try clear hfz7_4
 try clear hfz7_5
 obtain ⟨kq, x33_2, rfl, HA, HJ2, BK309, BK310, HB⟩ := hcut
 rcases kq with _ | kj2
 ·exact absurd HA.out (by simp [optimaref3_conValid.j0])
 have H := HA.out
 clear HA
 simp only [optimaref3_conValid.j0] at H
 by_cases c17 : x33_2 = true
 ·subst c17
  have H1 : (some 2) = some r := by rw [if_pos rfl] at H; exact H
  clear H
  have H := H1
  clear H1
  obtain rfl := Option.some.inj H
  go_wp2
  repeat (go_quiet (fail); try go_wp2)
  go_ret
  exact ⟨by rfl, by exact HB.out⟩
 replace c17 := Bool.eq_false_iff.mpr c17
 subst c17
 have H1 : (optimaref3_conValid.l0 kj2 (l1_1.length : Int) 0 l0_0 l0_1 a1_0 l1_1 l1_2 l1_3 a1_4 l1_5) = some r := by rw [if_neg (show ¬ (false = true) by decide)] at H; exact H
 clear H
 have H := H1
 clear H1
 have H' := Aside0.mk H
 clear H
 go_wp2
 repeat (go_quiet (fail); try go_wp2)
 go_loopg [6] kj2 (fun kq v6 w' => ∃ (x6_2 : Int), v6 = .int .i64 x6_2 ∧ Aside0 (optimaref3_conValid.l0 kq (l1_1.length : Int) x6_2 l0_0 l0_1 a1_0 l1_1 l1_2 l1_3 a1_4 l1_5 = some r) ∧ Aside0 (kq ≤ kj2) ∧ Aside0 (w'.heap[gb309]? = some (.cells #[(.slice A0_0 l0_0.length c0_0), (.slice A0_1 l0_1.length c0_1)] 25 (0, 0))) ∧ Aside0 (w'.heap[gb310]? = some (.cells #[.int .i64 a1_0, (.slice A1_1 l1_1.length c1_1), (.slice A1_2 l1_2.length c1_2), (.slice A1_3 l1_3.length c1_3), .int .i64 a1_4, (.slice A1_5 l1_5.length c1_5)] 44 (0, 0))) ∧ Aside0 (Below w.heap.size w w'))
 case atStart => exact ⟨(0), (by rfl), H', ⟨Nat.le_refl _⟩, ⟨by exact BK309.out⟩, ⟨by exact BK310.out⟩, ⟨by exact HB.out⟩⟩
 clear H'
 try clear c1
 try clear p2
 try clear c6
 try clear c8
 try clear c8b0
 try clear c8b1
 try clear c9
 try clear c9b0
 try clear c9b1
 try clear c10
 try clear c12
 try clear c12b0
 try clear c12b1
 try clear c13
 try clear c15
 try clear c17
 try clear hcz11_0
 try clear hcz11_1
 try clear hcz11_2
 try clear hcz11_3
 try clear hcz11_4
 try clear hcz11_5
 try clear hcz14_0
 try clear hcz14_1
 try clear hcz14_2
 try clear hcz14_3
 try clear hcz14_4
 try clear hcz14_5
 try clear hcz16_0
 try clear hcz16_1
 try clear hcz16_2
 try clear hcz16_3
 try clear hcz16_4
 try clear hcz16_5
 try clear hcz7_0
 try clear hcz7_1
 try clear hcz7_2
 try clear hcz7_3
 try clear hcz7_4
 try clear hcz7_5
 try clear hfz11_0
 try clear hfz11_1
 try clear hfz11_2
 try clear hfz11_3
 try clear hfz11_4
 try clear hfz11_5
 try clear hfz14_0
 try clear hfz14_1
 try clear hfz14_2
 try clear hfz14_3
 try clear hfz14_4
 try clear hfz14_5
 try clear hfz16_0
 try clear hfz16_1
 try clear hfz16_2
 try clear hfz16_3
 try clear hfz16_4
 try clear hfz16_5
 try clear hfz7_0
 try clear hfz7_1
 try clear hfz7_2
 try clear hfz7_3
 try clear hfz7_4
 try clear hfz7_5
 try clear p2
 obtain ⟨x6_2, rfl, HA, HK2, BK309, BK310, HB⟩ := hrel
 rcases gk with _ | k2
 ·exact absurd HA.out (by simp [optimaref3_conValid.l0])
 have H := HA.out
 clear HA
 simp only [optimaref3_conValid.l0] at H
 by_cases c18 : x6_2 < (l1_5.length : Int)
 ·rw [if_pos c18] at H
  have c18b0 : decide (x6_2 < (l1_5.length : Int)) = true := decide_eq_true c18
  clear c18
  by_cases c19 : 0 ≤ x6_2
  ·rw [if_pos c19] at H
   have c19b0 : decide (0 ≤ x6_2) = true := decide_eq_true c19
   clear c19
   by_cases c20 : ((rd_L1 l1_5 x6_2).length : Int) > 60
   ·rw [if_pos c20] at H
    have c20b0 : decide (60 < ((rd_L1 l1_5 x6_2).length : Int)) = true := decide_eq_true c20
    have c20b1 : decide (60 < (rd_L1 l1_5 x6_2).length) = true := decide_eq_true (by omega)
    clear c20
    obtain rfl := Option.some.inj H
    have hnb21 := NB310_309.out
    have hnc21 := NB309_310.out
    have hcz22_0 : wr.cell? ⟨gb310, 0, none⟩ = some (.int .i64 a1_0) := (blk_cell BK310.out 0).trans rfl
    have hcz22_1 : wr.cell? ⟨gb310, 1, none⟩ = some (.slice A1_1 l1_1.length c1_1) := (blk_cell BK310.out 1).trans rfl
    have hcz22_2 : wr.cell? ⟨gb310, 2, none⟩ = some (.slice A1_2 l1_2.length c1_2) := (blk_cell BK310.out 2).trans rfl
    have hcz22_3 : wr.cell? ⟨gb310, 3, none⟩ = some (.slice A1_3 l1_3.length c1_3) := (blk_cell BK310.out 3).trans rfl
    have hcz22_4 : wr.cell? ⟨gb310, 4, none⟩ = some (.int .i64 a1_4) := (blk_cell BK310.out 4).trans rfl
    have hcz22_5 : wr.cell? ⟨gb310, 5, none⟩ = some (.slice A1_5 l1_5.length c1_5) := (blk_cell BK310.out 5).trans rfl
    have hfz22_0 := blk_frozen BK310.out 0
    have hfz22_1 := blk_frozen BK310.out 1
    have hfz22_2 := blk_frozen BK310.out 2
    have hfz22_3 := blk_frozen BK310.out 3
    have hfz22_4 := blk_frozen BK310.out 4
    have hfz22_5 := blk_frozen BK310.out 5
    have p311 : 0 ≤ (x6_2 : Int) := of_decide_eq_true (by (with_reducible assumption))
    have q311 : x6_2 < (l1_5.length : Int) := of_decide_eq_true (by (with_reducible assumption))
    obtain ⟨ad311, A311_0, c311_0, e311, hx311_0, hl311_0, hi311_0⟩ := at_L1 HR1_5.out x6_2 p311 q311
    cases e311
    replace hx311_0 := (HB.out.cell (World.block_lt_of_cell? w _ hx311_0)).trans hx311_0
    have HR311_0 := Aside0.mk hi311_0
    have HC311_0 := Aside0.mk hl311_0
    clear hi311_0 hl311_0
    replace p311 := eq_true p311
    replace q311 := eq_true q311
    go_wp2
    repeat (go_quiet (fail); try go_wp2)
    go_ret
    exact ⟨by rfl, by exact HB.out⟩
   rw [if_neg c20] at H
   have c20b0 : decide (60 < ((rd_L1 l1_5 x6_2).length : Int)) = false := decide_eq_false c20
   have c20b1 : decide (60 < (rd_L1 l1_5 x6_2).length) = false := decide_eq_false (by omega)
   clear c20
   have H' := Aside0.mk H
   clear H
   have hnb23 := NB310_309.out
   have hnc23 := NB309_310.out
   have hcz24_0 : wr.cell? ⟨gb310, 0, none⟩ = some (.int .i64 a1_0) := (blk_cell BK310.out 0).trans rfl
   have hcz24_1 : wr.cell? ⟨gb310, 1, none⟩ = some (.slice A1_1 l1_1.length c1_1) := (blk_cell BK310.out 1).trans rfl
   have hcz24_2 : wr.cell? ⟨gb310, 2, none⟩ = some (.slice A1_2 l1_2.length c1_2) := (blk_cell BK310.out 2).trans rfl
   have hcz24_3 : wr.cell? ⟨gb310, 3, none⟩ = some (.slice A1_3 l1_3.length c1_3) := (blk_cell BK310.out 3).trans rfl
   have hcz24_4 : wr.cell? ⟨gb310, 4, none⟩ = some (.int .i64 a1_4) := (blk_cell BK310.out 4).trans rfl
   have hcz24_5 : wr.cell? ⟨gb310, 5, none⟩ = some (.slice A1_5 l1_5.length c1_5) := (blk_cell BK310.out 5).trans rfl
   have hfz24_0 := blk_frozen BK310.out 0
   have hfz24_1 := blk_frozen BK310.out 1
   have hfz24_2 := blk_frozen BK310.out 2
   have hfz24_3 := blk_frozen BK310.out 3
   have hfz24_4 := blk_frozen BK310.out 4
   have hfz24_5 := blk_frozen BK310.out 5
   have p311 : 0 ≤ (x6_2 : Int) := of_decide_eq_true (by (with_reducible assumption))
   have q311 : x6_2 < (l1_5.length : Int) := of_decide_eq_true (by (with_reducible assumption))
   obtain ⟨ad311, A311_0, c311_0, e311, hx311_0, hl311_0, hi311_0⟩ := at_L1 HR1_5.out x6_2 p311 q311
   cases e311
   replace hx311_0 := (HB.out.cell (World.block_lt_of_cell? w _ hx311_0)).trans hx311_0
   have HR311_0 := Aside0.mk hi311_0
   have HC311_0 := Aside0.mk hl311_0
   clear hi311_0 hl311_0
   replace p311 := eq_true p311
   replace q311 := eq_true q311
   go_wp2
   repeat (go_quiet (fail); try go_wp2)
   go_roundg k2
   case measure => have := HJ2.out; have := HK2.out; omega
   case rel => exact ⟨(wrap64 (x6_2 + 1)), (by rfl), H', ⟨by have := HJ2.out; have := HK2.out; omega⟩, ⟨by exact BK309.out⟩, ⟨by exact BK310.out⟩, ⟨by exact HB.out⟩⟩
  rw [if_neg c19] at H
  exact absurd H (by simp)
 rw [if_neg c18] at H
 have c18b0 : decide (x6_2 < (l1_5.length : Int)) = false := decide_eq_false c18
 clear c18
 replace H := Option.bind_eq_some_iff.mp H
 obtain ⟨t312, A250, H⟩ := H
 replace H : (if t312 = true then (some 2) else ((optimaref3_anyBig.f k2 l1_3).bind fun t313 => (if t313 = true then (some 2) else ((optimaref3_big.f a1_4).bind fun t314 => (optimaref3_conValid.l1 k2 (l1_1.length : Int) t314 0 l0_0 l0_1 a1_0 l1_1 l1_2 l1_3 a1_4 l1_5))))) = some r := H
 have A25 := Aside0.mk A250
 clear A250
 by_cases c26 : t312 = true
 ·subst c26
  have H1 : (some 2) = some r := by rw [if_pos rfl] at H; exact H
  clear H
  have H := H1
  clear H1
  obtain rfl := Option.some.inj H
  have hnb27 := NB310_309.out
  have hnc27 := NB309_310.out
  have hcz28_0 : wr.cell? ⟨gb310, 0, none⟩ = some (.int .i64 a1_0) := (blk_cell BK310.out 0).trans rfl
  have hcz28_1 : wr.cell? ⟨gb310, 1, none⟩ = some (.slice A1_1 l1_1.length c1_1) := (blk_cell BK310.out 1).trans rfl
  have hcz28_2 : wr.cell? ⟨gb310, 2, none⟩ = some (.slice A1_2 l1_2.length c1_2) := (blk_cell BK310.out 2).trans rfl
  have hcz28_3 : wr.cell? ⟨gb310, 3, none⟩ = some (.slice A1_3 l1_3.length c1_3) := (blk_cell BK310.out 3).trans rfl
  have hcz28_4 : wr.cell? ⟨gb310, 4, none⟩ = some (.int .i64 a1_4) := (blk_cell BK310.out 4).trans rfl
  have hcz28_5 : wr.cell? ⟨gb310, 5, none⟩ = some (.slice A1_5 l1_5.length c1_5) := (blk_cell BK310.out 5).trans rfl
  have hfz28_0 := blk_frozen BK310.out 0
  have hfz28_1 := blk_frozen BK310.out 1
  have hfz28_2 := blk_frozen BK310.out 2
  have hfz28_3 := blk_frozen BK310.out 3
  have hfz28_4 := blk_frozen BK310.out 4
  have hfz28_5 := blk_frozen BK310.out 5
  go_wp2_with ((go_at_call 33; (with_reducible refine (optimaref3_anyBig.calls k2 _ _ l1_2 true _ ?side1 ?side2 A25.out).mono ?_); (case side1 => repeat (exact (Kd.C_below HR1_2.out HB.out))); (case side2 => exact HC1_2.out); rintro e w' ⟨rfl, ⟨nd, rfl⟩⟩; (try fail)))
  repeat (go_quiet (fail); try go_wp2_with (fail))
  go_ret
  exact ⟨by rfl, by repeat ((with_reducible first | exact HB.out | apply pw_below_drewN))⟩
 replace c26 := Bool.eq_false_iff.mpr c26
 subst c26
 have H1 : ((optimaref3_anyBig.f k2 l1_3).bind fun t313 => (if t313 = true then (some 2) else ((optimaref3_big.f a1_4).bind fun t314 => (optimaref3_conValid.l1 k2 (l1_1.length : Int) t314 0 l0_0 l0_1 a1_0 l1_1 l1_2 l1_3 a1_4 l1_5)))) = some r := by rw [if_neg (show ¬ (false = true) by decide)] at H; exact H
 clear H
 have H := H1
 clear H1
 replace H := Option.bind_eq_some_iff.mp H
 obtain ⟨t313, A290, H⟩ := H
 replace H : (if t313 = true then (some 2) else ((optimaref3_big.f a1_4).bind fun t314 => (optimaref3_conValid.l1 k2 (l1_1.length : Int) t314 0 l0_0 l0_1 a1_0 l1_1 l1_2 l1_3 a1_4 l1_5))) = some r := H
 have A29 := Aside0.mk A290
 clear A290
 by_cases c30 : t313 = true
 ·subst c30
  have H1 : (some 2) = some r := by rw [if_pos rfl] at H; exact H
  clear H
  have H := H1
  clear H1
  obtain rfl := Option.some.inj H
  have hnb31 := NB310_309.out
  have hnc31 := NB309_310.out
  have hcz32_0 : wr.cell? ⟨gb310, 0, none⟩ = some (.int .i64 a1_0) := (blk_cell BK310.out 0).trans rfl
  have hcz32_1 : wr.cell? ⟨gb310, 1, none⟩ = some (.slice A1_1 l1_1.length c1_1) := (blk_cell BK310.out 1).trans rfl
  have hcz32_2 : wr.cell? ⟨gb310, 2, none⟩ = some (.slice A1_2 l1_2.length c1_2) := (blk_cell BK310.out 2).trans rfl
  have hcz32_3 : wr.cell? ⟨gb310, 3, none⟩ = some (.slice A1_3 l1_3.length c1_3) := (blk_cell BK310.out 3).trans rfl
  have hcz32_4 : wr.cell? ⟨gb310, 4, none⟩ = some (.int .i64 a1_4) := (blk_cell BK310.out 4).trans rfl
  have hcz32_5 : wr.cell? ⟨gb310, 5, none⟩ = some (.slice A1_5 l1_5.length c1_5) := (blk_cell BK310.out 5).trans rfl
  have hfz32_0 := blk_frozen BK310.out 0
  have hfz32_1 := blk_frozen BK310.out 1
  have hfz32_2 := blk_frozen BK310.out 2
  have hfz32_3 := blk_frozen BK310.out 3
  have hfz32_4 := blk_frozen BK310.out 4
  have hfz32_5 := blk_frozen BK310.out 5
  go_wp2_with (first | (go_at_call 33; (with_reducible refine (optimaref3_anyBig.calls k2 _ _ l1_2 false _ ?side1 ?side2 A25.out).mono ?_); (case side1 => repeat (exact (Kd.C_below HR1_2.out HB.out))); (case side2 => exact HC1_2.out); rintro e w' ⟨rfl, ⟨nd, rfl⟩⟩; (try fail)) | (go_at_call 33; (with_reducible refine (optimaref3_anyBig.calls k2 _ _ l1_3 true _ ?side1 ?side2 A29.out).mono ?_); (case side1 => repeat (exact (Kd.C_below HR1_3.out (by repeat ((with_reducible first | exact HB.out | apply pw_below_drewN)))))); (case side2 => exact HC1_3.out); rintro e w' ⟨rfl, ⟨nd, rfl⟩⟩; (try fail)))
  repeat (go_quiet (fail); try go_wp2_with (fail))
  go_ret
  exact ⟨by rfl, by repeat ((with_reducible first | exact HB.out | apply pw_below_drewN))⟩
 replace c30 := Bool.eq_false_iff.mpr c30
 subst c30
 have H1 : ((optimaref3_big.f a1_4).bind fun t314 => (optimaref3_conValid.l1 k2 (l1_1.length : Int) t314 0 l0_0 l0_1 a1_0 l1_1 l1_2 l1_3 a1_4 l1_5)) = some r := by rw [if_neg (show ¬ (false = true) by decide)] at H; exact H
 clear H
 have H := H1
 clear H1
 replace H := Option.bind_eq_some_iff.mp H
 obtain ⟨t314, A330, H⟩ := H
 replace H : (optimaref3_conValid.l1 k2 (l1_1.length : Int) t314 0 l0_0 l0_1 a1_0 l1_1 l1_2 l1_3 a1_4 l1_5) = some r := H
 have A33 := Aside0.mk A330
 clear A330
 have HC34 := Aside0.mk H
 clear H
 have hnb35 := NB310_309.out
 have hnc35 := NB309_310.out
 have hcz36_0 : wr.cell? ⟨gb310, 0, none⟩ = some (.int .i64 a1_0) := (blk_cell BK310.out 0).trans rfl
 have hcz36_1 : wr.cell? ⟨gb310, 1, none⟩ = some (.slice A1_1 l1_1.length c1_1) := (blk_cell BK310.out 1).trans rfl
 have hcz36_2 : wr.cell? ⟨gb310, 2, none⟩ = some (.slice A1_2 l1_2.length c1_2) := (blk_cell BK310.out 2).trans rfl
 have hcz36_3 : wr.cell? ⟨gb310, 3, none⟩ = some (.slice A1_3 l1_3.length c1_3) := (blk_cell BK310.out 3).trans rfl
 have hcz36_4 : wr.cell? ⟨gb310, 4, none⟩ = some (.int .i64 a1_4) := (blk_cell BK310.out 4).trans rfl
 have hcz36_5 : wr.cell? ⟨gb310, 5, none⟩ = some (.slice A1_5 l1_5.length c1_5) := (blk_cell BK310.out 5).trans rfl
 have hfz36_0 := blk_frozen BK310.out 0
 have hfz36_1 := blk_frozen BK310.out 1
 have hfz36_2 := blk_frozen BK310.out 2
 have hfz36_3 := blk_frozen BK310.out 3
 have hfz36_4 := blk_frozen BK310.out 4
 have hfz36_5 := blk_frozen BK310.out 5
 go_upto_block 2 with (first | (go_at_call 33; (with_reducible refine (optimaref3_anyBig.calls k2 _ _ l1_2 false _ ?side1 ?side2 A25.out).mono ?_); (case side1 => repeat (exact (Kd.C_below HR1_2.out HB.out))); (case side2 => exact HC1_2.out); rintro e w' ⟨rfl, ⟨nd, rfl⟩⟩; (try fail)) | (go_at_call 33; (with_reducible refine (optimaref3_anyBig.calls k2 _ _ l1_3 false _ ?side1 ?side2 A29.out).mono ?_); (case side1 => repeat (exact (Kd.C_below HR1_3.out (by repeat ((with_reducible first | exact HB.out | apply pw_below_drewN)))))); (case side2 => exact HC1_3.out); rintro e w' ⟨rfl, ⟨nd, rfl⟩⟩; (try fail)) | (go_at_call 17; (with_reducible refine (optimaref3_big.calls a1_4 t314 _ A33.out).mono ?_); rintro e w' ⟨rfl, ⟨nd, rfl⟩⟩; (try fail)))
 repeat (go_quiet (fail); go_upto_block 2 with (fail))
 (try simp only [Act.put, List.setIfInBounds_toArray, List.set_cons_zero, List.set_cons_succ])
 go_cut [7] (fun v7 wc => ∃ (kq : Nat) (x7_33 : Bool), v7 = .bool x7_33 ∧ Aside0 (optimaref3_conValid.j3 kq (l1_1.length : Int) x7_33 l0_0 l0_1 a1_0 l1_1 l1_2 l1_3 a1_4 l1_5 = some r) ∧ Aside0 (kq ≤ k2) ∧ Aside0 (wc.heap[gb309]? = some (.cells #[(.slice A0_0 l0_0.length c0_0), (.slice A0_1 l0_1.length c0_1)] 25 (0, 0))) ∧ Aside0 (wc.heap[gb310]? = some (.cells #[.int .i64 a1_0, (.slice A1_1 l1_1.length c1_1), (.slice A1_2 l1_2.length c1_2), (.slice A1_3 l1_3.length c1_3), .int .i64 a1_4, (.slice A1_5 l1_5.length c1_5)] 44 (0, 0))) ∧ Aside0 (Below w.heap.size w wc))
 case first =>
  have H := HC34.out
  clear HC34
  have H' := Aside0.mk H
  clear H
  go_wp2
  repeat (go_quiet (fail); try go_wp2)
  go_loopg [7, 8] k2 (fun kq v7 v8 w' => ∃ (x7_3 : Bool) (x8_3 : Int), v7 = .bool x7_3 ∧ v8 = .int .i64 x8_3 ∧ Aside0 (optimaref3_conValid.l1 kq (l1_1.length : Int) x7_3 x8_3 l0_0 l0_1 a1_0 l1_1 l1_2 l1_3 a1_4 l1_5 = some r) ∧ Aside0 (kq ≤ k2) ∧ Aside0 (w'.heap[gb309]? = some (.cells #[(.slice A0_0 l0_0.length c0_0), (.slice A0_1 l0_1.length c0_1)] 25 (0, 0))) ∧ Aside0 (w'.heap[gb310]? = some (.cells #[.int .i64 a1_0, (.slice A1_1 l1_1.length c1_1), (.slice A1_2 l1_2.length c1_2), (.slice A1_3 l1_3.length c1_3), .int .i64 a1_4, (.slice A1_5 l1_5.length c1_5)] 44 (0, 0))) ∧ Aside0 (Below w.heap.size w w'))
  case atStart => exact ⟨(t314), (0), (by rfl), (by rfl), H', ⟨Nat.le_refl _⟩, ⟨by (with_reducible repeat (refine blk_drewN ?_ _)); exact BK309.out⟩, ⟨by (with_reducible repeat (refine blk_drewN ?_ _)); exact BK310.out⟩, ⟨by repeat ((with_reducible first | exact HB.out | apply pw_below_drewN))⟩⟩
  clear H'
  try clear c1
  try clear c2
  try clear p2
  try clear c3
  try clear p3
  try clear q3
  try clear hx3
  try clear c6
  try clear p6
  try clear c8
  try clear c8b0
  try clear c8b1
  try clear c9
  try clear c9b0
  try clear c9b1
  try clear c10
  try clear c12
  try clear c12b0
  try clear c12b1
  try clear c13
  try clear c15
  try clear c17
  try clear c18
  try clear c18b0
  try clear c19
  try clear c19b0
  try clear c20
  try clear c20b0
  try clear c20b1
  try clear c21
  try clear c23
  try clear c26
  try clear c27
  try clear c30
  try clear c31
  try clear p31
  try clear q31
  try clear hx31
  try clear c35
  try clear hcz11_0
  try clear hcz11_1
  try clear hcz11_2
  try clear hcz11_3
  try clear hcz11_4
  try clear hcz11_5
  try clear hcz14_0
  try clear hcz14_1
  try clear hcz14_2
  try clear hcz14_3
  try clear hcz14_4
  try clear hcz14_5
  try clear hcz16_0
  try clear hcz16_1
  try clear hcz16_2
  try clear hcz16_3
  try clear hcz16_4
  try clear hcz16_5
  try clear hcz22_0
  try clear hcz22_1
  try clear hcz22_2
  try clear hcz22_3
  try clear hcz22_4
  try clear hcz22_5
  try clear hcz24_0
  try clear hcz24_1
  try clear hcz24_2
  try clear hcz24_3
  try clear hcz24_4
  try clear hcz24_5
  try clear hcz28_0
  try clear hcz28_1
  try clear hcz28_2
  try clear hcz28_3
  try clear hcz28_4
  try clear hcz28_5
  try clear hcz32_0
  try clear hcz32_1
  try clear hcz32_2
  try clear hcz32_3
  try clear hcz32_4
  try clear hcz32_5
  try clear hcz36_0
  try clear hcz36_1
  try clear hcz36_2
  try clear hcz36_3
  try clear hcz36_4
  try clear hcz36_5
  try clear hcz7_0
  try clear hcz7_1
  try clear hcz7_2
  try clear hcz7_3
  try clear hcz7_4
  try clear hcz7_5
  try clear hfz11_0
  try clear hfz11_1
  try clear hfz11_2
  try clear hfz11_3
  try clear hfz11_4
  try clear hfz11_5
  try clear hfz14_0
  try clear hfz14_1
  try clear hfz14_2
  try clear hfz14_3
  try clear hfz14_4
  try clear hfz14_5
  try clear hfz16_0
  try clear hfz16_1
  try clear hfz16_2
  try clear hfz16_3
  try clear hfz16_4
  try clear hfz16_5
  try clear hfz22_0
  try clear hfz22_1
  try clear hfz22_2
  try clear hfz22_3
  try clear hfz22_4
  try clear hfz22_5
  try clear hfz24_0
  try clear hfz24_1
  try clear hfz24_2
  try clear hfz24_3
  try clear hfz24_4
  try clear hfz24_5
  try clear hfz28_0
  try clear hfz28_1
  try clear hfz28_2
  try clear hfz28_3
  try clear hfz28_4
  try clear hfz28_5
  try clear hfz32_0
  try clear hfz32_1
  try clear hfz32_2
  try clear hfz32_3
  try clear hfz32_4
  try clear hfz32_5
  try clear hfz36_0
  try clear hfz36_1
  try clear hfz36_2
  try clear hfz36_3
  try clear hfz36_4
  try clear hfz36_5
  try clear hfz7_0
  try clear hfz7_1
  try clear hfz7_2
  try clear hfz7_3
  try clear hfz7_4
  try clear hfz7_5
  try clear hx311_0
  try clear p2
  try clear p311
  try clear q311
  obtain ⟨x7_3, x8_3, rfl, rfl, HA, HK3, BK309, BK310, HB⟩ := hrel
  rcases gk with _ | k3
  ·exact absurd HA.out (by simp [optimaref3_conValid.l1])
  have H := HA.out
  clear HA
  simp only [optimaref3_conValid.l1] at H
  by_cases c37 : x8_3 < (l1_5.length : Int)
  ·rw [if_pos c37] at H
   have c37b0 : decide (x8_3 < (l1_5.length : Int)) = true := decide_eq_true c37
   clear c37
   (skip)
   by_cases c38 : x7_3 = true
   ·subst c38
    have H1 : (optimaref3_conValid.j3 k3 (l1_1.length : Int) true l0_0 l0_1 a1_0 l1_1 l1_2 l1_3 a1_4 l1_5) = some r := by rw [if_pos rfl] at H; exact H
    clear H
    have H := H1
    clear H1
    have H' := Aside0.mk H
    clear H
    have hnb39 := NB310_309.out
    have hnc39 := NB309_310.out
    have hcz40_0 : wr.cell? ⟨gb310, 0, none⟩ = some (.int .i64 a1_0) := (blk_cell BK310.out 0).trans rfl
    have hcz40_1 : wr.cell? ⟨gb310, 1, none⟩ = some (.slice A1_1 l1_1.length c1_1) := (blk_cell BK310.out 1).trans rfl
    have hcz40_2 : wr.cell? ⟨gb310, 2, none⟩ = some (.slice A1_2 l1_2.length c1_2) := (blk_cell BK310.out 2).trans rfl
    have hcz40_3 : wr.cell? ⟨gb310, 3, none⟩ = some (.slice A1_3 l1_3.length c1_3) := (blk_cell BK310.out 3).trans rfl
    have hcz40_4 : wr.cell? ⟨gb310, 4, none⟩ = some (.int .i64 a1_4) := (blk_cell BK310.out 4).trans rfl
    have hcz40_5 : wr.cell? ⟨gb310, 5, none⟩ = some (.slice A1_5 l1_5.length c1_5) := (blk_cell BK310.out 5).trans rfl
    have hfz40_0 := blk_frozen BK310.out 0
    have hfz40_1 := blk_frozen BK310.out 1
    have hfz40_2 := blk_frozen BK310.out 2
    have hfz40_3 := blk_frozen BK310.out 3
    have hfz40_4 := blk_frozen BK310.out 4
    have hfz40_5 := blk_frozen BK310.out 5
    go_wp2
    repeat (go_quiet (fail); try go_wp2)
    go_meet
    case rel => exact ⟨_, (true), (by rfl), H', ⟨by have := HJ2.out; have := HK2.out; have := HK3.out; omega⟩, ⟨by exact BK309.out⟩, ⟨by exact BK310.out⟩, ⟨by exact HB.out⟩⟩
   replace c38 := Bool.eq_false_iff.mpr c38
   subst c38
   have H1 : (if 0 ≤ x8_3 then ((optimaref3_anyBig.f k3 (rd_L1 l1_5 x8_3)).bind fun t316 => (optimaref3_conValid.l1 k3 (l1_1.length : Int) t316 (wrap64 (x8_3 + 1)) l0_0 l0_1 a1_0 l1_1 l1_2 l1_3 a1_4 l1_5)) else (none)) = some r := by rw [if_neg (show ¬ (false = true) by decide)] at H; exact H
   clear H
   have H := H1
   clear H1
   by_cases c41 : 0 ≤ x8_3
   ·rw [if_pos c41] at H
    have c41b0 : decide (0 ≤ x8_3) = true := decide_eq_true c41
    clear c41
    replace H := Option.bind_eq_some_iff.mp H
    obtain ⟨t316, A420, H⟩ := H
    replace H : (optimaref3_conValid.l1 k3 (l1_1.length : Int) t316 (wrap64 (x8_3 + 1)) l0_0 l0_1 a1_0 l1_1 l1_2 l1_3 a1_4 l1_5) = some r := H
    have A42 := Aside0.mk A420
    clear A420
    have H' := Aside0.mk H
    clear H
    have hnb43 := NB310_309.out
    have hnc43 := NB309_310.out
    have hcz44_0 : wr.cell? ⟨gb310, 0, none⟩ = some (.int .i64 a1_0) := (blk_cell BK310.out 0).trans rfl
    have hcz44_1 : wr.cell? ⟨gb310, 1, none⟩ = some (.slice A1_1 l1_1.length c1_1) := (blk_cell BK310.out 1).trans rfl
    have hcz44_2 : wr.cell? ⟨gb310, 2, none⟩ = some (.slice A1_2 l1_2.length c1_2) := (blk_cell BK310.out 2).trans rfl
    have hcz44_3 : wr.cell? ⟨gb310, 3, none⟩ = some (.slice A1_3 l1_3.length c1_3) := (blk_cell BK310.out 3).trans rfl
    have hcz44_4 : wr.cell? ⟨gb310, 4, none⟩ = some (.int .i64 a1_4) := (blk_cell BK310.out 4).trans rfl
    have hcz44_5 : wr.cell? ⟨gb310, 5, none⟩ = some (.slice A1_5 l1_5.length c1_5) := (blk_cell BK310.out 5).trans rfl
    have hfz44_0 := blk_frozen BK310.out 0
    have hfz44_1 := blk_frozen BK310.out 1
    have hfz44_2 := blk_frozen BK310.out 2
    have hfz44_3 := blk_frozen BK310.out 3
    have hfz44_4 := blk_frozen BK310.out 4
    have hfz44_5 := blk_frozen BK310.out 5
    have p315 : 0 ≤ (x8_3 : Int) := of_decide_eq_true (by (with_reducible assumption))
    have q315 : x8_3 < (l1_5.length : Int) := of_decide_eq_true (by (with_reducible assumption))
    obtain ⟨ad315, A315_0, c315_0, e315, hx315_0, hl315_0, hi315_0⟩ := at_L1 HR1_5.out x8_3 p315 q315
    cases e315
    replace hx315_0 := (HB.out.cell (World.block_lt_of_cell? w _ hx315_0)).trans hx315_0
    have HR315_0 := Aside0.mk hi315_0
    have HC315_0 := Aside0.mk hl315_0
    clear hi315_0 hl315_0
    replace p315 := eq_true p315
    replace q315 := eq_true q315
    go_wp2_with ((go_at_call 33; (with_reducible refine (optimaref3_anyBig.calls k3 _ _ (rd_L1 l1_5 x8_3) t316 _ ?side1 ?side2 A42.out).mono ?_); (case side1 => repeat (exact (Kd.C_below HR315_0.out HB.out))); (case side2 => exact HC315_0.out); rintro e w' ⟨rfl, ⟨nd, rfl⟩⟩; (try fail)))
    repeat (go_quiet (fail); try go_wp2_with (fail))
    go_roundg k3
    case measure => have := HJ2.out; have := HK2.out; have := HK3.out; omega
    case rel => exact ⟨(t316), (wrap64 (x8_3 + 1)), (by rfl), (by rfl), H', ⟨by have := HJ2.out; have := HK2.out; have := HK3.out; omega⟩, ⟨by (with_reducible repeat (refine blk_drewN ?_ _)); exact BK309.out⟩, ⟨by (with_reducible repeat (refine blk_drewN ?_ _)); exact BK310.out⟩, ⟨by repeat ((with_reducible first | exact HB.out | apply pw_below_drewN))⟩⟩
   rw [if_neg c41] at H
   exact absurd H (by simp)
  rw [if_neg c37] at H
  have c37b0 : decide (x8_3 < (l1_5.length : Int)) = false := decide_eq_false c37
  clear c37
  (skip)
  have H' := Aside0.mk H
  clear H
  have hnb45 := NB310_309.out
  have hnc45 := NB309_310.out
  have hcz46_0 : wr.cell? ⟨gb310, 0, none⟩ = some (.int .i64 a1_0) := (blk_cell BK310.out 0).trans rfl
  have hcz46_1 : wr.cell? ⟨gb310, 1, none⟩ = some (.slice A1_1 l1_1.length c1_1) := (blk_cell BK310.out 1).trans rfl
  have hcz46_2 : wr.cell? ⟨gb310, 2, none⟩ = some (.slice A1_2 l1_2.length c1_2) := (blk_cell BK310.out 2).trans rfl
  have hcz46_3 : wr.cell? ⟨gb310, 3, none⟩ = some (.slice A1_3 l1_3.length c1_3) := (blk_cell BK310.out 3).trans rfl
  have hcz46_4 : wr.cell? ⟨gb310, 4, none⟩ = some (.int .i64 a1_4) := (blk_cell BK310.out 4).trans rfl
  have hcz46_5 : wr.cell? ⟨gb310, 5, none⟩ = some (.slice A1_5 l1_5.length c1_5) := (blk_cell BK310.out 5).trans rfl
  have hfz46_0 := blk_frozen BK310.out 0
  have hfz46_1 := blk_frozen BK310.out 1
  have hfz46_2 := blk_frozen BK310.out 2
  have hfz46_3 := blk_frozen BK310.out 3
  have hfz46_4 := blk_frozen BK310.out 4
  have hfz46_5 := blk_frozen BK310.out 5
  go_wp2
  repeat (go_quiet (fail); try go_wp2)
  go_meet
  case rel => exact ⟨_, (x7_3), (by rfl), H', ⟨by have := HJ2.out; have := HK2.out; have := HK3.out; omega⟩, ⟨by exact BK309.out⟩, ⟨by exact BK310.out⟩, ⟨by exact HB.out⟩⟩
 clear HC34
 try clear c1
 try clear c2
 try clear p2
 try clear c3
 try clear p3
 try clear q3
 try clear hx3
 try clear c4
 try clear c6
 try clear p6
 try clear c8
 try clear c8b0
 try clear c8b1
 try clear c9
 try clear c9b0
 try clear c9b1
 try clear c10
 try clear c12
 try clear c12b0
 try clear c12b1
 try clear c13
 try clear c15
 try clear c17
 try clear c18
 try clear c18b0
 try clear c19
 try clear c19b0
 try clear c20
 try clear c20b0
 try clear c20b1
 try clear c21
 try clear c23
 try clear c26
 try clear c27
 try clear c30
 try clear c31
 try clear p31
 try clear q31
 try clear hx31
 try clear c35
 try clear c37
 try clear c37b0
 try clear c38
 try clear c39
 try clear c41
 try clear c41b0
 try clear c43
 try clear c45
 try clear hcz11_0
 try clear hcz11_1
 try clear hcz11_2
 try clear hcz11_3
 try clear hcz11_4
 try clear hcz11_5
 try clear hcz14_0
 try clear hcz14_1
 try clear hcz14_2
 try clear hcz14_3
 try clear hcz14_4
 try clear hcz14_5
 try clear hcz16_0
 try clear hcz16_1
 try clear hcz16_2
 try clear hcz16_3
 try clear hcz16_4
 try clear hcz16_5
 try clear hcz22_0
 try clear hcz22_1
 try clear hcz22_2
 try clear hcz22_3
 try clear hcz22_4
 try clear hcz22_5
 try clear hcz24_0
 try clear hcz24_1
 try clear hcz24_2
 try clear hcz24_3
 try clear hcz24_4
 try clear hcz24_5
 try clear hcz28_0
 try clear hcz28_1
 try clear hcz28_2
 try clear hcz28_3
 try clear hcz28_4
 try clear hcz28_5
 try clear hcz32_0
 try clear hcz32_1
 try clear hcz32_2
 try clear hcz32_3
 try clear hcz32_4
 try clear hcz32_5
 try clear hcz36_0
 try clear hcz36_1
 try clear hcz36_2
 try clear hcz36_3
 try clear hcz36_4
 try clear hcz36_5
 try clear hcz40_0
 try clear hcz40_1
 try clear hcz40_2
 try clear hcz40_3
 try clear hcz40_4
 try clear hcz40_5
 try clear hcz44_0
 try clear hcz44_1
 try clear hcz44_2
 try clear hcz44_3
 try clear hcz44_4
 try clear hcz44_5
 try clear hcz46_0
 try clear hcz46_1
 try clear hcz46_2
 try clear hcz46_3
 try clear hcz46_4
 try clear hcz46_5
 try clear hcz7_0
 try clear hcz7_1
 try clear hcz7_2
 try clear hcz7_3
 try clear hcz7_4
 try clear hcz7_5
 try clear hfz11_0
 try clear hfz11_1
 try clear hfz11_2
 try clear hfz11_3
 try clear hfz11_4
 try clear hfz11_5
 try clear hfz14_0
 try clear hfz14_1
 try clear hfz14_2
 try clear hfz14_3
 try clear hfz14_4
 try clear hfz14_5
 try clear hfz16_0
 try clear hfz16_1
 try clear hfz16_2
 try clear hfz16_3
 try clear hfz16_4
 try clear hfz16_5
 try clear hfz22_0
 try clear hfz22_1
 try clear hfz22_2
 try clear hfz22_3
 try clear hfz22_4
 try clear hfz22_5
 try clear hfz24_0
 try clear hfz24_1
 try clear hfz24_2
 try clear hfz24_3
 try clear hfz24_4
 try clear hfz24_5
 try clear hfz28_0
 try clear hfz28_1
 try clear hfz28_2
 try clear hfz28_3
 try clear hfz28_4
 try clear hfz28_5
 try clear hfz32_0
 try clear hfz32_1
 try clear hfz32_2
 try clear hfz32_3
 try clear hfz32_4
 try clear hfz32_5
 try clear hfz36_0
 try clear hfz36_1
 try clear hfz36_2
 try clear hfz36_3
 try clear hfz36_4
 try clear hfz36_5
 try clear hfz40_0
 try clear hfz40_1
 try clear hfz40_2
 try clear hfz40_3
 try clear hfz40_4
 try clear hfz40_5
 try clear hfz44_0
 try clear hfz44_1
 try clear hfz44_2
 try clear hfz44_3
 try clear hfz44_4
 try clear hfz44_5
 try clear hfz46_0
 try clear hfz46_1
 try clear hfz46_2
 try clear hfz46_3
 try clear hfz46_4
 try clear hfz46_5
 try clear hfz7_0
 try clear hfz7_1
 try clear hfz7_2
 try clear hfz7_3
 try clear hfz7_4
 try clear hfz7_5
 try clear hx311_0
 try clear hx315_0
 try clear p2
 try clear p3
 try clear p31
 try clear p311
 try clear p315
 try clear p6
 try clear q3
 try clear q31
 try clear q311
 try clear q315
 obtain ⟨kq, x7_33, rfl, HA, HJ33, BK309, BK310, HB⟩ := hcut
 rcases kq with _ | kj33
 ·exact absurd HA.out (by simp [optimaref3_conValid.j3])
 have H := HA.out
 clear HA
 simp only [optimaref3_conValid.j3] at H
 by_cases c47 : x7_33 = true
 ·subst c47
  have H1 : (some 2) = some r := by rw [if_pos rfl] at H; exact H
  clear H
  have H := H1
  clear H1
  obtain rfl := Option.some.inj H
  go_wp2
  repeat (go_quiet (fail); try go_wp2)
  go_ret
  exact ⟨by rfl, by exact HB.out⟩
 replace c47 := Bool.eq_false_iff.mpr c47
 subst c47
 have H1 : (optimaref3_conValid.l2 kj33 (l1_1.length : Int) 0 l0_0 l0_1 a1_0 l1_1 l1_2 l1_3 a1_4 l1_5) = some r := by rw [if_neg (show ¬ (false = true) by decide)] at H; exact H
 clear H
 have H := H1
 clear H1
 have H' := Aside0.mk H
 clear H
 go_wp2
 repeat (go_quiet (fail); try go_wp2)
 go_loopg [9] kj33 (fun kq v9 w' => ∃ (x9_4 : Int), v9 = .int .i64 x9_4 ∧ Aside0 (optimaref3_conValid.l2 kq (l1_1.length : Int) x9_4 l0_0 l0_1 a1_0 l1_1 l1_2 l1_3 a1_4 l1_5 = some r) ∧ Aside0 (kq ≤ kj33) ∧ Aside0 (w'.heap[gb309]? = some (.cells #[(.slice A0_0 l0_0.length c0_0), (.slice A0_1 l0_1.length c0_1)] 25 (0, 0))) ∧ Aside0 (w'.heap[gb310]? = some (.cells #[.int .i64 a1_0, (.slice A1_1 l1_1.length c1_1), (.slice A1_2 l1_2.length c1_2), (.slice A1_3 l1_3.length c1_3), .int .i64 a1_4, (.slice A1_5 l1_5.length c1_5)] 44 (0, 0))) ∧ Aside0 (Below w.heap.size w w'))
 case atStart => exact ⟨(0), (by rfl), H', ⟨Nat.le_refl _⟩, ⟨by exact BK309.out⟩, ⟨by exact BK310.out⟩, ⟨by exact HB.out⟩⟩
 clear H'
 try clear c1
 try clear c2
 try clear p2
 try clear c3
 try clear p3
 try clear q3
 try clear hx3
 try clear c4
 try clear c6
 try clear p6
 try clear c8
 try clear c8b0
 try clear c8b1
 try clear c9
 try clear c9b0
 try clear c9b1
 try clear c10
 try clear c12
 try clear c12b0
 try clear c12b1
 try clear c13
 try clear c15
 try clear c17
 try clear c18
 try clear c18b0
 try clear c19
 try clear c19b0
 try clear c20
 try clear c20b0
 try clear c20b1
 try clear c21
 try clear c23
 try clear c26
 try clear c27
 try clear c30
 try clear c31
 try clear p31
 try clear q31
 try clear hx31
 try clear c35
 try clear c37
 try clear c37b0
 try clear c38
 try clear c39
 try clear c41
 try clear c41b0
 try clear c43
 try clear c45
 try clear c47
 try clear hcz11_0
 try clear hcz11_1
 try clear hcz11_2
 try clear hcz11_3
 try clear hcz11_4
 try clear hcz11_5
 try clear hcz14_0
 try clear hcz14_1
 try clear hcz14_2
 try clear hcz14_3
 try clear hcz14_4
 try clear hcz14_5
 try clear hcz16_0
 try clear hcz16_1
 try clear hcz16_2
 try clear hcz16_3
 try clear hcz16_4
 try clear hcz16_5
 try clear hcz22_0
 try clear hcz22_1
 try clear hcz22_2
 try clear hcz22_3
 try clear hcz22_4
 try clear hcz22_5
 try clear hcz24_0
 try clear hcz24_1
 try clear hcz24_2
 try clear hcz24_3
 try clear hcz24_4
 try clear hcz24_5
 try clear hcz28_0
 try clear hcz28_1
 try clear hcz28_2
 try clear hcz28_3
 try clear hcz28_4
 try clear hcz28_5
 try clear hcz32_0
 try clear hcz32_1
 try clear hcz32_2
 try clear hcz32_3
 try clear hcz32_4
 try clear hcz32_5
 try clear hcz36_0
 try clear hcz36_1
 try clear hcz36_2
 try clear hcz36_3
 try clear hcz36_4
 try clear hcz36_5
 try clear hcz40_0
 try clear hcz40_1
 try clear hcz40_2
 try clear hcz40_3
 try clear hcz40_4
 try clear hcz40_5
 try clear hcz44_0
 try clear hcz44_1
 try clear hcz44_2
 try clear hcz44_3
 try clear hcz44_4
 try clear hcz44_5
 try clear hcz46_0
 try clear hcz46_1
 try clear hcz46_2
 try clear hcz46_3
 try clear hcz46_4
 try clear hcz46_5
 try clear hcz7_0
 try clear hcz7_1
 try clear hcz7_2
 try clear hcz7_3
 try clear hcz7_4
 try clear hcz7_5
 try clear hfz11_0
 try clear hfz11_1
 try clear hfz11_2
 try clear hfz11_3
 try clear hfz11_4
 try clear hfz11_5
 try clear hfz14_0
 try clear hfz14_1
 try clear hfz14_2
 try clear hfz14_3
 try clear hfz14_4
 try clear hfz14_5
 try clear hfz16_0
 try clear hfz16_1
 try clear hfz16_2
 try clear hfz16_3
 try clear hfz16_4
 try clear hfz16_5
 try clear hfz22_0
 try clear hfz22_1
 try clear hfz22_2
 try clear hfz22_3
 try clear hfz22_4
 try clear hfz22_5
 try clear hfz24_0
 try clear hfz24_1
 try clear hfz24_2
 try clear hfz24_3
 try clear hfz24_4
 try clear hfz24_5
 try clear hfz28_0
 try clear hfz28_1
 try clear hfz28_2
 try clear hfz28_3
 try clear hfz28_4
 try clear hfz28_5
 try clear hfz32_0
 try clear hfz32_1
 try clear hfz32_2
 try clear hfz32_3
 try clear hfz32_4
 try clear hfz32_5
 try clear hfz36_0
 try clear hfz36_1
 try clear hfz36_2
 try clear hfz36_3
 try clear hfz36_4
 try clear hfz36_5
 try clear hfz40_0
 try clear hfz40_1
 try clear hfz40_2
 try clear hfz40_3
 try clear hfz40_4
 try clear hfz40_5
 try clear hfz44_0
 try clear hfz44_1
 try clear hfz44_2
 try clear hfz44_3
 try clear hfz44_4
 try clear hfz44_5
 try clear hfz46_0
 try clear hfz46_1
 try clear hfz46_2
 try clear hfz46_3
 try clear hfz46_4
 try clear hfz46_5
 try clear hfz7_0
 try clear hfz7_1
 try clear hfz7_2
 try clear hfz7_3
 try clear hfz7_4
 try clear hfz7_5
 try clear hx311_0
 try clear hx315_0
 try clear p2
 try clear p3
 try clear p31
 try clear p311
 try clear p315
 try clear p6
 try clear q3
 try clear q31
 try clear q311
 try clear q315
 obtain ⟨x9_4, rfl, HA, HK4, BK309, BK310, HB⟩ := hrel
 rcases gk with _ | k4
 ·exact absurd HA.out (by simp [optimaref3_conValid.l2])
 have H := HA.out
 clear HA
 simp only [optimaref3_conValid.l2] at H
 by_cases c48 : x9_4 < (l1_1.length : Int)
 ·rw [if_pos c48] at H
  have c48b0 : decide (x9_4 < (l1_1.length : Int)) = true := decide_eq_true c48
  clear c48
  by_cases c49 : 0 ≤ x9_4
  ·rw [if_pos c49] at H
   have c49b0 : decide (0 ≤ x9_4) = true := decide_eq_true c49
   clear c49
   by_cases c50 : x9_4 < (l1_1.length : Int)
   ·rw [if_pos c50] at H
    have c50b0 : decide (x9_4 < (l1_1.length : Int)) = true := decide_eq_true c50
    clear c50
    by_cases c51 : (rd l1_1 x9_4) < 0
    ·rw [if_pos c51] at H
     have c51b0 : decide ((rd l1_1 x9_4) < 0) = true := decide_eq_true c51
     clear c51
     obtain rfl := Option.some.inj H
     have hnb52 := NB310_309.out
     have hnc52 := NB309_310.out
     have hcz53_0 : wr.cell? ⟨gb310, 0, none⟩ = some (.int .i64 a1_0) := (blk_cell BK310.out 0).trans rfl
     have hcz53_1 : wr.cell? ⟨gb310, 1, none⟩ = some (.slice A1_1 l1_1.length c1_1) := (blk_cell BK310.out 1).trans rfl
     have hcz53_2 : wr.cell? ⟨gb310, 2, none⟩ = some (.slice A1_2 l1_2.length c1_2) := (blk_cell BK310.out 2).trans rfl
     have hcz53_3 : wr.cell? ⟨gb310, 3, none⟩ = some (.slice A1_3 l1_3.length c1_3) := (blk_cell BK310.out 3).trans rfl
     have hcz53_4 : wr.cell? ⟨gb310, 4, none⟩ = some (.int .i64 a1_4) := (blk_cell BK310.out 4).trans rfl
     have hcz53_5 : wr.cell? ⟨gb310, 5, none⟩ = some (.slice A1_5 l1_5.length c1_5) := (blk_cell BK310.out 5).trans rfl
     have hfz53_0 := blk_frozen BK310.out 0
     have hfz53_1 := blk_frozen BK310.out 1
     have hfz53_2 := blk_frozen BK310.out 2
     have hfz53_3 := blk_frozen BK310.out 3
     have hfz53_4 := blk_frozen BK310.out 4
     have hfz53_5 := blk_frozen BK310.out 5
     have p317 : 0 ≤ (x9_4 : Int) := of_decide_eq_true (by (with_reducible assumption))
     have q317 : x9_4 < (l1_1.length : Int) := of_decide_eq_true (by (with_reducible assumption))
     obtain ⟨ad317, e317, hx317_0⟩ := Kd.at_int HR1_1.out x9_4 p317 q317
     cases e317
     replace hx317_0 := (HB.out.cell (World.block_lt_of_cell? w _ hx317_0)).trans hx317_0
     replace p317 := eq_true p317
     replace q317 := eq_true q317
     go_wp2
     repeat (go_quiet (fail); try go_wp2)
     go_ret
     exact ⟨by rfl, by repeat ((with_reducible first | exact HB.out | apply pw_below_drewN))⟩
    rw [if_neg c51] at H
    have c51b0 : decide ((rd l1_1 x9_4) < 0) = false := decide_eq_false c51
    clear c51
    by_cases c54 : (rd l1_1 x9_4) ≥ (l0_0.length : Int)
    ·rw [if_pos c54] at H
     have c54b0 : decide ((l0_0.length : Int) ≤ (rd l1_1 x9_4)) = true := decide_eq_true c54
     clear c54
     obtain rfl := Option.some.inj H
     have hnb55 := NB310_309.out
     have hnc55 := NB309_310.out
     have hcz56_0 : wr.cell? ⟨gb310, 0, none⟩ = some (.int .i64 a1_0) := (blk_cell BK310.out 0).trans rfl
     have hcz56_1 : wr.cell? ⟨gb310, 1, none⟩ = some (.slice A1_1 l1_1.length c1_1) := (blk_cell BK310.out 1).trans rfl
     have hcz56_2 : wr.cell? ⟨gb310, 2, none⟩ = some (.slice A1_2 l1_2.length c1_2) := (blk_cell BK310.out 2).trans rfl
     have hcz56_3 : wr.cell? ⟨gb310, 3, none⟩ = some (.slice A1_3 l1_3.length c1_3) := (blk_cell BK310.out 3).trans rfl
     have hcz56_4 : wr.cell? ⟨gb310, 4, none⟩ = some (.int .i64 a1_4) := (blk_cell BK310.out 4).trans rfl
     have hcz56_5 : wr.cell? ⟨gb310, 5, none⟩ = some (.slice A1_5 l1_5.length c1_5) := (blk_cell BK310.out 5).trans rfl
     have hfz56_0 := blk_frozen BK310.out 0
     have hfz56_1 := blk_frozen BK310.out 1
     have hfz56_2 := blk_frozen BK310.out 2
     have hfz56_3 := blk_frozen BK310.out 3
     have hfz56_4 := blk_frozen BK310.out 4
     have hfz56_5 := blk_frozen BK310.out 5
     have p317 : 0 ≤ (x9_4 : Int) := of_decide_eq_true (by (with_reducible assumption))
     have q317 : x9_4 < (l1_1.length : Int) := of_decide_eq_true (by (with_reducible assumption))
     obtain ⟨ad317, e317, hx317_0⟩ := Kd.at_int HR1_1.out x9_4 p317 q317
     cases e317
     replace hx317_0 := (HB.out.cell (World.block_lt_of_cell? w _ hx317_0)).trans hx317_0
     replace p317 := eq_true p317
     replace q317 := eq_true q317
     have p318 : 0 ≤ (x9_4 : Int) := of_decide_eq_true (by (with_reducible assumption))
     have q318 : x9_4 < (l1_1.length : Int) := of_decide_eq_true (by (with_reducible assumption))
     obtain ⟨ad318, e318, hx318_0⟩ := Kd.at_int HR1_1.out x9_4 p318 q318
     obtain rfl : ad317 = ad318 := (by injection e318)
     replace hx318_0 := (HB.out.cell (World.block_lt_of_cell? w _ hx318_0)).trans hx318_0
     replace p318 := eq_true p318
     replace q318 := eq_true q318
     have hcz57_0 : wr.cell? ⟨gb309, 0, none⟩ = some (.slice A0_0 l0_0.length c0_0) := (blk_cell BK309.out 0).trans rfl
     have hcz57_1 : wr.cell? ⟨gb309, 1, none⟩ = some (.slice A0_1 l0_1.length c0_1) := (blk_cell BK309.out 1).trans rfl
     have hfz57_0 := blk_frozen BK309.out 0
     have hfz57_1 := blk_frozen BK309.out 1
     go_wp2
     repeat (go_quiet (fail); try go_wp2)
     go_ret
     exact ⟨by rfl, by repeat ((with_reducible first | exact HB.out | apply pw_below_drewN))⟩
    rw [if_neg c54] at H
    have c54b0 : decide ((l0_0.length : Int) ≤ (rd l1_1 x9_4)) = false := decide_eq_false c54
    clear c54
    have H' := Aside0.mk H
    clear H
    have hnb58 := NB310_309.out
    have hnc58 := NB309_310.out
    have hcz59_0 : wr.cell? ⟨gb310, 0, none⟩ = some (.int .i64 a1_0) := (blk_cell BK310.out 0).trans rfl
    have hcz59_1 : wr.cell? ⟨gb310, 1, none⟩ = some (.slice A1_1 l1_1.length c1_1) := (blk_cell BK310.out 1).trans rfl
    have hcz59_2 : wr.cell? ⟨gb310, 2, none⟩ = some (.slice A1_2 l1_2.length c1_2) := (blk_cell BK310.out 2).trans rfl
    have hcz59_3 : wr.cell? ⟨gb310, 3, none⟩ = some (.slice A1_3 l1_3.length c1_3) := (blk_cell BK310.out 3).trans rfl
    have hcz59_4 : wr.cell? ⟨gb310, 4, none⟩ = some (.int .i64 a1_4) := (blk_cell BK310.out 4).trans rfl
    have hcz59_5 : wr.cell? ⟨gb310, 5, none⟩ = some (.slice A1_5 l1_5.length c1_5) := (blk_cell BK310.out 5).trans rfl
    have hfz59_0 := blk_frozen BK310.out 0
    have hfz59_1 := blk_frozen BK310.out 1
    have hfz59_2 := blk_frozen BK310.out 2
    have hfz59_3 := blk_frozen BK310.out 3
    have hfz59_4 := blk_frozen BK310.out 4
    have hfz59_5 := blk_frozen BK310.out 5
    have p317 : 0 ≤ (x9_4 : Int) := of_decide_eq_true (by (with_reducible assumption))
    have q317 : x9_4 < (l1_1.length : Int) := of_decide_eq_true (by (with_reducible assumption))
    obtain ⟨ad317, e317, hx317_0⟩ := Kd.at_int HR1_1.out x9_4 p317 q317
    cases e317
    replace hx317_0 := (HB.out.cell (World.block_lt_of_cell? w _ hx317_0)).trans hx317_0
    replace p317 := eq_true p317
    replace q317 := eq_true q317
    have p318 : 0 ≤ (x9_4 : Int) := of_decide_eq_true (by (with_reducible assumption))
    have q318 : x9_4 < (l1_1.length : Int) := of_decide_eq_true (by (with_reducible assumption))
    obtain ⟨ad318, e318, hx318_0⟩ := Kd.at_int HR1_1.out x9_4 p318 q318
    obtain rfl : ad317 = ad318 := (by injection e318)
    replace hx318_0 := (HB.out.cell (World.block_lt_of_cell? w _ hx318_0)).trans hx318_0
    replace p318 := eq_true p318
    replace q318 := eq_true q318
    have hcz60_0 : wr.cell? ⟨gb309, 0, none⟩ = some (.slice A0_0 l0_0.length c0_0) := (blk_cell BK309.out 0).trans rfl
    have hcz60_1 : wr.cell? ⟨gb309, 1, none⟩ = some (.slice A0_1 l0_1.length c0_1) := (blk_cell BK309.out 1).trans rfl
    have hfz60_0 := blk_frozen BK309.out 0
    have hfz60_1 := blk_frozen BK309.out 1
    go_wp2
    repeat (go_quiet (fail); try go_wp2)
    go_roundg k4
    case measure => have := HJ2.out; have := HK2.out; have := HJ33.out; have := HK4.out; omega
    case rel => exact ⟨(wrap64 (x9_4 + 1)), (by rfl), H', ⟨by have := HJ2.out; have := HK2.out; have := HJ33.out; have := HK4.out; omega⟩, ⟨by (with_reducible repeat (refine blk_drewN ?_ _)); exact BK309.out⟩, ⟨by (with_reducible repeat (refine blk_drewN ?_ _)); exact BK310.out⟩, ⟨by repeat ((with_reducible first | exact HB.out | apply pw_below_drewN))⟩⟩
   rw [if_neg c50] at H
   exact absurd H (by simp)
  rw [if_neg c49] at H
  exact absurd H (by simp)
 rw [if_neg c48] at H
 have c48b0 : decide (x9_4 < (l1_1.length : Int)) = false := decide_eq_false c48
 clear c48
 replace H := Option.bind_eq_some_iff.mp H
 obtain ⟨t319, A610, H⟩ := H
 replace H : (if t319 = true then (some 0) else (some 4)) = some r := H
 have A61 := Aside0.mk A610
 clear A610
 by_cases c62 : t319 = true
 ·subst c62
  have H1 : (some 0) = some r := by rw [if_pos rfl] at H; exact H
  clear H
  have H := H1
  clear H1
  obtain rfl := Option.some.inj H
  have hnb63 := NB310_309.out
  have hnc63 := NB309_310.out
  have hcz64_0 : wr.cell? ⟨gb310, 0, none⟩ = some (.int .i64 a1_0) := (blk_cell BK310.out 0).trans rfl
  have hcz64_1 : wr.cell? ⟨gb310, 1, none⟩ = some (.slice A1_1 l1_1.length c1_1) := (blk_cell BK310.out 1).trans rfl
  have hcz64_2 : wr.cell? ⟨gb310, 2, none⟩ = some (.slice A1_2 l1_2.length c1_2) := (blk_cell BK310.out 2).trans rfl
  have hcz64_3 : wr.cell? ⟨gb310, 3, none⟩ = some (.slice A1_3 l1_3.length c1_3) := (blk_cell BK310.out 3).trans rfl
  have hcz64_4 : wr.cell? ⟨gb310, 4, none⟩ = some (.int .i64 a1_4) := (blk_cell BK310.out 4).trans rfl
  have hcz64_5 : wr.cell? ⟨gb310, 5, none⟩ = some (.slice A1_5 l1_5.length c1_5) := (blk_cell BK310.out 5).trans rfl
  have hfz64_0 := blk_frozen BK310.out 0
  have hfz64_1 := blk_frozen BK310.out 1
  have hfz64_2 := blk_frozen BK310.out 2
  have hfz64_3 := blk_frozen BK310.out 3
  have hfz64_4 := blk_frozen BK310.out 4
  have hfz64_5 := blk_frozen BK310.out 5
  go_wp2_with ((go_at_call 34; (with_reducible refine (optimaref3_formed.calls k4 a1_0 _ _ l1_1 _ _ l1_2 _ _ l1_3 a1_4 _ _ l1_5 true _ ?side1 ?side2 ?side3 ?side4 ?side5 ?side6 ?side7 ?side8 A61.out).mono ?_); (case side1 => repeat (exact (Kd.C_below HR1_1.out HB.out))); (case side2 => exact HC1_1.out); (case side3 => repeat (exact (Kd.C_below HR1_2.out HB.out))); (case side4 => exact HC1_2.out); (case side5 => repeat (exact (Kd.C_below HR1_3.out HB.out))); (case side6 => exact HC1_3.out); (case side7 => repeat (exact (Kd.C_below HR1_5.out HB.out))); (case side8 => exact HC1_5.out); rintro e w65 ⟨rfl, hb⟩; have n0_ := Aside0.mk (blk_below (g := gb309) (o := .cells #[.slice A0_0 l0_0.length c0_0, .slice A0_1 l0_1.length c0_1] 25 (0, 0)) (by exact BK309.out) hb); have n1_ := Aside0.mk (blk_below (g := gb310) (o := .cells #[.int .i64 a1_0, .slice A1_1 l1_1.length c1_1, .slice A1_2 l1_2.length c1_2, .slice A1_3 l1_3.length c1_3, .int .i64 a1_4, .slice A1_5 l1_5.length c1_5] 44 (0, 0)) (by exact BK310.out) hb); have n2_ := Aside0.mk (below_step (by exact HB.out) hb); clear BK309; clear BK310; clear HB; have BK309 := n0_; have BK310 := n1_; have HB := n2_; clear n0_ n1_ n2_; (try clear hb); (try clear hb2); (try clear hk); (try clear hi)))
  repeat (go_quiet (fail); try go_wp2_with (fail))
  go_ret
  exact ⟨by rfl, by exact HB.out⟩
 replace c62 := Bool.eq_false_iff.mpr c62
 subst c62
 have H1 : (some 4) = some r := by rw [if_neg (show ¬ (false = true) by decide)] at H; exact H
 clear H
 have H := H1
 clear H1
 obtain rfl := Option.some.inj H
 have hnb66 := NB310_309.out
 have hnc66 := NB309_310.out
 have hcz67_0 : wr.cell? ⟨gb310, 0, none⟩ = some (.int .i64 a1_0) := (blk_cell BK310.out 0).trans rfl
 have hcz67_1 : wr.cell? ⟨gb310, 1, none⟩ = some (.slice A1_1 l1_1.length c1_1) := (blk_cell BK310.out 1).trans rfl
 have hcz67_2 : wr.cell? ⟨gb310, 2, none⟩ = some (.slice A1_2 l1_2.length c1_2) := (blk_cell BK310.out 2).trans rfl
 have hcz67_3 : wr.cell? ⟨gb310, 3, none⟩ = some (.slice A1_3 l1_3.length c1_3) := (blk_cell BK310.out 3).trans rfl
 have hcz67_4 : wr.cell? ⟨gb310, 4, none⟩ = some (.int .i64 a1_4) := (blk_cell BK310.out 4).trans rfl
 have hcz67_5 : wr.cell? ⟨gb310, 5, none⟩ = some (.slice A1_5 l1_5.length c1_5) := (blk_cell BK310.out 5).trans rfl
 have hfz67_0 := blk_frozen BK310.out 0
 have hfz67_1 := blk_frozen BK310.out 1
 have hfz67_2 := blk_frozen BK310.out 2
 have hfz67_3 := blk_frozen BK310.out 3
 have hfz67_4 := blk_frozen BK310.out 4
 have hfz67_5 := blk_frozen BK310.out 5
 go_wp2_with ((go_at_call 34; (with_reducible refine (optimaref3_formed.calls k4 a1_0 _ _ l1_1 _ _ l1_2 _ _ l1_3 a1_4 _ _ l1_5 false _ ?side1 ?side2 ?side3 ?side4 ?side5 ?side6 ?side7 ?side8 A61.out).mono ?_); (case side1 => repeat (exact (Kd.C_below HR1_1.out HB.out))); (case side2 => exact HC1_1.out); (case side3 => repeat (exact (Kd.C_below HR1_2.out HB.out))); (case side4 => exact HC1_2.out); (case side5 => repeat (exact (Kd.C_below HR1_3.out HB.out))); (case side6 => exact HC1_3.out); (case side7 => repeat (exact (Kd.C_below HR1_5.out HB.out))); (case side8 => exact HC1_5.out); rintro e w68 ⟨rfl, hb⟩; have n0_ := Aside0.mk (blk_below (g := gb309) (o := .cells #[.slice A0_0 l0_0.length c0_0, .slice A0_1 l0_1.length c0_1] 25 (0, 0)) (by exact BK309.out) hb); have n1_ := Aside0.mk (blk_below (g := gb310) (o := .cells #[.int .i64 a1_0, .slice A1_1 l1_1.length c1_1, .slice A1_2 l1_2.length c1_2, .slice A1_3 l1_3.length c1_3, .int .i64 a1_4, .slice A1_5 l1_5.length c1_5] 44 (0, 0)) (by exact BK310.out) hb); have n2_ := Aside0.mk (below_step (by exact HB.out) hb); clear BK309; clear BK310; clear HB; have BK309 := n0_; have BK310 := n1_; have HB := n2_; clear n0_ n1_ n2_; (try clear hb); (try clear hb2); (try clear hk); (try clear hi)))
 repeat (go_quiet (fail); try go_wp2_with (fail))
 go_ret
 exact ⟨by rfl, by exact HB.out⟩

end Go.Proofs.YtehekppkicjimaaDoor.QFK
