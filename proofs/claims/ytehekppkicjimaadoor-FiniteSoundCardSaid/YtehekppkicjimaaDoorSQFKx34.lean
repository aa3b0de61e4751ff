-- written by a program of mine (wip/tools/print2.py), which turns the kit's printer a little
import Derived.Test.YtehekppkicjimaaDoorSQFKx0
import Derived.Test.YtehekppkicjimaaDoorSErr
namespace Go.Proofs.YtehekppkicjimaaDoor.QFK
open Go.RowKit Go.Proofs.YtehekppkicjimaaDoorW.PrintWords Go.Proofs.YtehekppkicjimaaDoorW.PrintLast Go.Proofs.YtehekppkicjimaaDoorW.PrintMore
attribute [local go_sem] max2_int min2_int max_two min_two max_three min_three max_four min_four
set_option linter.unusedVariables false
set_option linter.unusedSimpArgs false

attribute [local go_sem] Sent.alloc Sent.drew Sent.drewN Sent.c0 Sent.c1
/-! ### optimaref3_formed: function 34 -/
mutual
def optimaref3_formed.l0 : Nat → Int → Int → Int → Int → Int → Int → List Int → List Int → List Int → Int → List (List Int) → Option (Bool)
 | 0, _, _, _, _, _, _, _, _, _, _, _ => none
 | k + 1, x3, x4, x5, x6, x7, x305000, x305001, x305002, x305003, x305004, x305005 => if x7 < x4 then (if 0 ≤ x7 then (if x7 < (x305002.length : Int) then (if (rd x305002 x7) = 0 then (some false) else (optimaref3_formed.l0 k x3 x4 x5 x6 (wrap64 (x7 + 1)) x305000 x305001 x305002 x305003 x305004 x305005)) else (none)) else (none)) else (if x4 = x3 then (if x5 = 0 then (some (x6 == 0)) else (some false)) else (some false))
def optimaref3_formed.l1 : Nat → Int → Int → Int → Int → Int → Int → List Int → List Int → List Int → Int → List (List Int) → Option (Bool)
 | 0, _, _, _, _, _, _, _, _, _, _, _ => none
 | k + 1, x3, x4, x5, x6, x8, x305000, x305001, x305002, x305003, x305004, x305005 => if x8 < x6 then (if 0 ≤ x8 then (if x8 < (x305005.length : Int) then (if ((rd_L1 x305005 x8).length : Int) = x3 then (optimaref3_formed.l1 k x3 x4 x5 x6 (wrap64 (x8 + 1)) x305000 x305001 x305002 x305003 x305004 x305005) else (some false)) else (none)) else (none)) else (if x4 = 0 then (if x5 = 0 then (some (x305004 == 0)) else (some false)) else (some false))
def optimaref3_formed.j2 : Nat → Int → Bool → Int → List Int → List Int → List Int → Int → List (List Int) → Option (Bool)
 | 0, _, _, _, _, _, _, _, _ => none
 | k + 1, x3, x130, x305000, x305001, x305002, x305003, x305004, x305005 => if x130 = true then (some false) else (optimaref3_formed.l2 k x3 0 x305000 x305001 x305002 x305003 x305004 x305005)
def optimaref3_formed.l2 : Nat → Int → Int → Int → List Int → List Int → List Int → Int → List (List Int) → Option (Bool)
 | 0, _, _, _, _, _, _, _, _ => none
 | k + 1, x3, x9, x305000, x305001, x305002, x305003, x305004, x305005 => if x9 < x3 then (if 0 ≤ x9 then (if x9 < (x305002.length : Int) then (if (rd x305002 x9) < 0 then (some false) else (if x9 < (x305003.length : Int) then (if (rd x305003 x9) < 0 then (some false) else (optimaref3_formed.l2 k x3 (wrap64 (x9 + 1)) x305000 x305001 x305002 x305003 x305004 x305005)) else (none))) else (none)) else (none)) else (some true)
end
def optimaref3_formed.f (k : Nat) (a0_0 : Int) (l0_1 : List Int) (l0_2 : List Int) (l0_3 : List Int) (a0_4 : Int) (l0_5 : List (List Int)) : Option (Bool) := if a0_0 = 1 then (if (l0_2.length : Int) = 0 then (if (l0_3.length : Int) = 0 then (if (l0_5.length : Int) = 0 then (some (a0_4 == 0)) else (some false)) else (some false)) else (some false)) else (if a0_0 = 2 then (optimaref3_formed.l0 k (l0_1.length : Int) (l0_2.length : Int) (l0_3.length : Int) (l0_5.length : Int) 0 a0_0 l0_1 l0_2 l0_3 a0_4 l0_5) else (if a0_0 = 3 then (optimaref3_formed.l1 k (l0_1.length : Int) (l0_2.length : Int) (l0_3.length : Int) (l0_5.length : Int) 0 a0_0 l0_1 l0_2 l0_3 a0_4 l0_5) else (if a0_0 = 4 then (if (l0_1.length : Int) ≥ 2 then (if (l0_2.length : Int) = 0 then (if (l0_3.length : Int) = 0 then (if (l0_5.length : Int) = 0 then (some (a0_4 == 0)) else (some false)) else (some false)) else (some false)) else (some false)) else (if a0_0 = 5 then (if (l0_2.length : Int) = (l0_1.length : Int) then (if (l0_3.length : Int) = (l0_1.length : Int) then (if (l0_5.length : Int) > 0 then (optimaref3_formed.j2 k (l0_1.length : Int) true a0_0 l0_1 l0_2 l0_3 a0_4 l0_5) else (optimaref3_formed.j2 k (l0_1.length : Int) (decide (a0_4 < 0)) a0_0 l0_1 l0_2 l0_3 a0_4 l0_5)) else (optimaref3_formed.j2 k (l0_1.length : Int) true a0_0 l0_1 l0_2 l0_3 a0_4 l0_5)) else (optimaref3_formed.j2 k (l0_1.length : Int) true a0_0 l0_1 l0_2 l0_3 a0_4 l0_5)) else (some false)))))
theorem optimaref3_formed.mono_l : ∀ k, (∀ y0 y1 y2 y3 y4 y5 y6 y7 y8 y9 y10, LeO (optimaref3_formed.l0 k y0 y1 y2 y3 y4 y5 y6 y7 y8 y9 y10) (optimaref3_formed.l0 (k + 1) y0 y1 y2 y3 y4 y5 y6 y7 y8 y9 y10)) ∧ (∀ y0 y1 y2 y3 y4 y5 y6 y7 y8 y9 y10, LeO (optimaref3_formed.l1 k y0 y1 y2 y3 y4 y5 y6 y7 y8 y9 y10) (optimaref3_formed.l1 (k + 1) y0 y1 y2 y3 y4 y5 y6 y7 y8 y9 y10)) ∧ (∀ y0 y1 y2 y3 y4 y5 y6 y7, LeO (optimaref3_formed.j2 k y0 y1 y2 y3 y4 y5 y6 y7) (optimaref3_formed.j2 (k + 1) y0 y1 y2 y3 y4 y5 y6 y7)) ∧ (∀ y0 y1 y2 y3 y4 y5 y6 y7, LeO (optimaref3_formed.l2 k y0 y1 y2 y3 y4 y5 y6 y7) (optimaref3_formed.l2 (k + 1) y0 y1 y2 y3 y4 y5 y6 y7))
 | 0 => ⟨fun _ _ _ _ _ _ _ _ _ _ _ r h => by simp [optimaref3_formed.l0] at h, fun _ _ _ _ _ _ _ _ _ _ _ r h => by simp [optimaref3_formed.l1] at h, fun _ _ _ _ _ _ _ _ r h => by simp [optimaref3_formed.j2] at h, fun _ _ _ _ _ _ _ _ r h => by simp [optimaref3_formed.l2] at h⟩
 | k + 1 => by
  obtain ⟨ih0, ih1, ih2, ih3⟩ := optimaref3_formed.mono_l k
  refine ⟨?_, ?_, ?_, ?_⟩
  ·intro y0 y1 y2 y3 y4 y5 y6 y7 y8 y9 y10
   unfold optimaref3_formed.l0
   repeat' first | (with_reducible exact ih0 _ _ _ _ _ _ _ _ _ _ _) | (with_reducible exact LeO.refl _) | (with_reducible refine LeO.ite ?_ ?_)
  ·intro y0 y1 y2 y3 y4 y5 y6 y7 y8 y9 y10
   unfold optimaref3_formed.l1
   repeat' first | (with_reducible exact ih1 _ _ _ _ _ _ _ _ _ _ _) | (with_reducible exact LeO.refl _) | (with_reducible refine LeO.ite ?_ ?_)
  ·intro y0 y1 y2 y3 y4 y5 y6 y7
   unfold optimaref3_formed.j2
   repeat' first | (with_reducible exact ih3 _ _ _ _ _ _ _ _) | (with_reducible exact LeO.refl _) | (with_reducible refine LeO.ite ?_ ?_)
  intro y0 y1 y2 y3 y4 y5 y6 y7
  unfold optimaref3_formed.l2
  repeat' first | (with_reducible exact ih3 _ _ _ _ _ _ _ _) | (with_reducible exact LeO.refl _) | (with_reducible refine LeO.ite ?_ ?_)
theorem optimaref3_formed.mono : ∀ a0 a1 a2 a3 a4 a5 k, LeO (optimaref3_formed.f k a0 a1 a2 a3 a4 a5) (optimaref3_formed.f (k + 1) a0 a1 a2 a3 a4 a5) := by
 intro a0 a1 a2 a3 a4 a5 k
 obtain ⟨ih0, ih1, ih2, ih3⟩ := optimaref3_formed.mono_l k
 unfold optimaref3_formed.f
 repeat' first | (with_reducible exact ih0 _ _ _ _ _ _ _ _ _ _ _) | (with_reducible exact ih1 _ _ _ _ _ _ _ _ _ _ _) | (with_reducible exact ih2 _ _ _ _ _ _ _ _) | (with_reducible exact LeO.refl _) | (with_reducible refine LeO.ite ?_ ?_)
set_option maxHeartbeats 8000000 in
set_option maxRecDepth 100000 in
theorem optimaref3_formed.calls (k : Nat) (a0_0 : Int) (A0_1 : Option Addr) (c0_1 : Nat) (l0_1 : List Int) (A0_2 : Option Addr) (c0_2 : Nat) (l0_2 : List Int) (A0_3 : Option Addr) (c0_3 : Nat) (l0_3 : List Int) (a0_4 : Int) (A0_5 : Option Addr) (c0_5 : Nat) (l0_5 : List (List Int)) (r : Bool) (w : World) (hr0_1 : Kd.C (Kd.int .i64) w A0_1 l0_1.length l0_1) (hc0_1 : l0_1.length ≤ c0_1) (hr0_2 : Kd.C (Kd.int .i64) w A0_2 l0_2.length l0_2) (hc0_2 : l0_2.length ≤ c0_2) (hr0_3 : Kd.C (Kd.int .i64) w A0_3 l0_3.length l0_3) (hc0_3 : l0_3.length ≤ c0_3) (hr0_5 : Kd.C (Kd.slice 3 (Kd.int .i64)) w A0_5 l0_5.length l0_5) (hc0_5 : l0_5.length ≤ c0_5) (h : optimaref3_formed.f k a0_0 l0_1 l0_2 l0_3 a0_4 l0_5 = some r) :
 Calls Tryd.prog 34 #[.agg #[.int .i64 a0_0, .slice A0_1 l0_1.length c0_1, .slice A0_2 l0_2.length c0_2, .slice A0_3 l0_3.length c0_3, .int .i64 a0_4, .slice A0_5 l0_5.length c0_5]] w fun e w' => e = .returned (.bool r) ∧ Below w.heap.size w w' := by
 have hu44 := Tryd.underlying44
 have HR0_1 := Aside0.mk hr0_1
 have HC0_1 := Aside0.mk hc0_1
 clear hr0_1 hc0_1
 have HR0_2 := Aside0.mk hr0_2
 have HC0_2 := Aside0.mk hc0_2
 clear hr0_2 hc0_2
 have HR0_3 := Aside0.mk hr0_3
 have HC0_3 := Aside0.mk hc0_3
 clear hr0_3 hc0_3
 have HR0_5 := Aside0.mk hr0_5
 have HC0_5 := Aside0.mk hc0_5
 clear hr0_5 hc0_5
 have HB := Aside0.mk (Below.refl w.heap.size w)
 have H : (if a0_0 = 1 then (if (l0_2.length : Int) = 0 then (if (l0_3.length : Int) = 0 then (if (l0_5.length : Int) = 0 then (some (a0_4 == 0)) else (some false)) else (some false)) else (some false)) else (if a0_0 = 2 then (optimaref3_formed.l0 k (l0_1.length : Int) (l0_2.length : Int) (l0_3.length : Int) (l0_5.length : Int) 0 a0_0 l0_1 l0_2 l0_3 a0_4 l0_5) else (if a0_0 = 3 then (optimaref3_formed.l1 k (l0_1.length : Int) (l0_2.length : Int) (l0_3.length : Int) (l0_5.length : Int) 0 a0_0 l0_1 l0_2 l0_3 a0_4 l0_5) else (if a0_0 = 4 then (if (l0_1.length : Int) ≥ 2 then (if (l0_2.length : Int) = 0 then (if (l0_3.length : Int) = 0 then (if (l0_5.length : Int) = 0 then (some (a0_4 == 0)) else (some false)) else (some false)) else (some false)) else (some false)) else (if a0_0 = 5 then (if (l0_2.length : Int) = (l0_1.length : Int) then (if (l0_3.length : Int) = (l0_1.length : Int) then (if (l0_5.length : Int) > 0 then (optimaref3_formed.j2 k (l0_1.length : Int) true a0_0 l0_1 l0_2 l0_3 a0_4 l0_5) else (optimaref3_formed.j2 k (l0_1.length : Int) (decide (a0_4 < 0)) a0_0 l0_1 l0_2 l0_3 a0_4 l0_5)) else (optimaref3_formed.j2 k (l0_1.length : Int) true a0_0 l0_1 l0_2 l0_3 a0_4 l0_5)) else (optimaref3_formed.j2 k (l0_1.length : Int) true a0_0 l0_1 l0_2 l0_3 a0_4 l0_5)) else (some false)))))) = some r := h
 clear h
 by_cases c2 : a0_0 = 1
 ·rw [if_pos c2] at H
  have c2b0 : (a0_0 == 1) = true := beq_iff_eq.mpr c2
  have c2b1 : (a0_0 != 1) = false := bne_eq_false_iff_eq.mpr c2
  clear c2
  by_cases c3 : (l0_2.length : Int) = 0
  ·rw [if_pos c3] at H
   have c3b0 : ((l0_2.length : Int) == 0) = true := beq_iff_eq.mpr c3
   have c3b1 : ((l0_2.length : Int) != 0) = false := bne_eq_false_iff_eq.mpr c3
   clear c3
   by_cases c4 : (l0_3.length : Int) = 0
   ·rw [if_pos c4] at H
    have c4b0 : ((l0_3.length : Int) == 0) = true := beq_iff_eq.mpr c4
    have c4b1 : ((l0_3.length : Int) != 0) = false := bne_eq_false_iff_eq.mpr c4
    clear c4
    by_cases c5 : (l0_5.length : Int) = 0
    ·rw [if_pos c5] at H
     have c5b0 : ((l0_5.length : Int) == 0) = true := beq_iff_eq.mpr c5
     have c5b1 : ((l0_5.length : Int) != 0) = false := bne_eq_false_iff_eq.mpr c5
     clear c5
     obtain rfl := Option.some.inj H
     go_enter Tryd.func34, Tryd.ntmps34
     go_wp2_with (((with_reducible refine gate_dst (N := 1) rfl ?_); refine box_event ?hg (N := 1) ?hd (cs := #[.int .i64 a0_0, .slice A0_1 l0_1.length c0_1, .slice A0_2 l0_2.length c0_2, .slice A0_3 l0_3.length c0_3, .int .i64 a0_4, .slice A0_5 l0_5.length c0_5]) (t := 44) ?hr ?_; (case hd => rfl); (case hg => rfl); (case hr => (go_simp; done)); intro gb304 hg w6 hbox hb; have n0_ := Aside0.mk (below_step (by exact HB.out) hb); have n1_ := Aside0.mk (hbox); have n2_ := Aside0.mk ((by rw [hg]; exact (below_size (by exact HB.out)) : w.heap.size ≤ gb304)); have n3_ := Aside0.mk ((by rw [hg]; exact (below_size (by exact HB.out)) : w.heap.size ≤ gb304)); clear HB; have HB := n0_; have BK304 := n1_; have GW304 := n2_; have GE304 := n3_; clear n0_ n1_ n2_ n3_; clear hb hbox hg; have hcz7_0 : w6.cell? ⟨gb304, 0, none⟩ = some (.int .i64 a0_0) := (blk_cell BK304.out 0).trans rfl; have hcz7_1 : w6.cell? ⟨gb304, 1, none⟩ = some (.slice A0_1 l0_1.length c0_1) := (blk_cell BK304.out 1).trans rfl; have hcz7_2 : w6.cell? ⟨gb304, 2, none⟩ = some (.slice A0_2 l0_2.length c0_2) := (blk_cell BK304.out 2).trans rfl; have hcz7_3 : w6.cell? ⟨gb304, 3, none⟩ = some (.slice A0_3 l0_3.length c0_3) := (blk_cell BK304.out 3).trans rfl; have hcz7_4 : w6.cell? ⟨gb304, 4, none⟩ = some (.int .i64 a0_4) := (blk_cell BK304.out 4).trans rfl; have hcz7_5 : w6.cell? ⟨gb304, 5, none⟩ = some (.slice A0_5 l0_5.length c0_5) := (blk_cell BK304.out 5).trans rfl; have hfz7_0 := blk_frozen BK304.out 0; have hfz7_1 := blk_frozen BK304.out 1; have hfz7_2 := blk_frozen BK304.out 2; have hfz7_3 := blk_frozen BK304.out 3; have hfz7_4 := blk_frozen BK304.out 4; have hfz7_5 := blk_frozen BK304.out 5))
     go_ret
     exact ⟨by rfl, by exact HB.out⟩
    rw [if_neg c5] at H
    have c5b0 : ((l0_5.length : Int) == 0) = false := beq_eq_false_iff_ne.mpr c5
    have c5b1 : ((l0_5.length : Int) != 0) = true := bne_iff_ne.mpr c5
    have c5b2 : ¬ (l0_5 = []) := fun h_ => c5 (by rw [h_]; rfl)
    obtain rfl := Option.some.inj H
    go_enter Tryd.func34, Tryd.ntmps34
    go_wp2_with (((with_reducible refine gate_dst (N := 1) rfl ?_); refine box_event ?hg (N := 1) ?hd (cs := #[.int .i64 a0_0, .slice A0_1 l0_1.length c0_1, .slice A0_2 l0_2.length c0_2, .slice A0_3 l0_3.length c0_3, .int .i64 a0_4, .slice A0_5 l0_5.length c0_5]) (t := 44) ?hr ?_; (case hd => rfl); (case hg => rfl); (case hr => (go_simp; done)); intro gb304 hg w8 hbox hb; have n0_ := Aside0.mk (below_step (by exact HB.out) hb); have n1_ := Aside0.mk (hbox); have n2_ := Aside0.mk ((by rw [hg]; exact (below_size (by exact HB.out)) : w.heap.size ≤ gb304)); have n3_ := Aside0.mk ((by rw [hg]; exact (below_size (by exact HB.out)) : w.heap.size ≤ gb304)); clear HB; have HB := n0_; have BK304 := n1_; have GW304 := n2_; have GE304 := n3_; clear n0_ n1_ n2_ n3_; clear hb hbox hg; have hcz9_0 : w8.cell? ⟨gb304, 0, none⟩ = some (.int .i64 a0_0) := (blk_cell BK304.out 0).trans rfl; have hcz9_1 : w8.cell? ⟨gb304, 1, none⟩ = some (.slice A0_1 l0_1.length c0_1) := (blk_cell BK304.out 1).trans rfl; have hcz9_2 : w8.cell? ⟨gb304, 2, none⟩ = some (.slice A0_2 l0_2.length c0_2) := (blk_cell BK304.out 2).trans rfl; have hcz9_3 : w8.cell? ⟨gb304, 3, none⟩ = some (.slice A0_3 l0_3.length c0_3) := (blk_cell BK304.out 3).trans rfl; have hcz9_4 : w8.cell? ⟨gb304, 4, none⟩ = some (.int .i64 a0_4) := (blk_cell BK304.out 4).trans rfl; have hcz9_5 : w8.cell? ⟨gb304, 5, none⟩ = some (.slice A0_5 l0_5.length c0_5) := (blk_cell BK304.out 5).trans rfl; have hfz9_0 := blk_frozen BK304.out 0; have hfz9_1 := blk_frozen BK304.out 1; have hfz9_2 := blk_frozen BK304.out 2; have hfz9_3 := blk_frozen BK304.out 3; have hfz9_4 := blk_frozen BK304.out 4; have hfz9_5 := blk_frozen BK304.out 5))
    go_ret
    exact ⟨by rfl, by exact HB.out⟩
   rw [if_neg c4] at H
   have c4b0 : ((l0_3.length : Int) == 0) = false := beq_eq_false_iff_ne.mpr c4
   have c4b1 : ((l0_3.length : Int) != 0) = true := bne_iff_ne.mpr c4
   have c4b2 : ¬ (l0_3 = []) := fun h_ => c4 (by rw [h_]; rfl)
   obtain rfl := Option.some.inj H
   go_enter Tryd.func34, Tryd.ntmps34
   go_wp2_with (((with_reducible refine gate_dst (N := 1) rfl ?_); refine box_event ?hg (N := 1) ?hd (cs := #[.int .i64 a0_0, .slice A0_1 l0_1.length c0_1, .slice A0_2 l0_2.length c0_2, .slice A0_3 l0_3.length c0_3, .int .i64 a0_4, .slice A0_5 l0_5.length c0_5]) (t := 44) ?hr ?_; (case hd => rfl); (case hg => rfl); (case hr => (go_simp; done)); intro gb304 hg w10 hbox hb; have n0_ := Aside0.mk (below_step (by exact HB.out) hb); have n1_ := Aside0.mk (hbox); have n2_ := Aside0.mk ((by rw [hg]; exact (below_size (by exact HB.out)) : w.heap.size ≤ gb304)); have n3_ := Aside0.mk ((by rw [hg]; exact (below_size (by exact HB.out)) : w.heap.size ≤ gb304)); clear HB; have HB := n0_; have BK304 := n1_; have GW304 := n2_; have GE304 := n3_; clear n0_ n1_ n2_ n3_; clear hb hbox hg; have hcz11_0 : w10.cell? ⟨gb304, 0, none⟩ = some (.int .i64 a0_0) := (blk_cell BK304.out 0).trans rfl; have hcz11_1 : w10.cell? ⟨gb304, 1, none⟩ = some (.slice A0_1 l0_1.length c0_1) := (blk_cell BK304.out 1).trans rfl; have hcz11_2 : w10.cell? ⟨gb304, 2, none⟩ = some (.slice A0_2 l0_2.length c0_2) := (blk_cell BK304.out 2).trans rfl; have hcz11_3 : w10.cell? ⟨gb304, 3, none⟩ = some (.slice A0_3 l0_3.length c0_3) := (blk_cell BK304.out 3).trans rfl; have hcz11_4 : w10.cell? ⟨gb304, 4, none⟩ = some (.int .i64 a0_4) := (blk_cell BK304.out 4).trans rfl; have hcz11_5 : w10.cell? ⟨gb304, 5, none⟩ = some (.slice A0_5 l0_5.length c0_5) := (blk_cell BK304.out 5).trans rfl; have hfz11_0 := blk_frozen BK304.out 0; have hfz11_1 := blk_frozen BK304.out 1; have hfz11_2 := blk_frozen BK304.out 2; have hfz11_3 := blk_frozen BK304.out 3; have hfz11_4 := blk_frozen BK304.out 4; have hfz11_5 := blk_frozen BK304.out 5))
   go_ret
   exact ⟨by rfl, by exact HB.out⟩
  rw [if_neg c3] at H
  have c3b0 : ((l0_2.length : Int) == 0) = false := beq_eq_false_iff_ne.mpr c3
  have c3b1 : ((l0_2.length : Int) != 0) = true := bne_iff_ne.mpr c3
  have c3b2 : ¬ (l0_2 = []) := fun h_ => c3 (by rw [h_]; rfl)
  obtain rfl := Option.some.inj H
  go_enter Tryd.func34, Tryd.ntmps34
  go_wp2_with (((with_reducible refine gate_dst (N := 1) rfl ?_); refine box_event ?hg (N := 1) ?hd (cs := #[.int .i64 a0_0, .slice A0_1 l0_1.length c0_1, .slice A0_2 l0_2.length c0_2, .slice A0_3 l0_3.length c0_3, .int .i64 a0_4, .slice A0_5 l0_5.length c0_5]) (t := 44) ?hr ?_; (case hd => rfl); (case hg => rfl); (case hr => (go_simp; done)); intro gb304 hg w12 hbox hb; have n0_ := Aside0.mk (below_step (by exact HB.out) hb); have n1_ := Aside0.mk (hbox); have n2_ := Aside0.mk ((by rw [hg]; exact (below_size (by exact HB.out)) : w.heap.size ≤ gb304)); have n3_ := Aside0.mk ((by rw [hg]; exact (below_size (by exact HB.out)) : w.heap.size ≤ gb304)); clear HB; have HB := n0_; have BK304 := n1_; have GW304 := n2_; have GE304 := n3_; clear n0_ n1_ n2_ n3_; clear hb hbox hg; have hcz13_0 : w12.cell? ⟨gb304, 0, none⟩ = some (.int .i64 a0_0) := (blk_cell BK304.out 0).trans rfl; have hcz13_1 : w12.cell? ⟨gb304, 1, none⟩ = some (.slice A0_1 l0_1.length c0_1) := (blk_cell BK304.out 1).trans rfl; have hcz13_2 : w12.cell? ⟨gb304, 2, none⟩ = some (.slice A0_2 l0_2.length c0_2) := (blk_cell BK304.out 2).trans rfl; have hcz13_3 : w12.cell? ⟨gb304, 3, none⟩ = some (.slice A0_3 l0_3.length c0_3) := (blk_cell BK304.out 3).trans rfl; have hcz13_4 : w12.cell? ⟨gb304, 4, none⟩ = some (.int .i64 a0_4) := (blk_cell BK304.out 4).trans rfl; have hcz13_5 : w12.cell? ⟨gb304, 5, none⟩ = some (.slice A0_5 l0_5.length c0_5) := (blk_cell BK304.out 5).trans rfl; have hfz13_0 := blk_frozen BK304.out 0; have hfz13_1 := blk_frozen BK304.out 1; have hfz13_2 := blk_frozen BK304.out 2; have hfz13_3 := blk_frozen BK304.out 3; have hfz13_4 := blk_frozen BK304.out 4; have hfz13_5 := blk_frozen BK304.out 5))
  go_ret
  exact ⟨by rfl, by exact HB.out⟩
 rw [if_neg c2] at H
 have c2b0 : (a0_0 == 1) = false := beq_eq_false_iff_ne.mpr c2
 have c2b1 : (a0_0 != 1) = true := bne_iff_ne.mpr c2
 by_cases c14 : a0_0 = 2
 ·rw [if_pos c14] at H
  have c14b0 : (a0_0 == 2) = true := beq_iff_eq.mpr c14
  have c14b1 : (a0_0 != 2) = false := bne_eq_false_iff_eq.mpr c14
  clear c14
  have H' := Aside0.mk H
  clear H
  go_enter Tryd.func34, Tryd.ntmps34
  go_wp2_with (((with_reducible refine gate_dst (N := 1) rfl ?_); refine box_event ?hg (N := 1) ?hd (cs := #[.int .i64 a0_0, .slice A0_1 l0_1.length c0_1, .slice A0_2 l0_2.length c0_2, .slice A0_3 l0_3.length c0_3, .int .i64 a0_4, .slice A0_5 l0_5.length c0_5]) (t := 44) ?hr ?_; (case hd => rfl); (case hg => rfl); (case hr => (go_simp; done)); intro gb304 hg w15 hbox hb; have n0_ := Aside0.mk (below_step (by exact HB.out) hb); have n1_ := Aside0.mk (hbox); have n2_ := Aside0.mk ((by rw [hg]; exact (below_size (by exact HB.out)) : w.heap.size ≤ gb304)); have n3_ := Aside0.mk ((by rw [hg]; exact (below_size (by exact HB.out)) : w.heap.size ≤ gb304)); clear HB; have HB := n0_; have BK304 := n1_; have GW304 := n2_; have GE304 := n3_; clear n0_ n1_ n2_ n3_; clear hb hbox hg; have hcz16_0 : w15.cell? ⟨gb304, 0, none⟩ = some (.int .i64 a0_0) := (blk_cell BK304.out 0).trans rfl; have hcz16_1 : w15.cell? ⟨gb304, 1, none⟩ = some (.slice A0_1 l0_1.length c0_1) := (blk_cell BK304.out 1).trans rfl; have hcz16_2 : w15.cell? ⟨gb304, 2, none⟩ = some (.slice A0_2 l0_2.length c0_2) := (blk_cell BK304.out 2).trans rfl; have hcz16_3 : w15.cell? ⟨gb304, 3, none⟩ = some (.slice A0_3 l0_3.length c0_3) := (blk_cell BK304.out 3).trans rfl; have hcz16_4 : w15.cell? ⟨gb304, 4, none⟩ = some (.int .i64 a0_4) := (blk_cell BK304.out 4).trans rfl; have hcz16_5 : w15.cell? ⟨gb304, 5, none⟩ = some (.slice A0_5 l0_5.length c0_5) := (blk_cell BK304.out 5).trans rfl; have hfz16_0 := blk_frozen BK304.out 0; have hfz16_1 := blk_frozen BK304.out 1; have hfz16_2 := blk_frozen BK304.out 2; have hfz16_3 := blk_frozen BK304.out 3; have hfz16_4 := blk_frozen BK304.out 4; have hfz16_5 := blk_frozen BK304.out 5))
  go_loopg [7] k (fun kq v7 w' => ∃ (x7_1 : Int), v7 = .int .i64 x7_1 ∧ Aside0 (optimaref3_formed.l0 kq (l0_1.length : Int) (l0_2.length : Int) (l0_3.length : Int) (l0_5.length : Int) x7_1 a0_0 l0_1 l0_2 l0_3 a0_4 l0_5 = some r) ∧ Aside0 (kq ≤ k) ∧ Aside0 (w'.heap[gb304]? = some (.cells #[.int .i64 a0_0, (.slice A0_1 l0_1.length c0_1), (.slice A0_2 l0_2.length c0_2), (.slice A0_3 l0_3.length c0_3), .int .i64 a0_4, (.slice A0_5 l0_5.length c0_5)] 44 (0, 0))) ∧ Aside0 (Below w.heap.size w w'))
  case atStart => exact ⟨(0), (by rfl), H', ⟨Nat.le_refl _⟩, ⟨by exact BK304.out⟩, ⟨by exact HB.out⟩⟩
  clear H'
  try clear c1
  try clear c2
  try clear c2b0
  try clear c2b1
  try clear p2
  try clear c3
  try clear c3b0
  try clear c3b1
  try clear c3b2
  try clear c4
  try clear c4b0
  try clear c4b1
  try clear c4b2
  try clear c5
  try clear c5b0
  try clear c5b1
  try clear c5b2
  try clear c14
  try clear c14b0
  try clear c14b1
  try clear hcz11_0
  try clear hcz11_1
  try clear hcz11_2
  try clear hcz11_3
  try clear hcz11_4
  try clear hcz11_5
  try clear hcz13_0
  try clear hcz13_1
  try clear hcz13_2
  try clear hcz13_3
  try clear hcz13_4
  try clear hcz13_5
  try clear hcz16_0
  try clear hcz16_1
  try clear hcz16_2
  try clear hcz16_3
  try clear hcz16_4
  try clear hcz16_5
  try clear hcz7_0
  try clear hcz7_1
  try clear hcz7_2
  try clear hcz7_3
  try clear hcz7_4
  try clear hcz7_5
  try clear hcz9_0
  try clear hcz9_1
  try clear hcz9_2
  try clear hcz9_3
  try clear hcz9_4
  try clear hcz9_5
  try clear hfz11_0
  try clear hfz11_1
  try clear hfz11_2
  try clear hfz11_3
  try clear hfz11_4
  try clear hfz11_5
  try clear hfz13_0
  try clear hfz13_1
  try clear hfz13_2
  try clear hfz13_3
  try clear hfz13_4
  try clear hfz13_5
  try clear hfz16_0
  try clear hfz16_1
  try clear hfz16_2
  try clear hfz16_3
  try clear hfz16_4
  try clear hfz16_5
  try clear hfz7_0
  try clear hfz7_1
  try clear hfz7_2
  try clear hfz7_3
  try clear hfz7_4
  try clear hfz7_5
  try clear hfz9_0
  try clear hfz9_1
  try clear hfz9_2
  try clear hfz9_3
  try clear hfz9_4
  try clear hfz9_5
  obtain ⟨x7_1, rfl, HA, HK1, BK304, HB⟩ := hrel
  rcases gk with _ | k1
  ·exact absurd HA.out (by simp [optimaref3_formed.l0])
  have H := HA.out
  clear HA
  simp only [optimaref3_formed.l0] at H
  by_cases c17 : x7_1 < (l0_2.length : Int)
  ·rw [if_pos c17] at H
   have c17b0 : decide (x7_1 < (l0_2.length : Int)) = true := decide_eq_true c17
   clear c17
   by_cases c18 : 0 ≤ x7_1
   ·rw [if_pos c18] at H
    have c18b0 : decide (0 ≤ x7_1) = true := decide_eq_true c18
    clear c18
    by_cases c19 : x7_1 < (l0_2.length : Int)
    ·rw [if_pos c19] at H
     have c19b0 : decide (x7_1 < (l0_2.length : Int)) = true := decide_eq_true c19
     clear c19
     by_cases c20 : (rd l0_2 x7_1) = 0
     ·rw [if_pos c20] at H
      have c20b0 : ((rd l0_2 x7_1) == 0) = true := beq_iff_eq.mpr c20
      have c20b1 : ((rd l0_2 x7_1) != 0) = false := bne_eq_false_iff_eq.mpr c20
      clear c20
      obtain rfl := Option.some.inj H
      have hcz21_0 : wr.cell? ⟨gb304, 0, none⟩ = some (.int .i64 a0_0) := (blk_cell BK304.out 0).trans rfl
      have hcz21_1 : wr.cell? ⟨gb304, 1, none⟩ = some (.slice A0_1 l0_1.length c0_1) := (blk_cell BK304.out 1).trans rfl
      have hcz21_2 : wr.cell? ⟨gb304, 2, none⟩ = some (.slice A0_2 l0_2.length c0_2) := (blk_cell BK304.out 2).trans rfl
      have hcz21_3 : wr.cell? ⟨gb304, 3, none⟩ = some (.slice A0_3 l0_3.length c0_3) := (blk_cell BK304.out 3).trans rfl
      have hcz21_4 : wr.cell? ⟨gb304, 4, none⟩ = some (.int .i64 a0_4) := (blk_cell BK304.out 4).trans rfl
      have hcz21_5 : wr.cell? ⟨gb304, 5, none⟩ = some (.slice A0_5 l0_5.length c0_5) := (blk_cell BK304.out 5).trans rfl
      have hfz21_0 := blk_frozen BK304.out 0
      have hfz21_1 := blk_frozen BK304.out 1
      have hfz21_2 := blk_frozen BK304.out 2
      have hfz21_3 := blk_frozen BK304.out 3
      have hfz21_4 := blk_frozen BK304.out 4
      have hfz21_5 := blk_frozen BK304.out 5
      have p305 : 0 ≤ (x7_1 : Int) := of_decide_eq_true (by (with_reducible assumption))
      have q305 : x7_1 < (l0_2.length : Int) := of_decide_eq_true (by (with_reducible assumption))
      obtain ⟨ad305, e305, hx305_0⟩ := Kd.at_int HR0_2.out x7_1 p305 q305
      cases e305
      replace hx305_0 := (HB.out.cell (World.block_lt_of_cell? w _ hx305_0)).trans hx305_0
      replace p305 := eq_true p305
      replace q305 := eq_true q305
      go_wp2
      go_ret
      exact ⟨by rfl, by exact HB.out⟩
     rw [if_neg c20] at H
     have c20b0 : ((rd l0_2 x7_1) == 0) = false := beq_eq_false_iff_ne.mpr c20
     have c20b1 : ((rd l0_2 x7_1) != 0) = true := bne_iff_ne.mpr c20
     have H' := Aside0.mk H
     clear H
     have hcz22_0 : wr.cell? ⟨gb304, 0, none⟩ = some (.int .i64 a0_0) := (blk_cell BK304.out 0).trans rfl
     have hcz22_1 : wr.cell? ⟨gb304, 1, none⟩ = some (.slice A0_1 l0_1.length c0_1) := (blk_cell BK304.out 1).trans rfl
     have hcz22_2 : wr.cell? ⟨gb304, 2, none⟩ = some (.slice A0_2 l0_2.length c0_2) := (blk_cell BK304.out 2).trans rfl
     have hcz22_3 : wr.cell? ⟨gb304, 3, none⟩ = some (.slice A0_3 l0_3.length c0_3) := (blk_cell BK304.out 3).trans rfl
     have hcz22_4 : wr.cell? ⟨gb304, 4, none⟩ = some (.int .i64 a0_4) := (blk_cell BK304.out 4).trans rfl
     have hcz22_5 : wr.cell? ⟨gb304, 5, none⟩ = some (.slice A0_5 l0_5.length c0_5) := (blk_cell BK304.out 5).trans rfl
     have hfz22_0 := blk_frozen BK304.out 0
     have hfz22_1 := blk_frozen BK304.out 1
     have hfz22_2 := blk_frozen BK304.out 2
     have hfz22_3 := blk_frozen BK304.out 3
     have hfz22_4 := blk_frozen BK304.out 4
     have hfz22_5 := blk_frozen BK304.out 5
     have p305 : 0 ≤ (x7_1 : Int) := of_decide_eq_true (by (with_reducible assumption))
     have q305 : x7_1 < (l0_2.length : Int) := of_decide_eq_true (by (with_reducible assumption))
     obtain ⟨ad305, e305, hx305_0⟩ := Kd.at_int HR0_2.out x7_1 p305 q305
     cases e305
     replace hx305_0 := (HB.out.cell (World.block_lt_of_cell? w _ hx305_0)).trans hx305_0
     replace p305 := eq_true p305
     replace q305 := eq_true q305
     go_wp2
     go_roundg k1
     case measure => have := HK1.out; omega
     case rel => exact ⟨(wrap64 (x7_1 + 1)), (by rfl), H', ⟨by have := HK1.out; omega⟩, ⟨by exact BK304.out⟩, ⟨by exact HB.out⟩⟩
    rw [if_neg c19] at H
    exact absurd H (by simp)
   rw [if_neg c18] at H
   exact absurd H (by simp)
  rw [if_neg c17] at H
  have c17b0 : decide (x7_1 < (l0_2.length : Int)) = false := decide_eq_false c17
  clear c17
  by_cases c23 : (l0_2.length : Int) = (l0_1.length : Int)
  ·rw [if_pos c23] at H
   have c23b0 : ((l0_2.length : Int) == (l0_1.length : Int)) = true := beq_iff_eq.mpr c23
   have c23b1 : ((l0_2.length : Int) != (l0_1.length : Int)) = false := bne_eq_false_iff_eq.mpr c23
   have c23b2 : (l0_2.length == l0_1.length) = true := by (simp at c23 ⊢; omega)
   clear c23
   by_cases c24 : (l0_3.length : Int) = 0
   ·rw [if_pos c24] at H
    have c24b0 : ((l0_3.length : Int) == 0) = true := beq_iff_eq.mpr c24
    have c24b1 : ((l0_3.length : Int) != 0) = false := bne_eq_false_iff_eq.mpr c24
    clear c24
    obtain rfl := Option.some.inj H
    go_wp2
    go_ret
    exact ⟨by rfl, by exact HB.out⟩
   rw [if_neg c24] at H
   have c24b0 : ((l0_3.length : Int) == 0) = false := beq_eq_false_iff_ne.mpr c24
   have c24b1 : ((l0_3.length : Int) != 0) = true := bne_iff_ne.mpr c24
   have c24b2 : ¬ (l0_3 = []) := fun h_ => c24 (by rw [h_]; rfl)
   obtain rfl := Option.some.inj H
   go_wp2
   go_ret
   exact ⟨by rfl, by exact HB.out⟩
  rw [if_neg c23] at H
  have c23b0 : ((l0_2.length : Int) == (l0_1.length : Int)) = false := beq_eq_false_iff_ne.mpr c23
  have c23b1 : ((l0_2.length : Int) != (l0_1.length : Int)) = true := bne_iff_ne.mpr c23
  have c23b2 : (l0_2.length == l0_1.length) = false := by (simp at c23 ⊢; omega)
  obtain rfl := Option.some.inj H
  go_wp2
  go_ret
  exact ⟨by rfl, by exact HB.out⟩
 rw [if_neg c14] at H
 have c14b0 : (a0_0 == 2) = false := beq_eq_false_iff_ne.mpr c14
 have c14b1 : (a0_0 != 2) = true := bne_iff_ne.mpr c14
 by_cases c25 : a0_0 = 3
 ·rw [if_pos c25] at H
  have c25b0 : (a0_0 == 3) = true := beq_iff_eq.mpr c25
  have c25b1 : (a0_0 != 3) = false := bne_eq_false_iff_eq.mpr c25
  clear c25
  have H' := Aside0.mk H
  clear H
  go_enter Tryd.func34, Tryd.ntmps34
  go_wp2_with (((with_reducible refine gate_dst (N := 1) rfl ?_); refine box_event ?hg (N := 1) ?hd (cs := #[.int .i64 a0_0, .slice A0_1 l0_1.length c0_1, .slice A0_2 l0_2.length c0_2, .slice A0_3 l0_3.length c0_3, .int .i64 a0_4, .slice A0_5 l0_5.length c0_5]) (t := 44) ?hr ?_; (case hd => rfl); (case hg => rfl); (case hr => (go_simp; done)); intro gb304 hg w26 hbox hb; have n0_ := Aside0.mk (below_step (by exact HB.out) hb); have n1_ := Aside0.mk (hbox); have n2_ := Aside0.mk ((by rw [hg]; exact (below_size (by exact HB.out)) : w.heap.size ≤ gb304)); have n3_ := Aside0.mk ((by rw [hg]; exact (below_size (by exact HB.out)) : w.heap.size ≤ gb304)); clear HB; have HB := n0_; have BK304 := n1_; have GW304 := n2_; have GE304 := n3_; clear n0_ n1_ n2_ n3_; clear hb hbox hg; have hcz27_0 : w26.cell? ⟨gb304, 0, none⟩ = some (.int .i64 a0_0) := (blk_cell BK304.out 0).trans rfl; have hcz27_1 : w26.cell? ⟨gb304, 1, none⟩ = some (.slice A0_1 l0_1.length c0_1) := (blk_cell BK304.out 1).trans rfl; have hcz27_2 : w26.cell? ⟨gb304, 2, none⟩ = some (.slice A0_2 l0_2.length c0_2) := (blk_cell BK304.out 2).trans rfl; have hcz27_3 : w26.cell? ⟨gb304, 3, none⟩ = some (.slice A0_3 l0_3.length c0_3) := (blk_cell BK304.out 3).trans rfl; have hcz27_4 : w26.cell? ⟨gb304, 4, none⟩ = some (.int .i64 a0_4) := (blk_cell BK304.out 4).trans rfl; have hcz27_5 : w26.cell? ⟨gb304, 5, none⟩ = some (.slice A0_5 l0_5.length c0_5) := (blk_cell BK304.out 5).trans rfl; have hfz27_0 := blk_frozen BK304.out 0; have hfz27_1 := blk_frozen BK304.out 1; have hfz27_2 := blk_frozen BK304.out 2; have hfz27_3 := blk_frozen BK304.out 3; have hfz27_4 := blk_frozen BK304.out 4; have hfz27_5 := blk_frozen BK304.out 5))
  go_loopg [8] k (fun kq v8 w' => ∃ (x8_1 : Int), v8 = .int .i64 x8_1 ∧ Aside0 (optimaref3_formed.l1 kq (l0_1.length : Int) (l0_2.length : Int) (l0_3.length : Int) (l0_5.length : Int) x8_1 a0_0 l0_1 l0_2 l0_3 a0_4 l0_5 = some r) ∧ Aside0 (kq ≤ k) ∧ Aside0 (w'.heap[gb304]? = some (.cells #[.int .i64 a0_0, (.slice A0_1 l0_1.length c0_1), (.slice A0_2 l0_2.length c0_2), (.slice A0_3 l0_3.length c0_3), .int .i64 a0_4, (.slice A0_5 l0_5.length c0_5)] 44 (0, 0))) ∧ Aside0 (Below w.heap.size w w'))
  case atStart => exact ⟨(0), (by rfl), H', ⟨Nat.le_refl _⟩, ⟨by exact BK304.out⟩, ⟨by exact HB.out⟩⟩
  clear H'
  try clear c1
  try clear c2
  try clear c2b0
  try clear c2b1
  try clear p2
  try clear c3
  try clear c3b0
  try clear c3b1
  try clear c3b2
  try clear p3
  try clear q3
  try clear hx3
  try clear c4
  try clear c4b0
  try clear c4b1
  try clear c4b2
  try clear c5
  try clear c5b0
  try clear c5b1
  try clear c5b2
  try clear p6
  try clear c14
  try clear c14b0
  try clear c14b1
  try clear c17
  try clear c17b0
  try clear c18
  try clear c18b0
  try clear c19
  try clear c19b0
  try clear c20
  try clear c20b0
  try clear c20b1
  try clear c23
  try clear c23b0
  try clear c23b1
  try clear c23b2
  try clear c24
  try clear c24b0
  try clear c24b1
  try clear c24b2
  try clear c25
  try clear c25b0
  try clear c25b1
  try clear hcz11_0
  try clear hcz11_1
  try clear hcz11_2
  try clear hcz11_3
  try clear hcz11_4
  try clear hcz11_5
  try clear hcz13_0
  try clear hcz13_1
  try clear hcz13_2
  try clear hcz13_3
  try clear hcz13_4
  try clear hcz13_5
  try clear hcz16_0
  try clear hcz16_1
  try clear hcz16_2
  try clear hcz16_3
  try clear hcz16_4
  try clear hcz16_5
  try clear hcz21_0
  try clear hcz21_1
  try clear hcz21_2
  try clear hcz21_3
  try clear hcz21_4
  try clear hcz21_5
  try clear hcz22_0
  try clear hcz22_1
  try clear hcz22_2
  try clear hcz22_3
  try clear hcz22_4
  try clear hcz22_5
  try clear hcz27_0
  try clear hcz27_1
  try clear hcz27_2
  try clear hcz27_3
  try clear hcz27_4
  try clear hcz27_5
  try clear hcz7_0
  try clear hcz7_1
  try clear hcz7_2
  try clear hcz7_3
  try clear hcz7_4
  try clear hcz7_5
  try clear hcz9_0
  try clear hcz9_1
  try clear hcz9_2
  try clear hcz9_3
  try clear hcz9_4
  try clear hcz9_5
  try clear hfz11_0
  try clear hfz11_1
  try clear hfz11_2
  try clear hfz11_3
  try clear hfz11_4
  try clear hfz11_5
  try clear hfz13_0
  try clear hfz13_1
  try clear hfz13_2
  try clear hfz13_3
  try clear hfz13_4
  try clear hfz13_5
  try clear hfz16_0
  try clear hfz16_1
  try clear hfz16_2
  try clear hfz16_3
  try clear hfz16_4
  try clear hfz16_5
  try clear hfz21_0
  try clear hfz21_1
  try clear hfz21_2
  try clear hfz21_3
  try clear hfz21_4
  try clear hfz21_5
  try clear hfz22_0
  try clear hfz22_1
  try clear hfz22_2
  try clear hfz22_3
  try clear hfz22_4
  try clear hfz22_5
  try clear hfz27_0
  try clear hfz27_1
  try clear hfz27_2
  try clear hfz27_3
  try clear hfz27_4
  try clear hfz27_5
  try clear hfz7_0
  try clear hfz7_1
  try clear hfz7_2
  try clear hfz7_3
  try clear hfz7_4
  try clear hfz7_5
  try clear hfz9_0
  try clear hfz9_1
  try clear hfz9_2
  try clear hfz9_3
  try clear hfz9_4
  try clear hfz9_5
  try clear hx305_0
  try clear p2
  try clear p305
  try clear q305
  obtain ⟨x8_1, rfl, HA, HK1, BK304, HB⟩ := hrel
  rcases gk with _ | k1
  ·exact absurd HA.out (by simp [optimaref3_formed.l1])
  have H := HA.out
  clear HA
  simp only [optimaref3_formed.l1] at H
  by_cases c28 : x8_1 < (l0_5.length : Int)
  ·rw [if_pos c28] at H
   have c28b0 : decide (x8_1 < (l0_5.length : Int)) = true := decide_eq_true c28
   clear c28
   by_cases c29 : 0 ≤ x8_1
   ·rw [if_pos c29] at H
    have c29b0 : decide (0 ≤ x8_1) = true := decide_eq_true c29
    clear c29
    by_cases c30 : x8_1 < (l0_5.length : Int)
    ·rw [if_pos c30] at H
     have c30b0 : decide (x8_1 < (l0_5.length : Int)) = true := decide_eq_true c30
     clear c30
     by_cases c31 : ((rd_L1 l0_5 x8_1).length : Int) = (l0_1.length : Int)
     ·rw [if_pos c31] at H
      have c31b0 : (((rd_L1 l0_5 x8_1).length : Int) == (l0_1.length : Int)) = true := beq_iff_eq.mpr c31
      have c31b1 : (((rd_L1 l0_5 x8_1).length : Int) != (l0_1.length : Int)) = false := bne_eq_false_iff_eq.mpr c31
      have c31b2 : ((rd_L1 l0_5 x8_1).length == l0_1.length) = true := by (simp at c31 ⊢; omega)
      clear c31
      have H' := Aside0.mk H
      clear H
      have hcz32_0 : wr.cell? ⟨gb304, 0, none⟩ = some (.int .i64 a0_0) := (blk_cell BK304.out 0).trans rfl
      have hcz32_1 : wr.cell? ⟨gb304, 1, none⟩ = some (.slice A0_1 l0_1.length c0_1) := (blk_cell BK304.out 1).trans rfl
      have hcz32_2 : wr.cell? ⟨gb304, 2, none⟩ = some (.slice A0_2 l0_2.length c0_2) := (blk_cell BK304.out 2).trans rfl
      have hcz32_3 : wr.cell? ⟨gb304, 3, none⟩ = some (.slice A0_3 l0_3.length c0_3) := (blk_cell BK304.out 3).trans rfl
      have hcz32_4 : wr.cell? ⟨gb304, 4, none⟩ = some (.int .i64 a0_4) := (blk_cell BK304.out 4).trans rfl
      have hcz32_5 : wr.cell? ⟨gb304, 5, none⟩ = some (.slice A0_5 l0_5.length c0_5) := (blk_cell BK304.out 5).trans rfl
      have hfz32_0 := blk_frozen BK304.out 0
      have hfz32_1 := blk_frozen BK304.out 1
      have hfz32_2 := blk_frozen BK304.out 2
      have hfz32_3 := blk_frozen BK304.out 3
      have hfz32_4 := blk_frozen BK304.out 4
      have hfz32_5 := blk_frozen BK304.out 5
      have p306 : 0 ≤ (x8_1 : Int) := of_decide_eq_true (by (with_reducible assumption))
      have q306 : x8_1 < (l0_5.length : Int) := of_decide_eq_true (by (with_reducible assumption))
      obtain ⟨ad306, A306_0, c306_0, e306, hx306_0, hl306_0, hi306_0⟩ := at_L1 HR0_5.out x8_1 p306 q306
      cases e306
      replace hx306_0 := (HB.out.cell (World.block_lt_of_cell? w _ hx306_0)).trans hx306_0
      have HR306_0 := Aside0.mk hi306_0
      have HC306_0 := Aside0.mk hl306_0
      clear hi306_0 hl306_0
      replace p306 := eq_true p306
      replace q306 := eq_true q306
      go_wp2
      go_roundg k1
      case measure => have := HK1.out; omega
      case rel => exact ⟨(wrap64 (x8_1 + 1)), (by rfl), H', ⟨by have := HK1.out; omega⟩, ⟨by exact BK304.out⟩, ⟨by exact HB.out⟩⟩
     rw [if_neg c31] at H
     have c31b0 : (((rd_L1 l0_5 x8_1).length : Int) == (l0_1.length : Int)) = false := beq_eq_false_iff_ne.mpr c31
     have c31b1 : (((rd_L1 l0_5 x8_1).length : Int) != (l0_1.length : Int)) = true := bne_iff_ne.mpr c31
     have c31b2 : ((rd_L1 l0_5 x8_1).length == l0_1.length) = false := by (simp at c31 ⊢; omega)
     obtain rfl := Option.some.inj H
     have hcz33_0 : wr.cell? ⟨gb304, 0, none⟩ = some (.int .i64 a0_0) := (blk_cell BK304.out 0).trans rfl
     have hcz33_1 : wr.cell? ⟨gb304, 1, none⟩ = some (.slice A0_1 l0_1.length c0_1) := (blk_cell BK304.out 1).trans rfl
     have hcz33_2 : wr.cell? ⟨gb304, 2, none⟩ = some (.slice A0_2 l0_2.length c0_2) := (blk_cell BK304.out 2).trans rfl
     have hcz33_3 : wr.cell? ⟨gb304, 3, none⟩ = some (.slice A0_3 l0_3.length c0_3) := (blk_cell BK304.out 3).trans rfl
     have hcz33_4 : wr.cell? ⟨gb304, 4, none⟩ = some (.int .i64 a0_4) := (blk_cell BK304.out 4).trans rfl
     have hcz33_5 : wr.cell? ⟨gb304, 5, none⟩ = some (.slice A0_5 l0_5.length c0_5) := (blk_cell BK304.out 5).trans rfl
     have hfz33_0 := blk_frozen BK304.out 0
     have hfz33_1 := blk_frozen BK304.out 1
     have hfz33_2 := blk_frozen BK304.out 2
     have hfz33_3 := blk_frozen BK304.out 3
     have hfz33_4 := blk_frozen BK304.out 4
     have hfz33_5 := blk_frozen BK304.out 5
     have p306 : 0 ≤ (x8_1 : Int) := of_decide_eq_true (by (with_reducible assumption))
     have q306 : x8_1 < (l0_5.length : Int) := of_decide_eq_true (by (with_reducible assumption))
     obtain ⟨ad306, A306_0, c306_0, e306, hx306_0, hl306_0, hi306_0⟩ := at_L1 HR0_5.out x8_1 p306 q306
     cases e306
     replace hx306_0 := (HB.out.cell (World.block_lt_of_cell? w _ hx306_0)).trans hx306_0
     have HR306_0 := Aside0.mk hi306_0
     have HC306_0 := Aside0.mk hl306_0
     clear hi306_0 hl306_0
     replace p306 := eq_true p306
     replace q306 := eq_true q306
     go_wp2
     go_ret
     exact ⟨by rfl, by exact HB.out⟩
    rw [if_neg c30] at H
    exact absurd H (by simp)
   rw [if_neg c29] at H
   exact absurd H (by simp)
  rw [if_neg c28] at H
  have c28b0 : decide (x8_1 < (l0_5.length : Int)) = false := decide_eq_false c28
  clear c28
  by_cases c34 : (l0_2.length : Int) = 0
  ·rw [if_pos c34] at H
   have c34b0 : ((l0_2.length : Int) == 0) = true := beq_iff_eq.mpr c34
   have c34b1 : ((l0_2.length : Int) != 0) = false := bne_eq_false_iff_eq.mpr c34
   clear c34
   by_cases c35 : (l0_3.length : Int) = 0
   ·rw [if_pos c35] at H
    have c35b0 : ((l0_3.length : Int) == 0) = true := beq_iff_eq.mpr c35
    have c35b1 : ((l0_3.length : Int) != 0) = false := bne_eq_false_iff_eq.mpr c35
    clear c35
    obtain rfl := Option.some.inj H
    have hcz36_0 : wr.cell? ⟨gb304, 0, none⟩ = some (.int .i64 a0_0) := (blk_cell BK304.out 0).trans rfl
    have hcz36_1 : wr.cell? ⟨gb304, 1, none⟩ = some (.slice A0_1 l0_1.length c0_1) := (blk_cell BK304.out 1).trans rfl
    have hcz36_2 : wr.cell? ⟨gb304, 2, none⟩ = some (.slice A0_2 l0_2.length c0_2) := (blk_cell BK304.out 2).trans rfl
    have hcz36_3 : wr.cell? ⟨gb304, 3, none⟩ = some (.slice A0_3 l0_3.length c0_3) := (blk_cell BK304.out 3).trans rfl
    have hcz36_4 : wr.cell? ⟨gb304, 4, none⟩ = some (.int .i64 a0_4) := (blk_cell BK304.out 4).trans rfl
    have hcz36_5 : wr.cell? ⟨gb304, 5, none⟩ = some (.slice A0_5 l0_5.length c0_5) := (blk_cell BK304.out 5).trans rfl
    have hfz36_0 := blk_frozen BK304.out 0
    have hfz36_1 := blk_frozen BK304.out 1
    have hfz36_2 := blk_frozen BK304.out 2
    have hfz36_3 := blk_frozen BK304.out 3
    have hfz36_4 := blk_frozen BK304.out 4
    have hfz36_5 := blk_frozen BK304.out 5
    go_wp2
    go_ret
    exact ⟨by rfl, by exact HB.out⟩
   rw [if_neg c35] at H
   have c35b0 : ((l0_3.length : Int) == 0) = false := beq_eq_false_iff_ne.mpr c35
   have c35b1 : ((l0_3.length : Int) != 0) = true := bne_iff_ne.mpr c35
   have c35b2 : ¬ (l0_3 = []) := fun h_ => c35 (by rw [h_]; rfl)
   obtain rfl := Option.some.inj H
   go_wp2
   go_ret
   exact ⟨by rfl, by exact HB.out⟩
  rw [if_neg c34] at H
  have c34b0 : ((l0_2.length : Int) == 0) = false := beq_eq_false_iff_ne.mpr c34
  have c34b1 : ((l0_2.length : Int) != 0) = true := bne_iff_ne.mpr c34
  have c34b2 : ¬ (l0_2 = []) := fun h_ => c34 (by rw [h_]; rfl)
  obtain rfl := Option.some.inj H
  go_wp2
  go_ret
  exact ⟨by rfl, by exact HB.out⟩
 rw [if_neg c25] at H
 have c25b0 : (a0_0 == 3) = false := beq_eq_false_iff_ne.mpr c25
 have c25b1 : (a0_0 != 3) = true := bne_iff_ne.mpr c25
 by_cases c37 : a0_0 = 4
 ·rw [if_pos c37] at H
  have c37b0 : (a0_0 == 4) = true := beq_iff_eq.mpr c37
  have c37b1 : (a0_0 != 4) = false := bne_eq_false_iff_eq.mpr c37
  clear c37
  by_cases c38 : (l0_1.length : Int) ≥ 2
  ·rw [if_pos c38] at H
   have c38b0 : decide (2 ≤ (l0_1.length : Int)) = true := decide_eq_true c38
   have c38b1 : decide (2 ≤ l0_1.length) = true := decide_eq_true (by omega)
   clear c38
   by_cases c39 : (l0_2.length : Int) = 0
   ·rw [if_pos c39] at H
    have c39b0 : ((l0_2.length : Int) == 0) = true := beq_iff_eq.mpr c39
    have c39b1 : ((l0_2.length : Int) != 0) = false := bne_eq_false_iff_eq.mpr c39
    clear c39
    by_cases c40 : (l0_3.length : Int) = 0
    ·rw [if_pos c40] at H
     have c40b0 : ((l0_3.length : Int) == 0) = true := beq_iff_eq.mpr c40
     have c40b1 : ((l0_3.length : Int) != 0) = false := bne_eq_false_iff_eq.mpr c40
     clear c40
     by_cases c41 : (l0_5.length : Int) = 0
     ·rw [if_pos c41] at H
      have c41b0 : ((l0_5.length : Int) == 0) = true := beq_iff_eq.mpr c41
      have c41b1 : ((l0_5.length : Int) != 0) = false := bne_eq_false_iff_eq.mpr c41
      clear c41
      obtain rfl := Option.some.inj H
      go_enter Tryd.func34, Tryd.ntmps34
      go_wp2_with (((with_reducible refine gate_dst (N := 1) rfl ?_); refine box_event ?hg (N := 1) ?hd (cs := #[.int .i64 a0_0, .slice A0_1 l0_1.length c0_1, .slice A0_2 l0_2.length c0_2, .slice A0_3 l0_3.length c0_3, .int .i64 a0_4, .slice A0_5 l0_5.length c0_5]) (t := 44) ?hr ?_; (case hd => rfl); (case hg => rfl); (case hr => (go_simp; done)); intro gb304 hg w42 hbox hb; have n0_ := Aside0.mk (below_step (by exact HB.out) hb); have n1_ := Aside0.mk (hbox); have n2_ := Aside0.mk ((by rw [hg]; exact (below_size (by exact HB.out)) : w.heap.size ≤ gb304)); have n3_ := Aside0.mk ((by rw [hg]; exact (below_size (by exact HB.out)) : w.heap.size ≤ gb304)); clear HB; have HB := n0_; have BK304 := n1_; have GW304 := n2_; have GE304 := n3_; clear n0_ n1_ n2_ n3_; clear hb hbox hg; have hcz43_0 : w42.cell? ⟨gb304, 0, none⟩ = some (.int .i64 a0_0) := (blk_cell BK304.out 0).trans rfl; have hcz43_1 : w42.cell? ⟨gb304, 1, none⟩ = some (.slice A0_1 l0_1.length c0_1) := (blk_cell BK304.out 1).trans rfl; have hcz43_2 : w42.cell? ⟨gb304, 2, none⟩ = some (.slice A0_2 l0_2.length c0_2) := (blk_cell BK304.out 2).trans rfl; have hcz43_3 : w42.cell? ⟨gb304, 3, none⟩ = some (.slice A0_3 l0_3.length c0_3) := (blk_cell BK304.out 3).trans rfl; have hcz43_4 : w42.cell? ⟨gb304, 4, none⟩ = some (.int .i64 a0_4) := (blk_cell BK304.out 4).trans rfl; have hcz43_5 : w42.cell? ⟨gb304, 5, none⟩ = some (.slice A0_5 l0_5.length c0_5) := (blk_cell BK304.out 5).trans rfl; have hfz43_0 := blk_frozen BK304.out 0; have hfz43_1 := blk_frozen BK304.out 1; have hfz43_2 := blk_frozen BK304.out 2; have hfz43_3 := blk_frozen BK304.out 3; have hfz43_4 := blk_frozen BK304.out 4; have hfz43_5 := blk_frozen BK304.out 5))
      go_ret
      exact ⟨by rfl, by exact HB.out⟩
     rw [if_neg c41] at H
     have c41b0 : ((l0_5.length : Int) == 0) = false := beq_eq_false_iff_ne.mpr c41
     have c41b1 : ((l0_5.length : Int) != 0) = true := bne_iff_ne.mpr c41
     have c41b2 : ¬ (l0_5 = []) := fun h_ => c41 (by rw [h_]; rfl)
     obtain rfl := Option.some.inj H
     go_enter Tryd.func34, Tryd.ntmps34
     go_wp2_with (((with_reducible refine gate_dst (N := 1) rfl ?_); refine box_event ?hg (N := 1) ?hd (cs := #[.int .i64 a0_0, .slice A0_1 l0_1.length c0_1, .slice A0_2 l0_2.length c0_2, .slice A0_3 l0_3.length c0_3, .int .i64 a0_4, .slice A0_5 l0_5.length c0_5]) (t := 44) ?hr ?_; (case hd => rfl); (case hg => rfl); (case hr => (go_simp; done)); intro gb304 hg w44 hbox hb; have n0_ := Aside0.mk (below_step (by exact HB.out) hb); have n1_ := Aside0.mk (hbox); have n2_ := Aside0.mk ((by rw [hg]; exact (below_size (by exact HB.out)) : w.heap.size ≤ gb304)); have n3_ := Aside0.mk ((by rw [hg]; exact (below_size (by exact HB.out)) : w.heap.size ≤ gb304)); clear HB; have HB := n0_; have BK304 := n1_; have GW304 := n2_; have GE304 := n3_; clear n0_ n1_ n2_ n3_; clear hb hbox hg; have hcz45_0 : w44.cell? ⟨gb304, 0, none⟩ = some (.int .i64 a0_0) := (blk_cell BK304.out 0).trans rfl; have hcz45_1 : w44.cell? ⟨gb304, 1, none⟩ = some (.slice A0_1 l0_1.length c0_1) := (blk_cell BK304.out 1).trans rfl; have hcz45_2 : w44.cell? ⟨gb304, 2, none⟩ = some (.slice A0_2 l0_2.length c0_2) := (blk_cell BK304.out 2).trans rfl; have hcz45_3 : w44.cell? ⟨gb304, 3, none⟩ = some (.slice A0_3 l0_3.length c0_3) := (blk_cell BK304.out 3).trans rfl; have hcz45_4 : w44.cell? ⟨gb304, 4, none⟩ = some (.int .i64 a0_4) := (blk_cell BK304.out 4).trans rfl; have hcz45_5 : w44.cell? ⟨gb304, 5, none⟩ = some (.slice A0_5 l0_5.length c0_5) := (blk_cell BK304.out 5).trans rfl; have hfz45_0 := blk_frozen BK304.out 0; have hfz45_1 := blk_frozen BK304.out 1; have hfz45_2 := blk_frozen BK304.out 2; have hfz45_3 := blk_frozen BK304.out 3; have hfz45_4 := blk_frozen BK304.out 4; have hfz45_5 := blk_frozen BK304.out 5))
     go_ret
     exact ⟨by rfl, by exact HB.out⟩
    rw [if_neg c40] at H
    have c40b0 : ((l0_3.length : Int) == 0) = false := beq_eq_false_iff_ne.mpr c40
    have c40b1 : ((l0_3.length : Int) != 0) = true := bne_iff_ne.mpr c40
    have c40b2 : ¬ (l0_3 = []) := fun h_ => c40 (by rw [h_]; rfl)
    obtain rfl := Option.some.inj H
    go_enter Tryd.func34, Tryd.ntmps34
    go_wp2_with (((with_reducible refine gate_dst (N := 1) rfl ?_); refine box_event ?hg (N := 1) ?hd (cs := #[.int .i64 a0_0, .slice A0_1 l0_1.length c0_1, .slice A0_2 l0_2.length c0_2, .slice A0_3 l0_3.length c0_3, .int .i64 a0_4, .slice A0_5 l0_5.length c0_5]) (t := 44) ?hr ?_; (case hd => rfl); (case hg => rfl); (case hr => (go_simp; done)); intro gb304 hg w46 hbox hb; have n0_ := Aside0.mk (below_step (by exact HB.out) hb); have n1_ := Aside0.mk (hbox); have n2_ := Aside0.mk ((by rw [hg]; exact (below_size (by exact HB.out)) : w.heap.size ≤ gb304)); have n3_ := Aside0.mk ((by rw [hg]; exact (below_size (by exact HB.out)) : w.heap.size ≤ gb304)); clear HB; have HB := n0_; have BK304 := n1_; have GW304 := n2_; have GE304 := n3_; clear n0_ n1_ n2_ n3_; clear hb hbox hg; have hcz47_0 : w46.cell? ⟨gb304, 0, none⟩ = some (.int .i64 a0_0) := (blk_cell BK304.out 0).trans rfl; have hcz47_1 : w46.cell? ⟨gb304, 1, none⟩ = some (.slice A0_1 l0_1.length c0_1) := (blk_cell BK304.out 1).trans rfl; have hcz47_2 : w46.cell? ⟨gb304, 2, none⟩ = some (.slice A0_2 l0_2.length c0_2) := (blk_cell BK304.out 2).trans rfl; have hcz47_3 : w46.cell? ⟨gb304, 3, none⟩ = some (.slice A0_3 l0_3.length c0_3) := (blk_cell BK304.out 3).trans rfl; have hcz47_4 : w46.cell? ⟨gb304, 4, none⟩ = some (.int .i64 a0_4) := (blk_cell BK304.out 4).trans rfl; have hcz47_5 : w46.cell? ⟨gb304, 5, none⟩ = some (.slice A0_5 l0_5.length c0_5) := (blk_cell BK304.out 5).trans rfl; have hfz47_0 := blk_frozen BK304.out 0; have hfz47_1 := blk_frozen BK304.out 1; have hfz47_2 := blk_frozen BK304.out 2; have hfz47_3 := blk_frozen BK304.out 3; have hfz47_4 := blk_frozen BK304.out 4; have hfz47_5 := blk_frozen BK304.out 5))
    go_ret
    exact ⟨by rfl, by exact HB.out⟩
   rw [if_neg c39] at H
   have c39b0 : ((l0_2.length : Int) == 0) = false := beq_eq_false_iff_ne.mpr c39
   have c39b1 : ((l0_2.length : Int) != 0) = true := bne_iff_ne.mpr c39
   have c39b2 : ¬ (l0_2 = []) := fun h_ => c39 (by rw [h_]; rfl)
   obtain rfl := Option.some.inj H
   go_enter Tryd.func34, Tryd.ntmps34
   go_wp2_with (((with_reducible refine gate_dst (N := 1) rfl ?_); refine box_event ?hg (N := 1) ?hd (cs := #[.int .i64 a0_0, .slice A0_1 l0_1.length c0_1, .slice A0_2 l0_2.length c0_2, .slice A0_3 l0_3.length c0_3, .int .i64 a0_4, .slice A0_5 l0_5.length c0_5]) (t := 44) ?hr ?_; (case hd => rfl); (case hg => rfl); (case hr => (go_simp; done)); intro gb304 hg w48 hbox hb; have n0_ := Aside0.mk (below_step (by exact HB.out) hb); have n1_ := Aside0.mk (hbox); have n2_ := Aside0.mk ((by rw [hg]; exact (below_size (by exact HB.out)) : w.heap.size ≤ gb304)); have n3_ := Aside0.mk ((by rw [hg]; exact (below_size (by exact HB.out)) : w.heap.size ≤ gb304)); clear HB; have HB := n0_; have BK304 := n1_; have GW304 := n2_; have GE304 := n3_; clear n0_ n1_ n2_ n3_; clear hb hbox hg; have hcz49_0 : w48.cell? ⟨gb304, 0, none⟩ = some (.int .i64 a0_0) := (blk_cell BK304.out 0).trans rfl; have hcz49_1 : w48.cell? ⟨gb304, 1, none⟩ = some (.slice A0_1 l0_1.length c0_1) := (blk_cell BK304.out 1).trans rfl; have hcz49_2 : w48.cell? ⟨gb304, 2, none⟩ = some (.slice A0_2 l0_2.length c0_2) := (blk_cell BK304.out 2).trans rfl; have hcz49_3 : w48.cell? ⟨gb304, 3, none⟩ = some (.slice A0_3 l0_3.length c0_3) := (blk_cell BK304.out 3).trans rfl; have hcz49_4 : w48.cell? ⟨gb304, 4, none⟩ = some (.int .i64 a0_4) := (blk_cell BK304.out 4).trans rfl; have hcz49_5 : w48.cell? ⟨gb304, 5, none⟩ = some (.slice A0_5 l0_5.length c0_5) := (blk_cell BK304.out 5).trans rfl; have hfz49_0 := blk_frozen BK304.out 0; have hfz49_1 := blk_frozen BK304.out 1; have hfz49_2 := blk_frozen BK304.out 2; have hfz49_3 := blk_frozen BK304.out 3; have hfz49_4 := blk_frozen BK304.out 4; have hfz49_5 := blk_frozen BK304.out 5))
   go_ret
   exact ⟨by rfl, by exact HB.out⟩
  rw [if_neg c38] at H
  have c38b0 : decide (2 ≤ (l0_1.length : Int)) = false := decide_eq_false c38
  have c38b1 : decide (2 ≤ l0_1.length) = false := decide_eq_false (by omega)
  clear c38
  obtain rfl := Option.some.inj H
  go_enter Tryd.func34, Tryd.ntmps34
  go_wp2_with (((with_reducible refine gate_dst (N := 1) rfl ?_); refine box_event ?hg (N := 1) ?hd (cs := #[.int .i64 a0_0, .slice A0_1 l0_1.length c0_1, .slice A0_2 l0_2.length c0_2, .slice A0_3 l0_3.length c0_3, .int .i64 a0_4, .slice A0_5 l0_5.length c0_5]) (t := 44) ?hr ?_; (case hd => rfl); (case hg => rfl); (case hr => (go_simp; done)); intro gb304 hg w50 hbox hb; have n0_ := Aside0.mk (below_step (by exact HB.out) hb); have n1_ := Aside0.mk (hbox); have n2_ := Aside0.mk ((by rw [hg]; exact (below_size (by exact HB.out)) : w.heap.size ≤ gb304)); have n3_ := Aside0.mk ((by rw [hg]; exact (below_size (by exact HB.out)) : w.heap.size ≤ gb304)); clear HB; have HB := n0_; have BK304 := n1_; have GW304 := n2_; have GE304 := n3_; clear n0_ n1_ n2_ n3_; clear hb hbox hg; have hcz51_0 : w50.cell? ⟨gb304, 0, none⟩ = some (.int .i64 a0_0) := (blk_cell BK304.out 0).trans rfl; have hcz51_1 : w50.cell? ⟨gb304, 1, none⟩ = some (.slice A0_1 l0_1.length c0_1) := (blk_cell BK304.out 1).trans rfl; have hcz51_2 : w50.cell? ⟨gb304, 2, none⟩ = some (.slice A0_2 l0_2.length c0_2) := (blk_cell BK304.out 2).trans rfl; have hcz51_3 : w50.cell? ⟨gb304, 3, none⟩ = some (.slice A0_3 l0_3.length c0_3) := (blk_cell BK304.out 3).trans rfl; have hcz51_4 : w50.cell? ⟨gb304, 4, none⟩ = some (.int .i64 a0_4) := (blk_cell BK304.out 4).trans rfl; have hcz51_5 : w50.cell? ⟨gb304, 5, none⟩ = some (.slice A0_5 l0_5.length c0_5) := (blk_cell BK304.out 5).trans rfl; have hfz51_0 := blk_frozen BK304.out 0; have hfz51_1 := blk_frozen BK304.out 1; have hfz51_2 := blk_frozen BK304.out 2; have hfz51_3 := blk_frozen BK304.out 3; have hfz51_4 := blk_frozen BK304.out 4; have hfz51_5 := blk_frozen BK304.out 5))
  go_ret
  exact ⟨by rfl, by exact HB.out⟩
 rw [if_neg c37] at H
 have c37b0 : (a0_0 == 4) = false := beq_eq_false_iff_ne.mpr c37
 have c37b1 : (a0_0 != 4) = true := bne_iff_ne.mpr c37
 by_cases c52 : a0_0 = 5
 ·rw [if_pos c52] at H
  have c52b0 : (a0_0 == 5) = true := beq_iff_eq.mpr c52
  have c52b1 : (a0_0 != 5) = false := bne_eq_false_iff_eq.mpr c52
  clear c52
  have HC53 := Aside0.mk H
  clear H
  go_enter Tryd.func34, Tryd.ntmps34
  go_upto_region 25 with (((with_reducible refine gate_dst (N := 1) rfl ?_); refine box_event ?hg (N := 1) ?hd (cs := #[.int .i64 a0_0, .slice A0_1 l0_1.length c0_1, .slice A0_2 l0_2.length c0_2, .slice A0_3 l0_3.length c0_3, .int .i64 a0_4, .slice A0_5 l0_5.length c0_5]) (t := 44) ?hr ?_; (case hd => rfl); (case hg => rfl); (case hr => (go_simp; done)); intro gb304 hg w54 hbox hb; have n0_ := Aside0.mk (below_step (by exact HB.out) hb); have n1_ := Aside0.mk (hbox); have n2_ := Aside0.mk ((by rw [hg]; exact (below_size (by exact HB.out)) : w.heap.size ≤ gb304)); have n3_ := Aside0.mk ((by rw [hg]; exact (below_size (by exact HB.out)) : w.heap.size ≤ gb304)); clear HB; have HB := n0_; have BK304 := n1_; have GW304 := n2_; have GE304 := n3_; clear n0_ n1_ n2_ n3_; clear hb hbox hg; have hcz55_0 : w54.cell? ⟨gb304, 0, none⟩ = some (.int .i64 a0_0) := (blk_cell BK304.out 0).trans rfl; have hcz55_1 : w54.cell? ⟨gb304, 1, none⟩ = some (.slice A0_1 l0_1.length c0_1) := (blk_cell BK304.out 1).trans rfl; have hcz55_2 : w54.cell? ⟨gb304, 2, none⟩ = some (.slice A0_2 l0_2.length c0_2) := (blk_cell BK304.out 2).trans rfl; have hcz55_3 : w54.cell? ⟨gb304, 3, none⟩ = some (.slice A0_3 l0_3.length c0_3) := (blk_cell BK304.out 3).trans rfl; have hcz55_4 : w54.cell? ⟨gb304, 4, none⟩ = some (.int .i64 a0_4) := (blk_cell BK304.out 4).trans rfl; have hcz55_5 : w54.cell? ⟨gb304, 5, none⟩ = some (.slice A0_5 l0_5.length c0_5) := (blk_cell BK304.out 5).trans rfl; have hfz55_0 := blk_frozen BK304.out 0; have hfz55_1 := blk_frozen BK304.out 1; have hfz55_2 := blk_frozen BK304.out 2; have hfz55_3 := blk_frozen BK304.out 3; have hfz55_4 := blk_frozen BK304.out 4; have hfz55_5 := blk_frozen BK304.out 5))
  (try simp only [Act.put, List.setIfInBounds_toArray, List.set_cons_zero, List.set_cons_succ])
  go_cut [130] (fun v130 wc => ∃ (kq : Nat) (x130_52 : Bool), v130 = .bool x130_52 ∧ Aside0 (optimaref3_formed.j2 kq (l0_1.length : Int) x130_52 a0_0 l0_1 l0_2 l0_3 a0_4 l0_5 = some r) ∧ Aside0 (kq ≤ k) ∧ Aside0 (wc.heap[gb304]? = some (.cells #[.int .i64 a0_0, (.slice A0_1 l0_1.length c0_1), (.slice A0_2 l0_2.length c0_2), (.slice A0_3 l0_3.length c0_3), .int .i64 a0_4, (.slice A0_5 l0_5.length c0_5)] 44 (0, 0))) ∧ Aside0 (Below w.heap.size w wc))
  case first =>
   have H := HC53.out
   clear HC53
   by_cases c56 : (l0_2.length : Int) = (l0_1.length : Int)
   ·rw [if_pos c56] at H
    have c56b0 : ((l0_2.length : Int) == (l0_1.length : Int)) = true := beq_iff_eq.mpr c56
    have c56b1 : ((l0_2.length : Int) != (l0_1.length : Int)) = false := bne_eq_false_iff_eq.mpr c56
    have c56b2 : (l0_2.length == l0_1.length) = true := by (simp at c56 ⊢; omega)
    clear c56
    (skip)
    by_cases c57 : (l0_3.length : Int) = (l0_1.length : Int)
    ·rw [if_pos c57] at H
     have c57b0 : ((l0_3.length : Int) == (l0_1.length : Int)) = true := beq_iff_eq.mpr c57
     have c57b1 : ((l0_3.length : Int) != (l0_1.length : Int)) = false := bne_eq_false_iff_eq.mpr c57
     have c57b2 : (l0_3.length == l0_1.length) = true := by (simp at c57 ⊢; omega)
     clear c57
     by_cases c58 : (l0_5.length : Int) > 0
     ·rw [if_pos c58] at H
      have c58b0 : decide (0 < (l0_5.length : Int)) = true := decide_eq_true c58
      have c58b1 : decide (0 < l0_5.length) = true := decide_eq_true (by omega)
      clear c58
      have H' := Aside0.mk H
      clear H
      go_wp2
      go_meet
      case rel => exact ⟨_, (true), (by rfl), H', ⟨by omega⟩, ⟨by exact BK304.out⟩, ⟨by exact HB.out⟩⟩
     rw [if_neg c58] at H
     have c58b0 : decide (0 < (l0_5.length : Int)) = false := decide_eq_false c58
     have c58b1 : decide (0 < l0_5.length) = false := decide_eq_false (by omega)
     clear c58
     have H' := Aside0.mk H
     clear H
     have hcz59_0 : w54.cell? ⟨gb304, 0, none⟩ = some (.int .i64 a0_0) := (blk_cell BK304.out 0).trans rfl
     have hcz59_1 : w54.cell? ⟨gb304, 1, none⟩ = some (.slice A0_1 l0_1.length c0_1) := (blk_cell BK304.out 1).trans rfl
     have hcz59_2 : w54.cell? ⟨gb304, 2, none⟩ = some (.slice A0_2 l0_2.length c0_2) := (blk_cell BK304.out 2).trans rfl
     have hcz59_3 : w54.cell? ⟨gb304, 3, none⟩ = some (.slice A0_3 l0_3.length c0_3) := (blk_cell BK304.out 3).trans rfl
     have hcz59_4 : w54.cell? ⟨gb304, 4, none⟩ = some (.int .i64 a0_4) := (blk_cell BK304.out 4).trans rfl
     have hcz59_5 : w54.cell? ⟨gb304, 5, none⟩ = some (.slice A0_5 l0_5.length c0_5) := (blk_cell BK304.out 5).trans rfl
     have hfz59_0 := blk_frozen BK304.out 0
     have hfz59_1 := blk_frozen BK304.out 1
     have hfz59_2 := blk_frozen BK304.out 2
     have hfz59_3 := blk_frozen BK304.out 3
     have hfz59_4 := blk_frozen BK304.out 4
     have hfz59_5 := blk_frozen BK304.out 5
     go_wp2
     go_meet
     case rel => exact ⟨_, (decide (a0_4 < 0)), (by rfl), H', ⟨by omega⟩, ⟨by exact BK304.out⟩, ⟨by exact HB.out⟩⟩
    rw [if_neg c57] at H
    have c57b0 : ((l0_3.length : Int) == (l0_1.length : Int)) = false := beq_eq_false_iff_ne.mpr c57
    have c57b1 : ((l0_3.length : Int) != (l0_1.length : Int)) = true := bne_iff_ne.mpr c57
    have c57b2 : (l0_3.length == l0_1.length) = false := by (simp at c57 ⊢; omega)
    have H' := Aside0.mk H
    clear H
    go_wp2
    go_meet
    case rel => exact ⟨_, (true), (by rfl), H', ⟨by omega⟩, ⟨by exact BK304.out⟩, ⟨by exact HB.out⟩⟩
   rw [if_neg c56] at H
   have c56b0 : ((l0_2.length : Int) == (l0_1.length : Int)) = false := beq_eq_false_iff_ne.mpr c56
   have c56b1 : ((l0_2.length : Int) != (l0_1.length : Int)) = true := bne_iff_ne.mpr c56
   have c56b2 : (l0_2.length == l0_1.length) = false := by (simp at c56 ⊢; omega)
   (skip)
   have H' := Aside0.mk H
   clear H
   go_wp2
   go_meet
   case rel => exact ⟨_, (true), (by rfl), H', ⟨by omega⟩, ⟨by exact BK304.out⟩, ⟨by exact HB.out⟩⟩
  clear HC53
  try clear c1
  try clear c2
  try clear c2b0
  try clear c2b1
  try clear p2
  try clear c3
  try clear c3b0
  try clear c3b1
  try clear c3b2
  try clear p3
  try clear q3
  try clear hx3
  try clear c4
  try clear c4b0
  try clear c4b1
  try clear c4b2
  try clear c5
  try clear c5b0
  try clear c5b1
  try clear c5b2
  try clear p6
  try clear c14
  try clear c14b0
  try clear c14b1
  try clear c17
  try clear c17b0
  try clear c18
  try clear c18b0
  try clear c19
  try clear c19b0
  try clear c20
  try clear c20b0
  try clear c20b1
  try clear c23
  try clear c23b0
  try clear c23b1
  try clear c23b2
  try clear c24
  try clear c24b0
  try clear c24b1
  try clear c24b2
  try clear c25
  try clear c25b0
  try clear c25b1
  try clear c28
  try clear c28b0
  try clear c29
  try clear c29b0
  try clear c30
  try clear c30b0
  try clear p30
  try clear q30
  try clear hx30
  try clear c31
  try clear c31b0
  try clear c31b1
  try clear c31b2
  try clear c34
  try clear c34b0
  try clear c34b1
  try clear c34b2
  try clear c35
  try clear c35b0
  try clear c35b1
  try clear c35b2
  try clear c37
  try clear c37b0
  try clear c37b1
  try clear c38
  try clear c38b0
  try clear c38b1
  try clear c39
  try clear c39b0
  try clear c39b1
  try clear c39b2
  try clear c40
  try clear c40b0
  try clear c40b1
  try clear c40b2
  try clear c41
  try clear c41b0
  try clear c41b1
  try clear c41b2
  try clear c52
  try clear c52b0
  try clear c52b1
  try clear c56
  try clear c56b0
  try clear c56b1
  try clear c56b2
  try clear c57
  try clear c57b0
  try clear c57b1
  try clear c57b2
  try clear c58
  try clear c58b0
  try clear c58b1
  try clear hcz11_0
  try clear hcz11_1
  try clear hcz11_2
  try clear hcz11_3
  try clear hcz11_4
  try clear hcz11_5
  try clear hcz13_0
  try clear hcz13_1
  try clear hcz13_2
  try clear hcz13_3
  try clear hcz13_4
  try clear hcz13_5
  try clear hcz16_0
  try clear hcz16_1
  try clear hcz16_2
  try clear hcz16_3
  try clear hcz16_4
  try clear hcz16_5
  try clear hcz21_0
  try clear hcz21_1
  try clear hcz21_2
  try clear hcz21_3
  try clear hcz21_4
  try clear hcz21_5
  try clear hcz22_0
  try clear hcz22_1
  try clear hcz22_2
  try clear hcz22_3
  try clear hcz22_4
  try clear hcz22_5
  try clear hcz27_0
  try clear hcz27_1
  try clear hcz27_2
  try clear hcz27_3
  try clear hcz27_4
  try clear hcz27_5
  try clear hcz32_0
  try clear hcz32_1
  try clear hcz32_2
  try clear hcz32_3
  try clear hcz32_4
  try clear hcz32_5
  try clear hcz33_0
  try clear hcz33_1
  try clear hcz33_2
  try clear hcz33_3
  try clear hcz33_4
  try clear hcz33_5
  try clear hcz36_0
  try clear hcz36_1
  try clear hcz36_2
  try clear hcz36_3
  try clear hcz36_4
  try clear hcz36_5
  try clear hcz43_0
  try clear hcz43_1
  try clear hcz43_2
  try clear hcz43_3
  try clear hcz43_4
  try clear hcz43_5
  try clear hcz45_0
  try clear hcz45_1
  try clear hcz45_2
  try clear hcz45_3
  try clear hcz45_4
  try clear hcz45_5
  try clear hcz47_0
  try clear hcz47_1
  try clear hcz47_2
  try clear hcz47_3
  try clear hcz47_4
  try clear hcz47_5
  try clear hcz49_0
  try clear hcz49_1
  try clear hcz49_2
  try clear hcz49_3
  try clear hcz49_4
  try clear hcz49_5
  try clear hcz51_0
  try clear hcz51_1
  try clear hcz51_2
  try clear hcz51_3
  try clear hcz51_4
  try clear hcz51_5
  try clear hcz55_0
  try clear hcz55_1
  try clear hcz55_2
  try clear hcz55_3
  try clear hcz55_4
  try clear hcz55_5
  try clear hcz59_0
  try clear hcz59_1
  try clear hcz59_2
  try clear hcz59_3
  try clear hcz59_4
  try clear hcz59_5
  try clear hcz7_0
  try clear hcz7_1
  try clear hcz7_2
  try clear hcz7_3
  try clear hcz7_4
  try clear hcz7_5
  try clear hcz9_0
  try clear hcz9_1
  try clear hcz9_2
  try clear hcz9_3
  try clear hcz9_4
  try clear hcz9_5
  try clear hfz11_0
  try clear hfz11_1
  try clear hfz11_2
  try clear hfz11_3
  try clear hfz11_4
  try clear hfz11_5
  try clear hfz13_0
  try clear hfz13_1
  try clear hfz13_2
  try clear hfz13_3
  try clear hfz13_4
  try clear hfz13_5
  try clear hfz16_0
  try clear hfz16_1
  try clear hfz16_2
  try clear hfz16_3
  try clear hfz16_4
  try clear hfz16_5
  try clear hfz21_0
  try clear hfz21_1
  try clear hfz21_2
  try clear hfz21_3
  try clear hfz21_4
  try clear hfz21_5
  try clear hfz22_0
  try clear hfz22_1
  try clear hfz22_2
  try clear hfz22_3
  try clear hfz22_4
  try clear hfz22_5
  try clear hfz27_0
  try clear hfz27_1
  try clear hfz27_2
  try clear hfz27_3
  try clear hfz27_4
  try clear hfz27_5
  try clear hfz32_0
  try clear hfz32_1
  try clear hfz32_2
  try clear hfz32_3
  try clear hfz32_4
  try clear hfz32_5
  try clear hfz33_0
  try clear hfz33_1
  try clear hfz33_2
  try clear hfz33_3
  try clear hfz33_4
  try clear hfz33_5
  try clear hfz36_0
  try clear hfz36_1
  try clear hfz36_2
  try clear hfz36_3
  try clear hfz36_4
  try clear hfz36_5
  try clear hfz43_0
  try clear hfz43_1
  try clear hfz43_2
  try clear hfz43_3
  try clear hfz43_4
  try clear hfz43_5
  try clear hfz45_0
  try clear hfz45_1
  try clear hfz45_2
  try clear hfz45_3
  try clear hfz45_4
  try clear hfz45_5
  try clear hfz47_0
  try clear hfz47_1
  try clear hfz47_2
  try clear hfz47_3
  try clear hfz47_4
  try clear hfz47_5
  try clear hfz49_0
  try clear hfz49_1
  try clear hfz49_2
  try clear hfz49_3
  try clear hfz49_4
  try clear hfz49_5
  try clear hfz51_0
  try clear hfz51_1
  try clear hfz51_2
  try clear hfz51_3
  try clear hfz51_4
  try clear hfz51_5
  try clear hfz55_0
  try clear hfz55_1
  try clear hfz55_2
  try clear hfz55_3
  try clear hfz55_4
  try clear hfz55_5
  try clear hfz59_0
  try clear hfz59_1
  try clear hfz59_2
  try clear hfz59_3
  try clear hfz59_4
  try clear hfz59_5
  try clear hfz7_0
  try clear hfz7_1
  try clear hfz7_2
  try clear hfz7_3
  try clear hfz7_4
  try clear hfz7_5
  try clear hfz9_0
  try clear hfz9_1
  try clear hfz9_2
  try clear hfz9_3
  try clear hfz9_4
  try clear hfz9_5
  try clear hx305_0
  try clear hx306_0
  try clear p2
  try clear p3
  try clear p305
  try clear p306
  try clear p6
  try clear q3
  try clear q305
  try clear q306
  obtain ⟨kq, x130_52, rfl, HA, HJ52, BK304, HB⟩ := hcut
  rcases kq with _ | kj52
  ·exact absurd HA.out (by simp [optimaref3_formed.j2])
  have H := HA.out
  clear HA
  simp only [optimaref3_formed.j2] at H
  by_cases c60 : x130_52 = true
  ·subst c60
   have H1 : (some false) = some r := by rw [if_pos rfl] at H; exact H
   clear H
   have H := H1
   clear H1
   obtain rfl := Option.some.inj H
   go_wp2
   go_ret
   exact ⟨by rfl, by exact HB.out⟩
  replace c60 := Bool.eq_false_iff.mpr c60
  subst c60
  have H1 : (optimaref3_formed.l2 kj52 (l0_1.length : Int) 0 a0_0 l0_1 l0_2 l0_3 a0_4 l0_5) = some r := by rw [if_neg (show ¬ (false = true) by decide)] at H; exact H
  clear H
  have H := H1
  clear H1
  have H' := Aside0.mk H
  clear H
  go_wp2
  go_loopg [9] kj52 (fun kq v9 w' => ∃ (x9_2 : Int), v9 = .int .i64 x9_2 ∧ Aside0 (optimaref3_formed.l2 kq (l0_1.length : Int) x9_2 a0_0 l0_1 l0_2 l0_3 a0_4 l0_5 = some r) ∧ Aside0 (kq ≤ kj52) ∧ Aside0 (w'.heap[gb304]? = some (.cells #[.int .i64 a0_0, (.slice A0_1 l0_1.length c0_1), (.slice A0_2 l0_2.length c0_2), (.slice A0_3 l0_3.length c0_3), .int .i64 a0_4, (.slice A0_5 l0_5.length c0_5)] 44 (0, 0))) ∧ Aside0 (Below w.heap.size w w'))
  case atStart => exact ⟨(0), (by rfl), H', ⟨Nat.le_refl _⟩, ⟨by exact BK304.out⟩, ⟨by exact HB.out⟩⟩
  clear H'
  try clear c1
  try clear c2
  try clear c2b0
  try clear c2b1
  try clear p2
  try clear c3
  try clear c3b0
  try clear c3b1
  try clear c3b2
  try clear p3
  try clear q3
  try clear hx3
  try clear c4
  try clear c4b0
  try clear c4b1
  try clear c4b2
  try clear c5
  try clear c5b0
  try clear c5b1
  try clear c5b2
  try clear c6
  try clear p6
  try clear c14
  try clear c14b0
  try clear c14b1
  try clear c17
  try clear c17b0
  try clear c18
  try clear c18b0
  try clear c19
  try clear c19b0
  try clear c20
  try clear c20b0
  try clear c20b1
  try clear c23
  try clear c23b0
  try clear c23b1
  try clear c23b2
  try clear c24
  try clear c24b0
  try clear c24b1
  try clear c24b2
  try clear c25
  try clear c25b0
  try clear c25b1
  try clear c28
  try clear c28b0
  try clear c29
  try clear c29b0
  try clear c30
  try clear c30b0
  try clear p30
  try clear q30
  try clear hx30
  try clear c31
  try clear c31b0
  try clear c31b1
  try clear c31b2
  try clear c34
  try clear c34b0
  try clear c34b1
  try clear c34b2
  try clear c35
  try clear c35b0
  try clear c35b1
  try clear c35b2
  try clear c37
  try clear c37b0
  try clear c37b1
  try clear c38
  try clear c38b0
  try clear c38b1
  try clear c39
  try clear c39b0
  try clear c39b1
  try clear c39b2
  try clear c40
  try clear c40b0
  try clear c40b1
  try clear c40b2
  try clear c41
  try clear c41b0
  try clear c41b1
  try clear c41b2
  try clear c52
  try clear c52b0
  try clear c52b1
  try clear c56
  try clear c56b0
  try clear c56b1
  try clear c56b2
  try clear c57
  try clear c57b0
  try clear c57b1
  try clear c57b2
  try clear c58
  try clear c58b0
  try clear c58b1
  try clear c60
  try clear hcz11_0
  try clear hcz11_1
  try clear hcz11_2
  try clear hcz11_3
  try clear hcz11_4
  try clear hcz11_5
  try clear hcz13_0
  try clear hcz13_1
  try clear hcz13_2
  try clear hcz13_3
  try clear hcz13_4
  try clear hcz13_5
  try clear hcz16_0
  try clear hcz16_1
  try clear hcz16_2
  try clear hcz16_3
  try clear hcz16_4
  try clear hcz16_5
  try clear hcz21_0
  try clear hcz21_1
  try clear hcz21_2
  try clear hcz21_3
  try clear hcz21_4
  try clear hcz21_5
  try clear hcz22_0
  try clear hcz22_1
  try clear hcz22_2
  try clear hcz22_3
  try clear hcz22_4
  try clear hcz22_5
  try clear hcz27_0
  try clear hcz27_1
  try clear hcz27_2
  try clear hcz27_3
  try clear hcz27_4
  try clear hcz27_5
  try clear hcz32_0
  try clear hcz32_1
  try clear hcz32_2
  try clear hcz32_3
  try clear hcz32_4
  try clear hcz32_5
  try clear hcz33_0
  try clear hcz33_1
  try clear hcz33_2
  try clear hcz33_3
  try clear hcz33_4
  try clear hcz33_5
  try clear hcz36_0
  try clear hcz36_1
  try clear hcz36_2
  try clear hcz36_3
  try clear hcz36_4
  try clear hcz36_5
  try clear hcz43_0
  try clear hcz43_1
  try clear hcz43_2
  try clear hcz43_3
  try clear hcz43_4
  try clear hcz43_5
  try clear hcz45_0
  try clear hcz45_1
  try clear hcz45_2
  try clear hcz45_3
  try clear hcz45_4
  try clear hcz45_5
  try clear hcz47_0
  try clear hcz47_1
  try clear hcz47_2
  try clear hcz47_3
  try clear hcz47_4
  try clear hcz47_5
  try clear hcz49_0
  try clear hcz49_1
  try clear hcz49_2
  try clear hcz49_3
  try clear hcz49_4
  try clear hcz49_5
  try clear hcz51_0
  try clear hcz51_1
  try clear hcz51_2
  try clear hcz51_3
  try clear hcz51_4
  try clear hcz51_5
  try clear hcz55_0
  try clear hcz55_1
  try clear hcz55_2
  try clear hcz55_3
  try clear hcz55_4
  try clear hcz55_5
  try clear hcz59_0
  try clear hcz59_1
  try clear hcz59_2
  try clear hcz59_3
  try clear hcz59_4
  try clear hcz59_5
  try clear hcz7_0
  try clear hcz7_1
  try clear hcz7_2
  try clear hcz7_3
  try clear hcz7_4
  try clear hcz7_5
  try clear hcz9_0
  try clear hcz9_1
  try clear hcz9_2
  try clear hcz9_3
  try clear hcz9_4
  try clear hcz9_5
  try clear hfz11_0
  try clear hfz11_1
  try clear hfz11_2
  try clear hfz11_3
  try clear hfz11_4
  try clear hfz11_5
  try clear hfz13_0
  try clear hfz13_1
  try clear hfz13_2
  try clear hfz13_3
  try clear hfz13_4
  try clear hfz13_5
  try clear hfz16_0
  try clear hfz16_1
  try clear hfz16_2
  try clear hfz16_3
  try clear hfz16_4
  try clear hfz16_5
  try clear hfz21_0
  try clear hfz21_1
  try clear hfz21_2
  try clear hfz21_3
  try clear hfz21_4
  try clear hfz21_5
  try clear hfz22_0
  try clear hfz22_1
  try clear hfz22_2
  try clear hfz22_3
  try clear hfz22_4
  try clear hfz22_5
  try clear hfz27_0
  try clear hfz27_1
  try clear hfz27_2
  try clear hfz27_3
  try clear hfz27_4
  try clear hfz27_5
  try clear hfz32_0
  try clear hfz32_1
  try clear hfz32_2
  try clear hfz32_3
  try clear hfz32_4
  try clear hfz32_5
  try clear hfz33_0
  try clear hfz33_1
  try clear hfz33_2
  try clear hfz33_3
  try clear hfz33_4
  try clear hfz33_5
  try clear hfz36_0
  try clear hfz36_1
  try clear hfz36_2
  try clear hfz36_3
  try clear hfz36_4
  try clear hfz36_5
  try clear hfz43_0
  try clear hfz43_1
  try clear hfz43_2
  try clear hfz43_3
  try clear hfz43_4
  try clear hfz43_5
  try clear hfz45_0
  try clear hfz45_1
  try clear hfz45_2
  try clear hfz45_3
  try clear hfz45_4
  try clear hfz45_5
  try clear hfz47_0
  try clear hfz47_1
  try clear hfz47_2
  try clear hfz47_3
  try clear hfz47_4
  try clear hfz47_5
  try clear hfz49_0
  try clear hfz49_1
  try clear hfz49_2
  try clear hfz49_3
  try clear hfz49_4
  try clear hfz49_5
  try clear hfz51_0
  try clear hfz51_1
  try clear hfz51_2
  try clear hfz51_3
  try clear hfz51_4
  try clear hfz51_5
  try clear hfz55_0
  try clear hfz55_1
  try clear hfz55_2
  try clear hfz55_3
  try clear hfz55_4
  try clear hfz55_5
  try clear hfz59_0
  try clear hfz59_1
  try clear hfz59_2
  try clear hfz59_3
  try clear hfz59_4
  try clear hfz59_5
  try clear hfz7_0
  try clear hfz7_1
  try clear hfz7_2
  try clear hfz7_3
  try clear hfz7_4
  try clear hfz7_5
  try clear hfz9_0
  try clear hfz9_1
  try clear hfz9_2
  try clear hfz9_3
  try clear hfz9_4
  try clear hfz9_5
  try clear hx305_0
  try clear hx306_0
  try clear p2
  try clear p3
  try clear p30
  try clear p305
  try clear p306
  try clear p6
  try clear q3
  try clear q30
  try clear q305
  try clear q306
  obtain ⟨x9_2, rfl, HA, HK2, BK304, HB⟩ := hrel
  rcases gk with _ | k2
  ·exact absurd HA.out (by simp [optimaref3_formed.l2])
  have H := HA.out
  clear HA
  simp only [optimaref3_formed.l2] at H
  by_cases c61 : x9_2 < (l0_1.length : Int)
  ·rw [if_pos c61] at H
   have c61b0 : decide (x9_2 < (l0_1.length : Int)) = true := decide_eq_true c61
   clear c61
   by_cases c62 : 0 ≤ x9_2
   ·rw [if_pos c62] at H
    have c62b0 : decide (0 ≤ x9_2) = true := decide_eq_true c62
    clear c62
    by_cases c63 : x9_2 < (l0_2.length : Int)
    ·rw [if_pos c63] at H
     have c63b0 : decide (x9_2 < (l0_2.length : Int)) = true := decide_eq_true c63
     clear c63
     by_cases c64 : (rd l0_2 x9_2) < 0
     ·rw [if_pos c64] at H
      have c64b0 : decide ((rd l0_2 x9_2) < 0) = true := decide_eq_true c64
      clear c64
      obtain rfl := Option.some.inj H
      have hcz65_0 : wr.cell? ⟨gb304, 0, none⟩ = some (.int .i64 a0_0) := (blk_cell BK304.out 0).trans rfl
      have hcz65_1 : wr.cell? ⟨gb304, 1, none⟩ = some (.slice A0_1 l0_1.length c0_1) := (blk_cell BK304.out 1).trans rfl
      have hcz65_2 : wr.cell? ⟨gb304, 2, none⟩ = some (.slice A0_2 l0_2.length c0_2) := (blk_cell BK304.out 2).trans rfl
      have hcz65_3 : wr.cell? ⟨gb304, 3, none⟩ = some (.slice A0_3 l0_3.length c0_3) := (blk_cell BK304.out 3).trans rfl
      have hcz65_4 : wr.cell? ⟨gb304, 4, none⟩ = some (.int .i64 a0_4) := (blk_cell BK304.out 4).trans rfl
      have hcz65_5 : wr.cell? ⟨gb304, 5, none⟩ = some (.slice A0_5 l0_5.length c0_5) := (blk_cell BK304.out 5).trans rfl
      have hfz65_0 := blk_frozen BK304.out 0
      have hfz65_1 := blk_frozen BK304.out 1
      have hfz65_2 := blk_frozen BK304.out 2
      have hfz65_3 := blk_frozen BK304.out 3
      have hfz65_4 := blk_frozen BK304.out 4
      have hfz65_5 := blk_frozen BK304.out 5
      have p307 : 0 ≤ (x9_2 : Int) := of_decide_eq_true (by (with_reducible assumption))
      have q307 : x9_2 < (l0_2.length : Int) := of_decide_eq_true (by (with_reducible assumption))
      obtain ⟨ad307, e307, hx307_0⟩ := Kd.at_int HR0_2.out x9_2 p307 q307
      cases e307
      replace hx307_0 := (HB.out.cell (World.block_lt_of_cell? w _ hx307_0)).trans hx307_0
      replace p307 := eq_true p307
      replace q307 := eq_true q307
      go_wp2
      go_ret
      exact ⟨by rfl, by exact HB.out⟩
     rw [if_neg c64] at H
     have c64b0 : decide ((rd l0_2 x9_2) < 0) = false := decide_eq_false c64
     clear c64
     by_cases c66 : x9_2 < (l0_3.length : Int)
     ·rw [if_pos c66] at H
      have c66b0 : decide (x9_2 < (l0_3.length : Int)) = true := decide_eq_true c66
      clear c66
      by_cases c67 : (rd l0_3 x9_2) < 0
      ·rw [if_pos c67] at H
       have c67b0 : decide ((rd l0_3 x9_2) < 0) = true := decide_eq_true c67
       clear c67
       obtain rfl := Option.some.inj H
       have hcz68_0 : wr.cell? ⟨gb304, 0, none⟩ = some (.int .i64 a0_0) := (blk_cell BK304.out 0).trans rfl
       have hcz68_1 : wr.cell? ⟨gb304, 1, none⟩ = some (.slice A0_1 l0_1.length c0_1) := (blk_cell BK304.out 1).trans rfl
       have hcz68_2 : wr.cell? ⟨gb304, 2, none⟩ = some (.slice A0_2 l0_2.length c0_2) := (blk_cell BK304.out 2).trans rfl
       have hcz68_3 : wr.cell? ⟨gb304, 3, none⟩ = some (.slice A0_3 l0_3.length c0_3) := (blk_cell BK304.out 3).trans rfl
       have hcz68_4 : wr.cell? ⟨gb304, 4, none⟩ = some (.int .i64 a0_4) := (blk_cell BK304.out 4).trans rfl
       have hcz68_5 : wr.cell? ⟨gb304, 5, none⟩ = some (.slice A0_5 l0_5.length c0_5) := (blk_cell BK304.out 5).trans rfl
       have hfz68_0 := blk_frozen BK304.out 0
       have hfz68_1 := blk_frozen BK304.out 1
       have hfz68_2 := blk_frozen BK304.out 2
       have hfz68_3 := blk_frozen BK304.out 3
       have hfz68_4 := blk_frozen BK304.out 4
       have hfz68_5 := blk_frozen BK304.out 5
       have p307 : 0 ≤ (x9_2 : Int) := of_decide_eq_true (by (with_reducible assumption))
       have q307 : x9_2 < (l0_2.length : Int) := of_decide_eq_true (by (with_reducible assumption))
       obtain ⟨ad307, e307, hx307_0⟩ := Kd.at_int HR0_2.out x9_2 p307 q307
       cases e307
       replace hx307_0 := (HB.out.cell (World.block_lt_of_cell? w _ hx307_0)).trans hx307_0
       replace p307 := eq_true p307
       replace q307 := eq_true q307
       have p308 : 0 ≤ (x9_2 : Int) := of_decide_eq_true (by (with_reducible assumption))
       have q308 : x9_2 < (l0_3.length : Int) := of_decide_eq_true (by (with_reducible assumption))
       obtain ⟨ad308, e308, hx308_0⟩ := Kd.at_int HR0_3.out x9_2 p308 q308
       cases e308
       replace hx308_0 := (HB.out.cell (World.block_lt_of_cell? w _ hx308_0)).trans hx308_0
       replace p308 := eq_true p308
       replace q308 := eq_true q308
       go_wp2
       go_ret
       exact ⟨by rfl, by exact HB.out⟩
      rw [if_neg c67] at H
      have c67b0 : decide ((rd l0_3 x9_2) < 0) = false := decide_eq_false c67
      clear c67
      have H' := Aside0.mk H
      clear H
      have hcz69_0 : wr.cell? ⟨gb304, 0, none⟩ = some (.int .i64 a0_0) := (blk_cell BK304.out 0).trans rfl
      have hcz69_1 : wr.cell? ⟨gb304, 1, none⟩ = some (.slice A0_1 l0_1.length c0_1) := (blk_cell BK304.out 1).trans rfl
      have hcz69_2 : wr.cell? ⟨gb304, 2, none⟩ = some (.slice A0_2 l0_2.length c0_2) := (blk_cell BK304.out 2).trans rfl
      have hcz69_3 : wr.cell? ⟨gb304, 3, none⟩ = some (.slice A0_3 l0_3.length c0_3) := (blk_cell BK304.out 3).trans rfl
      have hcz69_4 : wr.cell? ⟨gb304, 4, none⟩ = some (.int .i64 a0_4) := (blk_cell BK304.out 4).trans rfl
      have hcz69_5 : wr.cell? ⟨gb304, 5, none⟩ = some (.slice A0_5 l0_5.length c0_5) := (blk_cell BK304.out 5).trans rfl
      have hfz69_0 := blk_frozen BK304.out 0
      have hfz69_1 := blk_frozen BK304.out 1
      have hfz69_2 := blk_frozen BK304.out 2
      have hfz69_3 := blk_frozen BK304.out 3
      have hfz69_4 := blk_frozen BK304.out 4
      have hfz69_5 := blk_frozen BK304.out 5
      have p307 : 0 ≤ (x9_2 : Int) := of_decide_eq_true (by (with_reducible assumption))
      have q307 : x9_2 < (l0_2.length : Int) := of_decide_eq_true (by (with_reducible assumption))
      obtain ⟨ad307, e307, hx307_0⟩ := Kd.at_int HR0_2.out x9_2 p307 q307
      cases e307
      replace hx307_0 := (HB.out.cell (World.block_lt_of_cell? w _ hx307_0)).trans hx307_0
      replace p307 := eq_true p307
      replace q307 := eq_true q307
      have p308 : 0 ≤ (x9_2 : Int) := of_decide_eq_true (by (with_reducible assumption))
      have q308 : x9_2 < (l0_3.length : Int) := of_decide_eq_true (by (with_reducible assumption))
      obtain ⟨ad308, e308, hx308_0⟩ := Kd.at_int HR0_3.out x9_2 p308 q308
      cases e308
      replace hx308_0 := (HB.out.cell (World.block_lt_of_cell? w _ hx308_0)).trans hx308_0
      replace p308 := eq_true p308
      replace q308 := eq_true q308
      go_wp2
      go_roundg k2
      case measure => have := HJ52.out; have := HK2.out; omega
      case rel => exact ⟨(wrap64 (x9_2 + 1)), (by rfl), H', ⟨by have := HJ52.out; have := HK2.out; omega⟩, ⟨by exact BK304.out⟩, ⟨by exact HB.out⟩⟩
     rw [if_neg c66] at H
     exact absurd H (by simp)
    rw [if_neg c63] at H
    exact absurd H (by simp)
   rw [if_neg c62] at H
   exact absurd H (by simp)
  rw [if_neg c61] at H
  have c61b0 : decide (x9_2 < (l0_1.length : Int)) = false := decide_eq_false c61
  clear c61
  obtain rfl := Option.some.inj H
  go_wp2
  go_ret
  exact ⟨by rfl, by exact HB.out⟩
 rw [if_neg c52] at H
 have c52b0 : (a0_0 == 5) = false := beq_eq_false_iff_ne.mpr c52
 have c52b1 : (a0_0 != 5) = true := bne_iff_ne.mpr c52
 obtain rfl := Option.some.inj H
 go_enter Tryd.func34, Tryd.ntmps34
 go_wp2_with (((with_reducible refine gate_dst (N := 1) rfl ?_); refine box_event ?hg (N := 1) ?hd (cs := #[.int .i64 a0_0, .slice A0_1 l0_1.length c0_1, .slice A0_2 l0_2.length c0_2, .slice A0_3 l0_3.length c0_3, .int .i64 a0_4, .slice A0_5 l0_5.length c0_5]) (t := 44) ?hr ?_; (case hd => rfl); (case hg => rfl); (case hr => (go_simp; done)); intro gb304 hg w70 hbox hb; have n0_ := Aside0.mk (below_step (by exact HB.out) hb); have n1_ := Aside0.mk (hbox); have n2_ := Aside0.mk ((by rw [hg]; exact (below_size (by exact HB.out)) : w.heap.size ≤ gb304)); have n3_ := Aside0.mk ((by rw [hg]; exact (below_size (by exact HB.out)) : w.heap.size ≤ gb304)); clear HB; have HB := n0_; have BK304 := n1_; have GW304 := n2_; have GE304 := n3_; clear n0_ n1_ n2_ n3_; clear hb hbox hg; have hcz71_0 : w70.cell? ⟨gb304, 0, none⟩ = some (.int .i64 a0_0) := (blk_cell BK304.out 0).trans rfl; have hcz71_1 : w70.cell? ⟨gb304, 1, none⟩ = some (.slice A0_1 l0_1.length c0_1) := (blk_cell BK304.out 1).trans rfl; have hcz71_2 : w70.cell? ⟨gb304, 2, none⟩ = some (.slice A0_2 l0_2.length c0_2) := (blk_cell BK304.out 2).trans rfl; have hcz71_3 : w70.cell? ⟨gb304, 3, none⟩ = some (.slice A0_3 l0_3.length c0_3) := (blk_cell BK304.out 3).trans rfl; have hcz71_4 : w70.cell? ⟨gb304, 4, none⟩ = some (.int .i64 a0_4) := (blk_cell BK304.out 4).trans rfl; have hcz71_5 : w70.cell? ⟨gb304, 5, none⟩ = some (.slice A0_5 l0_5.length c0_5) := (blk_cell BK304.out 5).trans rfl; have hfz71_0 := blk_frozen BK304.out 0; have hfz71_1 := blk_frozen BK304.out 1; have hfz71_2 := blk_frozen BK304.out 2; have hfz71_3 := blk_frozen BK304.out 3; have hfz71_4 := blk_frozen BK304.out 4; have hfz71_5 := blk_frozen BK304.out 5))
 go_ret
 exact ⟨by rfl, by exact HB.out⟩

end Go.Proofs.YtehekppkicjimaaDoor.QFK
