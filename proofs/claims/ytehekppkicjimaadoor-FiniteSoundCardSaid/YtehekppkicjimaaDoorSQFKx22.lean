-- written by a program of mine (wip/tools/print2.py), which turns the kit's printer a little
import Derived.Test.YtehekppkicjimaaDoorSQFKx0
import Derived.Test.YtehekppkicjimaaDoorSQFKx21
import Derived.Test.YtehekppkicjimaaDoorSErr
namespace Go.Proofs.YtehekppkicjimaaDoor.QFK
open Go.RowKit Go.Proofs.YtehekppkicjimaaDoorW.PrintWords Go.Proofs.YtehekppkicjimaaDoorW.PrintLast Go.Proofs.YtehekppkicjimaaDoorW.PrintMore
attribute [local go_sem] max2_int min2_int max_two min_two max_three min_three max_four min_four
set_option linter.unusedVariables false
set_option linter.unusedSimpArgs false

attribute [local go_sem] Sent.alloc Sent.drew Sent.drewN Sent.c0 Sent.c1
theorem optimaref3_in.calls' (k : Nat) (A0 : Option Addr) (c0 : Nat) (l0 : List Int) (a1 : Int) (r : Bool) (w : World) (n : Nat) (hn : n = l0.length) (hr0 : Kd.C (Kd.int .i64) w A0 l0.length l0) (hc0 : l0.length ≤ c0) (h : optimaref3_in.f k l0 a1 = some r) :
 Calls Tryd.prog 21 #[.slice A0 n c0, .int .i64 a1] w fun e w' => e = .returned (.bool r) ∧ Drawn0 w w' := by subst hn; exact optimaref3_in.calls k A0 c0 l0 a1 r w hr0 hc0 h
/-! ### optimaref3_kept: function 22 -/
mutual
def optimaref3_kept.l0 : Nat → List Int → Int → Option (Bool)
 | 0, _, _ => none
 | k + 1, x1, x5 => if x5 < (x1.length : Int) then (if 0 ≤ x5 then (if x5 ≤ (x1.length : Int) then ((optimaref3_in.f k (x1.take (x5 : Int).toNat) (rd x1 x5)).bind fun t335 => (if t335 = true then (some false) else (optimaref3_kept.l0 k x1 (wrap64 (x5 + 1))))) else (none)) else (none)) else (some true)
def optimaref3_kept.l1 : Nat → List Int → Int → Int → Int → List Int → List Int → List Int → Int → List (List Int) → Option (Bool)
 | 0, _, _, _, _, _, _, _, _, _ => none
 | k + 1, x1, x7, x8, x333000, x333001, x333002, x333003, x333004, x333005 => if x8 < (x1.length : Int) then (if 0 ≤ x8 then (if x8 < (x333002.length : Int) then (optimaref3_kept.l1 k x1 (wrap64 (x7 + (wrap64 ((rd x333002 x8) * (rd x1 x8))))) (wrap64 (x8 + 1)) x333000 x333001 x333002 x333003 x333004 x333005) else (none)) else (none)) else (some (x7 == x333004))
def optimaref3_kept.l2 : Nat → List Int → Int → Int → List Int → List Int → List Int → Int → List (List Int) → Option (Bool)
 | 0, _, _, _, _, _, _, _, _ => none
 | k + 1, x1, x9, x333000, x333001, x333002, x333003, x333004, x333005 => if x9 < (x333005.length : Int) then (optimaref3_kept.l3 k x1 x9 true 0 x333000 x333001 x333002 x333003 x333004 x333005) else (some false)
def optimaref3_kept.l3 : Nat → List Int → Int → Bool → Int → Int → List Int → List Int → List Int → Int → List (List Int) → Option (Bool)
 | 0, _, _, _, _, _, _, _, _, _, _ => none
 | k + 1, x1, x9, x10, x11, x333000, x333001, x333002, x333003, x333004, x333005 => if x11 < (x1.length : Int) then (if x10 = true then (if 0 ≤ x9 then (if x9 < (x333005.length : Int) then (if 0 ≤ x11 then (if x11 < ((rd_L1 x333005 x9).length : Int) then (optimaref3_kept.l3 k x1 x9 ((rd (rd_L1 x333005 x9) x11) == (rd x1 x11)) (wrap64 (x11 + 1)) x333000 x333001 x333002 x333003 x333004 x333005) else (none)) else (none)) else (none)) else (none)) else (optimaref3_kept.l3 k x1 x9 false (wrap64 (x11 + 1)) x333000 x333001 x333002 x333003 x333004 x333005)) else (if x10 = true then (some true) else (optimaref3_kept.l2 k x1 (wrap64 (x9 + 1)) x333000 x333001 x333002 x333003 x333004 x333005))
def optimaref3_kept.l4 : Nat → List Int → Int → Int → List Int → List Int → List Int → Int → List (List Int) → Option (Bool)
 | 0, _, _, _, _, _, _, _, _ => none
 | k + 1, x1, x12, x333000, x333001, x333002, x333003, x333004, x333005 => if x12 < (x1.length : Int) then (optimaref3_kept.l5 k x1 x12 0 0 x333000 x333001 x333002 x333003 x333004 x333005) else (some true)
def optimaref3_kept.l5 : Nat → List Int → Int → Int → Int → Int → List Int → List Int → List Int → Int → List (List Int) → Option (Bool)
 | 0, _, _, _, _, _, _, _, _, _, _ => none
 | k + 1, x1, x12, x13, x14, x333000, x333001, x333002, x333003, x333004, x333005 => if x14 < (x1.length : Int) then (if 0 ≤ x14 then (if 0 ≤ x12 then (if x12 < (x1.length : Int) then (if (rd x1 x14) ≤ (rd x1 x12) then (if x14 < (x333002.length : Int) then (if (rd x1 x12) < (wrap64 ((rd x1 x14) + (rd x333002 x14))) then (if x14 < (x333003.length : Int) then (optimaref3_kept.l5 k x1 x12 (wrap64 (x13 + (rd x333003 x14))) (wrap64 (x14 + 1)) x333000 x333001 x333002 x333003 x333004 x333005) else (none)) else (optimaref3_kept.l5 k x1 x12 x13 (wrap64 (x14 + 1)) x333000 x333001 x333002 x333003 x333004 x333005)) else (none)) else (optimaref3_kept.l5 k x1 x12 x13 (wrap64 (x14 + 1)) x333000 x333001 x333002 x333003 x333004 x333005)) else (none)) else (none)) else (none)) else (if 0 ≤ x12 then (if x12 < (x333002.length : Int) then (if (rd x333002 x12) > 0 then (if x13 > x333004 then (some false) else (optimaref3_kept.l4 k x1 (wrap64 (x12 + 1)) x333000 x333001 x333002 x333003 x333004 x333005)) else (optimaref3_kept.l4 k x1 (wrap64 (x12 + 1)) x333000 x333001 x333002 x333003 x333004 x333005)) else (none)) else (none))
end
def optimaref3_kept.f (k : Nat) (a0_0 : Int) (l0_1 : List Int) (l0_2 : List Int) (l0_3 : List Int) (a0_4 : Int) (l0_5 : List (List Int)) (l1 : List Int) : Option (Bool) := if a0_0 = 1 then (optimaref3_kept.l0 k l1 0) else (if a0_0 = 2 then (optimaref3_kept.l1 k l1 0 0 a0_0 l0_1 l0_2 l0_3 a0_4 l0_5) else (if a0_0 = 3 then (optimaref3_kept.l2 k l1 0 a0_0 l0_1 l0_2 l0_3 a0_4 l0_5) else (if a0_0 = 4 then (if 0 < (l1.length : Int) then (if (rd l1 0) ≥ 0 then (if (rd l1 0) < (wrap64 ((l1.length : Int) - 2)) then (if 0 ≤ (wrap64 (2 + (rd l1 0))) then (if (wrap64 (2 + (rd l1 0))) < (l1.length : Int) then (if 1 < (l1.length : Int) then (some ((rd l1 (wrap64 (2 + (rd l1 0)))) == (rd l1 1))) else (none)) else (none)) else (none)) else (some false)) else (some false)) else (none)) else (optimaref3_kept.l4 k l1 0 a0_0 l0_1 l0_2 l0_3 a0_4 l0_5))))
theorem optimaref3_kept.mono_l : ∀ k, (∀ y0 y1, LeO (optimaref3_kept.l0 k y0 y1) (optimaref3_kept.l0 (k + 1) y0 y1)) ∧ (∀ y0 y1 y2 y3 y4 y5 y6 y7 y8, LeO (optimaref3_kept.l1 k y0 y1 y2 y3 y4 y5 y6 y7 y8) (optimaref3_kept.l1 (k + 1) y0 y1 y2 y3 y4 y5 y6 y7 y8)) ∧ (∀ y0 y1 y2 y3 y4 y5 y6 y7, LeO (optimaref3_kept.l2 k y0 y1 y2 y3 y4 y5 y6 y7) (optimaref3_kept.l2 (k + 1) y0 y1 y2 y3 y4 y5 y6 y7)) ∧ (∀ y0 y1 y2 y3 y4 y5 y6 y7 y8 y9, LeO (optimaref3_kept.l3 k y0 y1 y2 y3 y4 y5 y6 y7 y8 y9) (optimaref3_kept.l3 (k + 1) y0 y1 y2 y3 y4 y5 y6 y7 y8 y9)) ∧ (∀ y0 y1 y2 y3 y4 y5 y6 y7, LeO (optimaref3_kept.l4 k y0 y1 y2 y3 y4 y5 y6 y7) (optimaref3_kept.l4 (k + 1) y0 y1 y2 y3 y4 y5 y6 y7)) ∧ (∀ y0 y1 y2 y3 y4 y5 y6 y7 y8 y9, LeO (optimaref3_kept.l5 k y0 y1 y2 y3 y4 y5 y6 y7 y8 y9) (optimaref3_kept.l5 (k + 1) y0 y1 y2 y3 y4 y5 y6 y7 y8 y9))
 | 0 => ⟨fun _ _ r h => by simp [optimaref3_kept.l0] at h, fun _ _ _ _ _ _ _ _ _ r h => by simp [optimaref3_kept.l1] at h, fun _ _ _ _ _ _ _ _ r h => by simp [optimaref3_kept.l2] at h, fun _ _ _ _ _ _ _ _ _ _ r h => by simp [optimaref3_kept.l3] at h, fun _ _ _ _ _ _ _ _ r h => by simp [optimaref3_kept.l4] at h, fun _ _ _ _ _ _ _ _ _ _ r h => by simp [optimaref3_kept.l5] at h⟩
 | k + 1 => by
  obtain ⟨ih0, ih1, ih2, ih3, ih4, ih5⟩ := optimaref3_kept.mono_l k
  refine ⟨?_, ?_, ?_, ?_, ?_, ?_⟩
  ·intro y0 y1
   unfold optimaref3_kept.l0
   repeat' first | (with_reducible exact ih0 _ _) | (with_reducible exact optimaref3_in.mono _ _ _) | (with_reducible exact LeO.refl _) | (with_reducible refine LeO.ite ?_ ?_) | (with_reducible refine LeO.bind ?_ (fun _ => ?_))
  ·intro y0 y1 y2 y3 y4 y5 y6 y7 y8
   unfold optimaref3_kept.l1
   repeat' first | (with_reducible exact ih1 _ _ _ _ _ _ _ _ _) | (with_reducible exact LeO.refl _) | (with_reducible refine LeO.ite ?_ ?_)
  ·intro y0 y1 y2 y3 y4 y5 y6 y7
   unfold optimaref3_kept.l2
   repeat' first | (with_reducible exact ih3 _ _ _ _ _ _ _ _ _ _) | (with_reducible exact LeO.refl _) | (with_reducible refine LeO.ite ?_ ?_)
  ·intro y0 y1 y2 y3 y4 y5 y6 y7 y8 y9
   unfold optimaref3_kept.l3
   repeat' first | (with_reducible exact ih2 _ _ _ _ _ _ _ _) | (with_reducible exact ih3 _ _ _ _ _ _ _ _ _ _) | (with_reducible exact LeO.refl _) | (with_reducible refine LeO.ite ?_ ?_)
  ·intro y0 y1 y2 y3 y4 y5 y6 y7
   unfold optimaref3_kept.l4
   repeat' first | (with_reducible exact ih5 _ _ _ _ _ _ _ _ _ _) | (with_reducible exact LeO.refl _) | (with_reducible refine LeO.ite ?_ ?_)
  intro y0 y1 y2 y3 y4 y5 y6 y7 y8 y9
  unfold optimaref3_kept.l5
  repeat' first | (with_reducible exact ih4 _ _ _ _ _ _ _ _) | (with_reducible exact ih5 _ _ _ _ _ _ _ _ _ _) | (with_reducible exact LeO.refl _) | (with_reducible refine LeO.ite ?_ ?_)
theorem optimaref3_kept.mono : ∀ a0 a1 a2 a3 a4 a5 a6 k, LeO (optimaref3_kept.f k a0 a1 a2 a3 a4 a5 a6) (optimaref3_kept.f (k + 1) a0 a1 a2 a3 a4 a5 a6) := by
 intro a0 a1 a2 a3 a4 a5 a6 k
 obtain ⟨ih0, ih1, ih2, ih3, ih4, ih5⟩ := optimaref3_kept.mono_l k
 unfold optimaref3_kept.f
 repeat' first | (with_reducible exact ih0 _ _) | (with_reducible exact ih1 _ _ _ _ _ _ _ _ _) | (with_reducible exact ih2 _ _ _ _ _ _ _ _) | (with_reducible exact ih4 _ _ _ _ _ _ _ _) | (with_reducible exact LeO.refl _) | (with_reducible refine LeO.ite ?_ ?_)
set_option maxHeartbeats 8000000 in
set_option maxRecDepth 100000 in
theorem optimaref3_kept.calls (k : Nat) (a0_0 : Int) (A0_1 : Option Addr) (c0_1 : Nat) (l0_1 : List Int) (A0_2 : Option Addr) (c0_2 : Nat) (l0_2 : List Int) (A0_3 : Option Addr) (c0_3 : Nat) (l0_3 : List Int) (a0_4 : Int) (A0_5 : Option Addr) (c0_5 : Nat) (l0_5 : List (List Int)) (A1 : Option Addr) (c1 : Nat) (l1 : List Int) (r : Bool) (w : World) (hr0_1 : Kd.C (Kd.int .i64) w A0_1 l0_1.length l0_1) (hc0_1 : l0_1.length ≤ c0_1) (hr0_2 : Kd.C (Kd.int .i64) w A0_2 l0_2.length l0_2) (hc0_2 : l0_2.length ≤ c0_2) (hr0_3 : Kd.C (Kd.int .i64) w A0_3 l0_3.length l0_3) (hc0_3 : l0_3.length ≤ c0_3) (hr0_5 : Kd.C (Kd.slice 3 (Kd.int .i64)) w A0_5 l0_5.length l0_5) (hc0_5 : l0_5.length ≤ c0_5) (hr1 : Kd.C (Kd.int .i64) w A1 l1.length l1) (hc1 : l1.length ≤ c1) (h : optimaref3_kept.f k a0_0 l0_1 l0_2 l0_3 a0_4 l0_5 l1 = some r) :
 Calls Tryd.prog 22 #[.agg #[.int .i64 a0_0, .slice A0_1 l0_1.length c0_1, .slice A0_2 l0_2.length c0_2, .slice A0_3 l0_3.length c0_3, .int .i64 a0_4, .slice A0_5 l0_5.length c0_5], .slice A1 l1.length c1] w fun e w' => e = .returned (.bool r) ∧ Below w.heap.size w w' := by
 have hu44 := Tryd.underlying44
 have HR0_1 := Aside0.mk hr0_1
 have HC0_1 := Aside0.mk hc0_1
 clear hr0_1 hc0_1
 have HR0_2 := Aside0.mk hr0_2
 have HC0_2 := Aside0.mk hc0_2
 clear hr0_2 hc0_2
 have HR0_3 := Aside0.mk hr0_3
 have HC0_3 := Aside0.mk hc0_3
 clear hr0_3 hc0_3
 have HR0_5 := Aside0.mk hr0_5
 have HC0_5 := Aside0.mk hc0_5
 clear hr0_5 hc0_5
 have HR1 := Aside0.mk hr1
 have HC1 := Aside0.mk hc1
 clear hr1 hc1
 have HB := Aside0.mk (Below.refl w.heap.size w)
 have H : (if a0_0 = 1 then (optimaref3_kept.l0 k l1 0) else (if a0_0 = 2 then (optimaref3_kept.l1 k l1 0 0 a0_0 l0_1 l0_2 l0_3 a0_4 l0_5) else (if a0_0 = 3 then (optimaref3_kept.l2 k l1 0 a0_0 l0_1 l0_2 l0_3 a0_4 l0_5) else (if a0_0 = 4 then (if 0 < (l1.length : Int) then (if (rd l1 0) ≥ 0 then (if (rd l1 0) < (wrap64 ((l1.length : Int) - 2)) then (if 0 ≤ (wrap64 (2 + (rd l1 0))) then (if (wrap64 (2 + (rd l1 0))) < (l1.length : Int) then (if 1 < (l1.length : Int) then (some ((rd l1 (wrap64 (2 + (rd l1 0)))) == (rd l1 1))) else (none)) else (none)) else (none)) else (some false)) else (some false)) else (none)) else (optimaref3_kept.l4 k l1 0 a0_0 l0_1 l0_2 l0_3 a0_4 l0_5))))) = some r := h
 clear h
 by_cases c3 : a0_0 = 1
 ·rw [if_pos c3] at H
  have c3b0 : (a0_0 == 1) = true := beq_iff_eq.mpr c3
  have c3b1 : (a0_0 != 1) = false := bne_eq_false_iff_eq.mpr c3
  clear c3
  have H' := Aside0.mk H
  clear H
  go_enter Tryd.func22, Tryd.ntmps22
  go_wp2_with (((with_reducible refine gate_dst (N := 2) rfl ?_); (try (refine gate_guard (by rfl) ?_; dsimp only)); refine box_event ?hg (N := 2) ?hd (cs := #[.int .i64 a0_0, .slice A0_1 l0_1.length c0_1, .slice A0_2 l0_2.length c0_2, .slice A0_3 l0_3.length c0_3, .int .i64 a0_4, .slice A0_5 l0_5.length c0_5]) (t := 44) ?hr ?_; (case hd => rfl); (case hg => rfl); (case hr => (go_simp; done)); intro gb332 hg w4 hbox hb; have n0_ := Aside0.mk (below_step (by exact HB.out) hb); have n1_ := Aside0.mk (hbox); have n2_ := Aside0.mk ((by rw [hg]; exact (below_size (by exact HB.out)) : w.heap.size ≤ gb332)); have n3_ := Aside0.mk ((by rw [hg]; exact (below_size (by exact HB.out)) : w.heap.size ≤ gb332)); clear HB; have HB := n0_; have BK332 := n1_; have GW332 := n2_; have GE332 := n3_; clear n0_ n1_ n2_ n3_; clear hb hbox hg; have hcz5_0 : w4.cell? ⟨gb332, 0, none⟩ = some (.int .i64 a0_0) := (blk_cell BK332.out 0).trans rfl; have hcz5_1 : w4.cell? ⟨gb332, 1, none⟩ = some (.slice A0_1 l0_1.length c0_1) := (blk_cell BK332.out 1).trans rfl; have hcz5_2 : w4.cell? ⟨gb332, 2, none⟩ = some (.slice A0_2 l0_2.length c0_2) := (blk_cell BK332.out 2).trans rfl; have hcz5_3 : w4.cell? ⟨gb332, 3, none⟩ = some (.slice A0_3 l0_3.length c0_3) := (blk_cell BK332.out 3).trans rfl; have hcz5_4 : w4.cell? ⟨gb332, 4, none⟩ = some (.int .i64 a0_4) := (blk_cell BK332.out 4).trans rfl; have hcz5_5 : w4.cell? ⟨gb332, 5, none⟩ = some (.slice A0_5 l0_5.length c0_5) := (blk_cell BK332.out 5).trans rfl; have hfz5_0 := blk_frozen BK332.out 0; have hfz5_1 := blk_frozen BK332.out 1; have hfz5_2 := blk_frozen BK332.out 2; have hfz5_3 := blk_frozen BK332.out 3; have hfz5_4 := blk_frozen BK332.out 4; have hfz5_5 := blk_frozen BK332.out 5))
  repeat (go_quiet (fail); try go_wp2_with (fail))
  go_loopg [5] k (fun kq v5 w' => ∃ (x5_1 : Int), v5 = .int .i64 x5_1 ∧ Aside0 (optimaref3_kept.l0 kq l1 x5_1 = some r) ∧ Aside0 (kq ≤ k) ∧ Aside0 (w'.heap[gb332]? = some (.cells #[.int .i64 a0_0, (.slice A0_1 l0_1.length c0_1), (.slice A0_2 l0_2.length c0_2), (.slice A0_3 l0_3.length c0_3), .int .i64 a0_4, (.slice A0_5 l0_5.length c0_5)] 44 (0, 0))) ∧ Aside0 (Below w.heap.size w w'))
  case atStart => exact ⟨(0), (by rfl), H', ⟨Nat.le_refl _⟩, ⟨by exact BK332.out⟩, ⟨by exact HB.out⟩⟩
  clear H'
  try clear c1
  try clear c2
  try clear p2
  try clear c3
  try clear c3b0
  try clear c3b1
  try clear hcz5_0
  try clear hcz5_1
  try clear hcz5_2
  try clear hcz5_3
  try clear hcz5_4
  try clear hcz5_5
  try clear hfz5_0
  try clear hfz5_1
  try clear hfz5_2
  try clear hfz5_3
  try clear hfz5_4
  try clear hfz5_5
  obtain ⟨x5_1, rfl, HA, HK1, BK332, HB⟩ := hrel
  rcases gk with _ | k1
  ·exact absurd HA.out (by simp [optimaref3_kept.l0])
  have H := HA.out
  clear HA
  simp only [optimaref3_kept.l0] at H
  by_cases c6 : x5_1 < (l1.length : Int)
  ·rw [if_pos c6] at H
   have c6b0 : decide (x5_1 < (l1.length : Int)) = true := decide_eq_true c6
   clear c6
   by_cases c7 : 0 ≤ x5_1
   ·rw [if_pos c7] at H
    have c7b0 := eq_true c7
    have c7b1 : decide (0 ≤ x5_1) = true := decide_eq_true c7
    clear c7
    by_cases c8 : x5_1 ≤ (l1.length : Int)
    ·rw [if_pos c8] at H
     have c8b0 := eq_true c8
     have c8b1 : decide (x5_1 ≤ (l1.length : Int)) = true := decide_eq_true c8
     clear c8
     replace H := Option.bind_eq_some_iff.mp H
     obtain ⟨t335, A90, H⟩ := H
     replace H : (if t335 = true then (some false) else (optimaref3_kept.l0 k1 l1 (wrap64 (x5_1 + 1)))) = some r := H
     have A9 := Aside0.mk A90
     clear A90
     by_cases c10 : t335 = true
     ·subst c10
      have H1 : (some false) = some r := by rw [if_pos rfl] at H; exact H
      clear H
      have H := H1
      clear H1
      obtain rfl := Option.some.inj H
      obtain ⟨i011, hi011, _, hsz11, _⟩ := info_parts info3
      obtain ⟨hcut11, hA11, hC11⟩ := print_take_of (P := Tryd.prog) (Value.int .i64) 0 26 3 .i64 Tryd.underlying26 hi011 hsz11 A1 c1 l1 x5_1 (of_decide_eq_true (by (with_reducible assumption))) (of_decide_eq_true (by (with_reducible assumption))) HC1.out
      have HR333 := Aside0.mk (Kd.C_of_reads (h1 := fun _ => rfl) (hA11 _ (Kd.reads_of_C HR1.out)))
      have HC333 := Aside0.mk hC11
      clear hA11 hC11 hi011 hsz11
      have p334 : 0 ≤ (x5_1 : Int) := of_decide_eq_true (by (with_reducible assumption))
      have q334 : x5_1 < (l1.length : Int) := of_decide_eq_true (by (with_reducible assumption))
      obtain ⟨ad334, e334, hx334_0⟩ := Kd.at_int HR1.out x5_1 p334 q334
      have HLEN := Aside0.mk (show (x5_1).toNat = (l1.take (x5_1 : Int).toNat).length by rw [List.length_take]; omega)
      cases e334
      replace hx334_0 := (HB.out.cell (World.block_lt_of_cell? w _ hx334_0)).trans hx334_0
      replace p334 := eq_true p334
      replace q334 := eq_true q334
      go_wp2_with (fail)
      repeat (go_quiet ((go_at_call 21; (with_reducible refine (optimaref3_in.calls' k1 _ _ (l1.take (x5_1 : Int).toNat) (rd l1 x5_1) true _ (x5_1).toNat HLEN.out ?side1 ?side2 A9.out).mono ?_); (case side1 => repeat (first | exact (Kd.C_below HR333.out HB.out) | (with_reducible refine Kd.C_drewN ?_ _))); (case side2 => exact HC333.out); rintro e w' ⟨rfl, ⟨nd, rfl⟩⟩; (try exact ⟨rfl, _, World.drewN_drewN _ _ _⟩))); try go_wp2_with (fail))
      go_ret
      exact ⟨by rfl, by repeat ((with_reducible first | exact HB.out | apply pw_below_drewN))⟩
     replace c10 := Bool.eq_false_iff.mpr c10
     subst c10
     have H1 : (optimaref3_kept.l0 k1 l1 (wrap64 (x5_1 + 1))) = some r := by rw [if_neg (show ¬ (false = true) by decide)] at H; exact H
     clear H
     have H := H1
     clear H1
     have H' := Aside0.mk H
     clear H
     obtain ⟨i012, hi012, _, hsz12, _⟩ := info_parts info3
     obtain ⟨hcut12, hA12, hC12⟩ := print_take_of (P := Tryd.prog) (Value.int .i64) 0 26 3 .i64 Tryd.underlying26 hi012 hsz12 A1 c1 l1 x5_1 (of_decide_eq_true (by (with_reducible assumption))) (of_decide_eq_true (by (with_reducible assumption))) HC1.out
     have HR333 := Aside0.mk (Kd.C_of_reads (h1 := fun _ => rfl) (hA12 _ (Kd.reads_of_C HR1.out)))
     have HC333 := Aside0.mk hC12
     clear hA12 hC12 hi012 hsz12
     have p334 : 0 ≤ (x5_1 : Int) := of_decide_eq_true (by (with_reducible assumption))
     have q334 : x5_1 < (l1.length : Int) := of_decide_eq_true (by (with_reducible assumption))
     obtain ⟨ad334, e334, hx334_0⟩ := Kd.at_int HR1.out x5_1 p334 q334
     have HLEN := Aside0.mk (show (x5_1).toNat = (l1.take (x5_1 : Int).toNat).length by rw [List.length_take]; omega)
     cases e334
     replace hx334_0 := (HB.out.cell (World.block_lt_of_cell? w _ hx334_0)).trans hx334_0
     replace p334 := eq_true p334
     replace q334 := eq_true q334
     go_wp2_with (fail)
     repeat (go_quiet ((go_at_call 21; (with_reducible refine (optimaref3_in.calls' k1 _ _ (l1.take (x5_1 : Int).toNat) (rd l1 x5_1) false _ (x5_1).toNat HLEN.out ?side1 ?side2 A9.out).mono ?_); (case side1 => repeat (first | exact (Kd.C_below HR333.out HB.out) | (with_reducible refine Kd.C_drewN ?_ _))); (case side2 => exact HC333.out); rintro e w' ⟨rfl, ⟨nd, rfl⟩⟩; (try exact ⟨rfl, _, World.drewN_drewN _ _ _⟩))); try go_wp2_with (fail))
     go_roundg k1
     case measure => have := HK1.out; omega
     case rel => exact ⟨(wrap64 (x5_1 + 1)), (by rfl), H', ⟨by have := HK1.out; omega⟩, ⟨by (with_reducible repeat (refine blk_drewN ?_ _)); exact BK332.out⟩, ⟨by repeat ((with_reducible first | exact HB.out | apply pw_below_drewN))⟩⟩
    rw [if_neg c8] at H
    exact absurd H (by simp)
   rw [if_neg c7] at H
   exact absurd H (by simp)
  rw [if_neg c6] at H
  have c6b0 : decide (x5_1 < (l1.length : Int)) = false := decide_eq_false c6
  clear c6
  obtain rfl := Option.some.inj H
  go_wp2
  repeat (go_quiet (fail); try go_wp2)
  go_ret
  exact ⟨by rfl, by exact HB.out⟩
 rw [if_neg c3] at H
 have c3b0 : (a0_0 == 1) = false := beq_eq_false_iff_ne.mpr c3
 have c3b1 : (a0_0 != 1) = true := bne_iff_ne.mpr c3
 by_cases c13 : a0_0 = 2
 ·rw [if_pos c13] at H
  have c13b0 : (a0_0 == 2) = true := beq_iff_eq.mpr c13
  have c13b1 : (a0_0 != 2) = false := bne_eq_false_iff_eq.mpr c13
  clear c13
  have H' := Aside0.mk H
  clear H
  go_enter Tryd.func22, Tryd.ntmps22
  go_wp2_with (((with_reducible refine gate_dst (N := 2) rfl ?_); (try (refine gate_guard (by rfl) ?_; dsimp only)); refine box_event ?hg (N := 2) ?hd (cs := #[.int .i64 a0_0, .slice A0_1 l0_1.length c0_1, .slice A0_2 l0_2.length c0_2, .slice A0_3 l0_3.length c0_3, .int .i64 a0_4, .slice A0_5 l0_5.length c0_5]) (t := 44) ?hr ?_; (case hd => rfl); (case hg => rfl); (case hr => (go_simp; done)); intro gb332 hg w14 hbox hb; have n0_ := Aside0.mk (below_step (by exact HB.out) hb); have n1_ := Aside0.mk (hbox); have n2_ := Aside0.mk ((by rw [hg]; exact (below_size (by exact HB.out)) : w.heap.size ≤ gb332)); have n3_ := Aside0.mk ((by rw [hg]; exact (below_size (by exact HB.out)) : w.heap.size ≤ gb332)); clear HB; have HB := n0_; have BK332 := n1_; have GW332 := n2_; have GE332 := n3_; clear n0_ n1_ n2_ n3_; clear hb hbox hg; have hcz15_0 : w14.cell? ⟨gb332, 0, none⟩ = some (.int .i64 a0_0) := (blk_cell BK332.out 0).trans rfl; have hcz15_1 : w14.cell? ⟨gb332, 1, none⟩ = some (.slice A0_1 l0_1.length c0_1) := (blk_cell BK332.out 1).trans rfl; have hcz15_2 : w14.cell? ⟨gb332, 2, none⟩ = some (.slice A0_2 l0_2.length c0_2) := (blk_cell BK332.out 2).trans rfl; have hcz15_3 : w14.cell? ⟨gb332, 3, none⟩ = some (.slice A0_3 l0_3.length c0_3) := (blk_cell BK332.out 3).trans rfl; have hcz15_4 : w14.cell? ⟨gb332, 4, none⟩ = some (.int .i64 a0_4) := (blk_cell BK332.out 4).trans rfl; have hcz15_5 : w14.cell? ⟨gb332, 5, none⟩ = some (.slice A0_5 l0_5.length c0_5) := (blk_cell BK332.out 5).trans rfl; have hfz15_0 := blk_frozen BK332.out 0; have hfz15_1 := blk_frozen BK332.out 1; have hfz15_2 := blk_frozen BK332.out 2; have hfz15_3 := blk_frozen BK332.out 3; have hfz15_4 := blk_frozen BK332.out 4; have hfz15_5 := blk_frozen BK332.out 5))
  repeat (go_quiet (fail); try go_wp2_with (fail))
  go_loopg [7, 8] k (fun kq v7 v8 w' => ∃ (x7_1 : Int) (x8_1 : Int), v7 = .int .i64 x7_1 ∧ v8 = .int .i64 x8_1 ∧ Aside0 (optimaref3_kept.l1 kq l1 x7_1 x8_1 a0_0 l0_1 l0_2 l0_3 a0_4 l0_5 = some r) ∧ Aside0 (kq ≤ k) ∧ Aside0 (w'.heap[gb332]? = some (.cells #[.int .i64 a0_0, (.slice A0_1 l0_1.length c0_1), (.slice A0_2 l0_2.length c0_2), (.slice A0_3 l0_3.length c0_3), .int .i64 a0_4, (.slice A0_5 l0_5.length c0_5)] 44 (0, 0))) ∧ Aside0 (Below w.heap.size w w'))
  case atStart => exact ⟨(0), (0), (by rfl), (by rfl), H', ⟨Nat.le_refl _⟩, ⟨by exact BK332.out⟩, ⟨by exact HB.out⟩⟩
  clear H'
  try clear c1
  try clear c2
  try clear p2
  try clear c3
  try clear c3b0
  try clear c3b1
  try clear p3
  try clear q3
  try clear hx3
  try clear c6
  try clear c6b0
  try clear p6
  try clear c7
  try clear c7b0
  try clear c7b1
  try clear c8
  try clear c8b0
  try clear c8b1
  try clear c10
  try clear c13
  try clear c13b0
  try clear c13b1
  try clear hcz15_0
  try clear hcz15_1
  try clear hcz15_2
  try clear hcz15_3
  try clear hcz15_4
  try clear hcz15_5
  try clear hcz5_0
  try clear hcz5_1
  try clear hcz5_2
  try clear hcz5_3
  try clear hcz5_4
  try clear hcz5_5
  try clear hfz15_0
  try clear hfz15_1
  try clear hfz15_2
  try clear hfz15_3
  try clear hfz15_4
  try clear hfz15_5
  try clear hfz5_0
  try clear hfz5_1
  try clear hfz5_2
  try clear hfz5_3
  try clear hfz5_4
  try clear hfz5_5
  try clear hx334_0
  try clear p2
  try clear p334
  try clear q334
  obtain ⟨x7_1, x8_1, rfl, rfl, HA, HK1, BK332, HB⟩ := hrel
  rcases gk with _ | k1
  ·exact absurd HA.out (by simp [optimaref3_kept.l1])
  have H := HA.out
  clear HA
  simp only [optimaref3_kept.l1] at H
  by_cases c16 : x8_1 < (l1.length : Int)
  ·rw [if_pos c16] at H
   have c16b0 : decide (x8_1 < (l1.length : Int)) = true := decide_eq_true c16
   clear c16
   by_cases c17 : 0 ≤ x8_1
   ·rw [if_pos c17] at H
    have c17b0 : decide (0 ≤ x8_1) = true := decide_eq_true c17
    clear c17
    by_cases c18 : x8_1 < (l0_2.length : Int)
    ·rw [if_pos c18] at H
     have c18b0 : decide (x8_1 < (l0_2.length : Int)) = true := decide_eq_true c18
     clear c18
     have H' := Aside0.mk H
     clear H
     have hcz19_0 : wr.cell? ⟨gb332, 0, none⟩ = some (.int .i64 a0_0) := (blk_cell BK332.out 0).trans rfl
     have hcz19_1 : wr.cell? ⟨gb332, 1, none⟩ = some (.slice A0_1 l0_1.length c0_1) := (blk_cell BK332.out 1).trans rfl
     have hcz19_2 : wr.cell? ⟨gb332, 2, none⟩ = some (.slice A0_2 l0_2.length c0_2) := (blk_cell BK332.out 2).trans rfl
     have hcz19_3 : wr.cell? ⟨gb332, 3, none⟩ = some (.slice A0_3 l0_3.length c0_3) := (blk_cell BK332.out 3).trans rfl
     have hcz19_4 : wr.cell? ⟨gb332, 4, none⟩ = some (.int .i64 a0_4) := (blk_cell BK332.out 4).trans rfl
     have hcz19_5 : wr.cell? ⟨gb332, 5, none⟩ = some (.slice A0_5 l0_5.length c0_5) := (blk_cell BK332.out 5).trans rfl
     have hfz19_0 := blk_frozen BK332.out 0
     have hfz19_1 := blk_frozen BK332.out 1
     have hfz19_2 := blk_frozen BK332.out 2
     have hfz19_3 := blk_frozen BK332.out 3
     have hfz19_4 := blk_frozen BK332.out 4
     have hfz19_5 := blk_frozen BK332.out 5
     have p336 : 0 ≤ (x8_1 : Int) := of_decide_eq_true (by (with_reducible assumption))
     have q336 : x8_1 < (l0_2.length : Int) := of_decide_eq_true (by (with_reducible assumption))
     obtain ⟨ad336, e336, hx336_0⟩ := Kd.at_int HR0_2.out x8_1 p336 q336
     cases e336
     replace hx336_0 := (HB.out.cell (World.block_lt_of_cell? w _ hx336_0)).trans hx336_0
     replace p336 := eq_true p336
     replace q336 := eq_true q336
     have p337 : 0 ≤ (x8_1 : Int) := of_decide_eq_true (by (with_reducible assumption))
     have q337 : x8_1 < (l1.length : Int) := of_decide_eq_true (by (with_reducible assumption))
     obtain ⟨ad337, e337, hx337_0⟩ := Kd.at_int HR1.out x8_1 p337 q337
     cases e337
     replace hx337_0 := (HB.out.cell (World.block_lt_of_cell? w _ hx337_0)).trans hx337_0
     replace p337 := eq_true p337
     replace q337 := eq_true q337
     go_wp2
     repeat (go_quiet (fail); try go_wp2)
     go_roundg k1
     case measure => have := HK1.out; omega
     case rel => exact ⟨(wrap64 (x7_1 + (wrap64 ((rd l0_2 x8_1) * (rd l1 x8_1))))), (wrap64 (x8_1 + 1)), (by rfl), (by rfl), H', ⟨by have := HK1.out; omega⟩, ⟨by (with_reducible repeat (refine blk_drewN ?_ _)); exact BK332.out⟩, ⟨by repeat ((with_reducible first | exact HB.out | apply pw_below_drewN))⟩⟩
    rw [if_neg c18] at H
    exact absurd H (by simp)
   rw [if_neg c17] at H
   exact absurd H (by simp)
  rw [if_neg c16] at H
  have c16b0 : decide (x8_1 < (l1.length : Int)) = false := decide_eq_false c16
  clear c16
  obtain rfl := Option.some.inj H
  have hcz20_0 : wr.cell? ⟨gb332, 0, none⟩ = some (.int .i64 a0_0) := (blk_cell BK332.out 0).trans rfl
  have hcz20_1 : wr.cell? ⟨gb332, 1, none⟩ = some (.slice A0_1 l0_1.length c0_1) := (blk_cell BK332.out 1).trans rfl
  have hcz20_2 : wr.cell? ⟨gb332, 2, none⟩ = some (.slice A0_2 l0_2.length c0_2) := (blk_cell BK332.out 2).trans rfl
  have hcz20_3 : wr.cell? ⟨gb332, 3, none⟩ = some (.slice A0_3 l0_3.length c0_3) := (blk_cell BK332.out 3).trans rfl
  have hcz20_4 : wr.cell? ⟨gb332, 4, none⟩ = some (.int .i64 a0_4) := (blk_cell BK332.out 4).trans rfl
  have hcz20_5 : wr.cell? ⟨gb332, 5, none⟩ = some (.slice A0_5 l0_5.length c0_5) := (blk_cell BK332.out 5).trans rfl
  have hfz20_0 := blk_frozen BK332.out 0
  have hfz20_1 := blk_frozen BK332.out 1
  have hfz20_2 := blk_frozen BK332.out 2
  have hfz20_3 := blk_frozen BK332.out 3
  have hfz20_4 := blk_frozen BK332.out 4
  have hfz20_5 := blk_frozen BK332.out 5
  go_wp2
  repeat (go_quiet (fail); try go_wp2)
  go_ret
  exact ⟨by rfl, by exact HB.out⟩
 rw [if_neg c13] at H
 have c13b0 : (a0_0 == 2) = false := beq_eq_false_iff_ne.mpr c13
 have c13b1 : (a0_0 != 2) = true := bne_iff_ne.mpr c13
 by_cases c21 : a0_0 = 3
 ·rw [if_pos c21] at H
  have c21b0 : (a0_0 == 3) = true := beq_iff_eq.mpr c21
  have c21b1 : (a0_0 != 3) = false := bne_eq_false_iff_eq.mpr c21
  clear c21
  have H' := Aside0.mk H
  clear H
  go_enter Tryd.func22, Tryd.ntmps22
  go_wp2_with (((with_reducible refine gate_dst (N := 2) rfl ?_); (try (refine gate_guard (by rfl) ?_; dsimp only)); refine box_event ?hg (N := 2) ?hd (cs := #[.int .i64 a0_0, .slice A0_1 l0_1.length c0_1, .slice A0_2 l0_2.length c0_2, .slice A0_3 l0_3.length c0_3, .int .i64 a0_4, .slice A0_5 l0_5.length c0_5]) (t := 44) ?hr ?_; (case hd => rfl); (case hg => rfl); (case hr => (go_simp; done)); intro gb332 hg w22 hbox hb; have n0_ := Aside0.mk (below_step (by exact HB.out) hb); have n1_ := Aside0.mk (hbox); have n2_ := Aside0.mk ((by rw [hg]; exact (below_size (by exact HB.out)) : w.heap.size ≤ gb332)); have n3_ := Aside0.mk ((by rw [hg]; exact (below_size (by exact HB.out)) : w.heap.size ≤ gb332)); clear HB; have HB := n0_; have BK332 := n1_; have GW332 := n2_; have GE332 := n3_; clear n0_ n1_ n2_ n3_; clear hb hbox hg; have hcz23_0 : w22.cell? ⟨gb332, 0, none⟩ = some (.int .i64 a0_0) := (blk_cell BK332.out 0).trans rfl; have hcz23_1 : w22.cell? ⟨gb332, 1, none⟩ = some (.slice A0_1 l0_1.length c0_1) := (blk_cell BK332.out 1).trans rfl; have hcz23_2 : w22.cell? ⟨gb332, 2, none⟩ = some (.slice A0_2 l0_2.length c0_2) := (blk_cell BK332.out 2).trans rfl; have hcz23_3 : w22.cell? ⟨gb332, 3, none⟩ = some (.slice A0_3 l0_3.length c0_3) := (blk_cell BK332.out 3).trans rfl; have hcz23_4 : w22.cell? ⟨gb332, 4, none⟩ = some (.int .i64 a0_4) := (blk_cell BK332.out 4).trans rfl; have hcz23_5 : w22.cell? ⟨gb332, 5, none⟩ = some (.slice A0_5 l0_5.length c0_5) := (blk_cell BK332.out 5).trans rfl; have hfz23_0 := blk_frozen BK332.out 0; have hfz23_1 := blk_frozen BK332.out 1; have hfz23_2 := blk_frozen BK332.out 2; have hfz23_3 := blk_frozen BK332.out 3; have hfz23_4 := blk_frozen BK332.out 4; have hfz23_5 := blk_frozen BK332.out 5))
  repeat (go_quiet (fail); try go_wp2_with (fail))
  go_loopg [9] k (fun kq v9 w' => ∃ (x9_1 : Int), v9 = .int .i64 x9_1 ∧ Aside0 (optimaref3_kept.l2 kq l1 x9_1 a0_0 l0_1 l0_2 l0_3 a0_4 l0_5 = some r) ∧ Aside0 (kq ≤ k) ∧ Aside0 (w'.heap[gb332]? = some (.cells #[.int .i64 a0_0, (.slice A0_1 l0_1.length c0_1), (.slice A0_2 l0_2.length c0_2), (.slice A0_3 l0_3.length c0_3), .int .i64 a0_4, (.slice A0_5 l0_5.length c0_5)] 44 (0, 0))) ∧ Aside0 (Below w.heap.size w w'))
  case atStart => exact ⟨(0), (by rfl), H', ⟨Nat.le_refl _⟩, ⟨by exact BK332.out⟩, ⟨by exact HB.out⟩⟩
  clear H'
  try clear c1
  try clear c2
  try clear p2
  try clear c3
  try clear c3b0
  try clear c3b1
  try clear p3
  try clear q3
  try clear hx3
  try clear c6
  try clear c6b0
  try clear p6
  try clear c7
  try clear c7b0
  try clear c7b1
  try clear c8
  try clear c8b0
  try clear c8b1
  try clear c10
  try clear c13
  try clear c13b0
  try clear c13b1
  try clear c16
  try clear c16b0
  try clear c17
  try clear c17b0
  try clear c18
  try clear c18b0
  try clear c21
  try clear c21b0
  try clear c21b1
  try clear c22
  try clear hcz15_0
  try clear hcz15_1
  try clear hcz15_2
  try clear hcz15_3
  try clear hcz15_4
  try clear hcz15_5
  try clear hcz19_0
  try clear hcz19_1
  try clear hcz19_2
  try clear hcz19_3
  try clear hcz19_4
  try clear hcz19_5
  try clear hcz20_0
  try clear hcz20_1
  try clear hcz20_2
  try clear hcz20_3
  try clear hcz20_4
  try clear hcz20_5
  try clear hcz23_0
  try clear hcz23_1
  try clear hcz23_2
  try clear hcz23_3
  try clear hcz23_4
  try clear hcz23_5
  try clear hcz5_0
  try clear hcz5_1
  try clear hcz5_2
  try clear hcz5_3
  try clear hcz5_4
  try clear hcz5_5
  try clear hfz15_0
  try clear hfz15_1
  try clear hfz15_2
  try clear hfz15_3
  try clear hfz15_4
  try clear hfz15_5
  try clear hfz19_0
  try clear hfz19_1
  try clear hfz19_2
  try clear hfz19_3
  try clear hfz19_4
  try clear hfz19_5
  try clear hfz20_0
  try clear hfz20_1
  try clear hfz20_2
  try clear hfz20_3
  try clear hfz20_4
  try clear hfz20_5
  try clear hfz23_0
  try clear hfz23_1
  try clear hfz23_2
  try clear hfz23_3
  try clear hfz23_4
  try clear hfz23_5
  try clear hfz5_0
  try clear hfz5_1
  try clear hfz5_2
  try clear hfz5_3
  try clear hfz5_4
  try clear hfz5_5
  try clear hx334_0
  try clear hx336_0
  try clear hx337_0
  try clear p2
  try clear p3
  try clear p334
  try clear p336
  try clear p337
  try clear p6
  try clear q3
  try clear q334
  try clear q336
  try clear q337
  obtain ⟨x9_1, rfl, HA, HK1, BK332, HB⟩ := hrel
  rcases gk with _ | k1
  ·exact absurd HA.out (by simp [optimaref3_kept.l2])
  have H := HA.out
  clear HA
  simp only [optimaref3_kept.l2] at H
  by_cases c24 : x9_1 < (l0_5.length : Int)
  ·rw [if_pos c24] at H
   have c24b0 : decide (x9_1 < (l0_5.length : Int)) = true := decide_eq_true c24
   clear c24
   have H' := Aside0.mk H
   clear H
   have hcz25_0 : wr.cell? ⟨gb332, 0, none⟩ = some (.int .i64 a0_0) := (blk_cell BK332.out 0).trans rfl
   have hcz25_1 : wr.cell? ⟨gb332, 1, none⟩ = some (.slice A0_1 l0_1.length c0_1) := (blk_cell BK332.out 1).trans rfl
   have hcz25_2 : wr.cell? ⟨gb332, 2, none⟩ = some (.slice A0_2 l0_2.length c0_2) := (blk_cell BK332.out 2).trans rfl
   have hcz25_3 : wr.cell? ⟨gb332, 3, none⟩ = some (.slice A0_3 l0_3.length c0_3) := (blk_cell BK332.out 3).trans rfl
   have hcz25_4 : wr.cell? ⟨gb332, 4, none⟩ = some (.int .i64 a0_4) := (blk_cell BK332.out 4).trans rfl
   have hcz25_5 : wr.cell? ⟨gb332, 5, none⟩ = some (.slice A0_5 l0_5.length c0_5) := (blk_cell BK332.out 5).trans rfl
   have hfz25_0 := blk_frozen BK332.out 0
   have hfz25_1 := blk_frozen BK332.out 1
   have hfz25_2 := blk_frozen BK332.out 2
   have hfz25_3 := blk_frozen BK332.out 3
   have hfz25_4 := blk_frozen BK332.out 4
   have hfz25_5 := blk_frozen BK332.out 5
   go_wp2
   repeat (go_quiet (fail); try go_wp2)
   go_loopg [10, 11] k1 (fun kq v10 v11 w' => ∃ (x10_2 : Bool) (x11_2 : Int), v10 = .bool x10_2 ∧ v11 = .int .i64 x11_2 ∧ Aside0 (optimaref3_kept.l3 kq l1 x9_1 x10_2 x11_2 a0_0 l0_1 l0_2 l0_3 a0_4 l0_5 = some r) ∧ Aside0 (kq ≤ k1) ∧ Aside0 (w'.heap[gb332]? = some (.cells #[.int .i64 a0_0, (.slice A0_1 l0_1.length c0_1), (.slice A0_2 l0_2.length c0_2), (.slice A0_3 l0_3.length c0_3), .int .i64 a0_4, (.slice A0_5 l0_5.length c0_5)] 44 (0, 0))) ∧ Aside0 (Below w.heap.size w w'))
   case atStart => exact ⟨(true), (0), (by rfl), (by rfl), H', ⟨Nat.le_refl _⟩, ⟨by exact BK332.out⟩, ⟨by exact HB.out⟩⟩
   clear H'
   try clear c1
   try clear c2
   try clear p2
   try clear c3
   try clear c3b0
   try clear c3b1
   try clear p3
   try clear q3
   try clear hx3
   try clear c6
   try clear c6b0
   try clear p6
   try clear c7
   try clear c7b0
   try clear c7b1
   try clear c8
   try clear c8b0
   try clear c8b1
   try clear c10
   try clear c13
   try clear c13b0
   try clear c13b1
   try clear c16
   try clear c16b0
   try clear c17
   try clear c17b0
   try clear c18
   try clear c18b0
   try clear c21
   try clear c21b0
   try clear c21b1
   try clear c22
   try clear c24
   try clear c24b0
   try clear hcz15_0
   try clear hcz15_1
   try clear hcz15_2
   try clear hcz15_3
   try clear hcz15_4
   try clear hcz15_5
   try clear hcz19_0
   try clear hcz19_1
   try clear hcz19_2
   try clear hcz19_3
   try clear hcz19_4
   try clear hcz19_5
   try clear hcz20_0
   try clear hcz20_1
   try clear hcz20_2
   try clear hcz20_3
   try clear hcz20_4
   try clear hcz20_5
   try clear hcz23_0
   try clear hcz23_1
   try clear hcz23_2
   try clear hcz23_3
   try clear hcz23_4
   try clear hcz23_5
   try clear hcz25_0
   try clear hcz25_1
   try clear hcz25_2
   try clear hcz25_3
   try clear hcz25_4
   try clear hcz25_5
   try clear hcz5_0
   try clear hcz5_1
   try clear hcz5_2
   try clear hcz5_3
   try clear hcz5_4
   try clear hcz5_5
   try clear hfz15_0
   try clear hfz15_1
   try clear hfz15_2
   try clear hfz15_3
   try clear hfz15_4
   try clear hfz15_5
   try clear hfz19_0
   try clear hfz19_1
   try clear hfz19_2
   try clear hfz19_3
   try clear hfz19_4
   try clear hfz19_5
   try clear hfz20_0
   try clear hfz20_1
   try clear hfz20_2
   try clear hfz20_3
   try clear hfz20_4
   try clear hfz20_5
   try clear hfz23_0
   try clear hfz23_1
   try clear hfz23_2
   try clear hfz23_3
   try clear hfz23_4
   try clear hfz23_5
   try clear hfz25_0
   try clear hfz25_1
   try clear hfz25_2
   try clear hfz25_3
   try clear hfz25_4
   try clear hfz25_5
   try clear hfz5_0
   try clear hfz5_1
   try clear hfz5_2
   try clear hfz5_3
   try clear hfz5_4
   try clear hfz5_5
   try clear hx334_0
   try clear hx336_0
   try clear hx337_0
   try clear p2
   try clear p3
   try clear p334
   try clear p336
   try clear p337
   try clear p6
   try clear q3
   try clear q334
   try clear q336
   try clear q337
   obtain ⟨x10_2, x11_2, rfl, rfl, HA, HK2, BK332, HB⟩ := hrel
   rcases gk with _ | k2
   ·exact absurd HA.out (by simp [optimaref3_kept.l3])
   have H := HA.out
   clear HA
   simp only [optimaref3_kept.l3] at H
   by_cases c26 : x11_2 < (l1.length : Int)
   ·rw [if_pos c26] at H
    have c26b0 : decide (x11_2 < (l1.length : Int)) = true := decide_eq_true c26
    clear c26
    by_cases c27 : x10_2 = true
    ·subst c27
     have H1 : (if 0 ≤ x9_1 then (if x9_1 < (l0_5.length : Int) then (if 0 ≤ x11_2 then (if x11_2 < ((rd_L1 l0_5 x9_1).length : Int) then (optimaref3_kept.l3 k2 l1 x9_1 ((rd (rd_L1 l0_5 x9_1) x11_2) == (rd l1 x11_2)) (wrap64 (x11_2 + 1)) a0_0 l0_1 l0_2 l0_3 a0_4 l0_5) else (none)) else (none)) else (none)) else (none)) = some r := by rw [if_pos rfl] at H; exact H
     clear H
     have H := H1
     clear H1
     by_cases c28 : 0 ≤ x9_1
     ·rw [if_pos c28] at H
      have c28b0 : decide (0 ≤ x9_1) = true := decide_eq_true c28
      clear c28
      by_cases c29 : x9_1 < (l0_5.length : Int)
      ·rw [if_pos c29] at H
       have c29b0 : decide (x9_1 < (l0_5.length : Int)) = true := decide_eq_true c29
       clear c29
       by_cases c30 : 0 ≤ x11_2
       ·rw [if_pos c30] at H
        have c30b0 : decide (0 ≤ x11_2) = true := decide_eq_true c30
        clear c30
        by_cases c31 : x11_2 < ((rd_L1 l0_5 x9_1).length : Int)
        ·rw [if_pos c31] at H
         have c31b0 : decide (x11_2 < ((rd_L1 l0_5 x9_1).length : Int)) = true := decide_eq_true c31
         clear c31
         have H' := Aside0.mk H
         clear H
         have hcz32_0 : wr.cell? ⟨gb332, 0, none⟩ = some (.int .i64 a0_0) := (blk_cell BK332.out 0).trans rfl
         have hcz32_1 : wr.cell? ⟨gb332, 1, none⟩ = some (.slice A0_1 l0_1.length c0_1) := (blk_cell BK332.out 1).trans rfl
         have hcz32_2 : wr.cell? ⟨gb332, 2, none⟩ = some (.slice A0_2 l0_2.length c0_2) := (blk_cell BK332.out 2).trans rfl
         have hcz32_3 : wr.cell? ⟨gb332, 3, none⟩ = some (.slice A0_3 l0_3.length c0_3) := (blk_cell BK332.out 3).trans rfl
         have hcz32_4 : wr.cell? ⟨gb332, 4, none⟩ = some (.int .i64 a0_4) := (blk_cell BK332.out 4).trans rfl
         have hcz32_5 : wr.cell? ⟨gb332, 5, none⟩ = some (.slice A0_5 l0_5.length c0_5) := (blk_cell BK332.out 5).trans rfl
         have hfz32_0 := blk_frozen BK332.out 0
         have hfz32_1 := blk_frozen BK332.out 1
         have hfz32_2 := blk_frozen BK332.out 2
         have hfz32_3 := blk_frozen BK332.out 3
         have hfz32_4 := blk_frozen BK332.out 4
         have hfz32_5 := blk_frozen BK332.out 5
         have p338 : 0 ≤ (x9_1 : Int) := of_decide_eq_true (by (with_reducible assumption))
         have q338 : x9_1 < (l0_5.length : Int) := of_decide_eq_true (by (with_reducible assumption))
         obtain ⟨ad338, A338_0, c338_0, e338, hx338_0, hl338_0, hi338_0⟩ := at_L1 HR0_5.out x9_1 p338 q338
         cases e338
         replace hx338_0 := (HB.out.cell (World.block_lt_of_cell? w _ hx338_0)).trans hx338_0
         have HR338_0 := Aside0.mk hi338_0
         have HC338_0 := Aside0.mk hl338_0
         clear hi338_0 hl338_0
         replace p338 := eq_true p338
         replace q338 := eq_true q338
         have p339 : 0 ≤ (x11_2 : Int) := of_decide_eq_true (by (with_reducible assumption))
         have q339 : x11_2 < ((rd_L1 l0_5 x9_1).length : Int) := of_decide_eq_true (by (with_reducible assumption))
         obtain ⟨ad339, e339, hx339_0⟩ := Kd.at_int HR338_0.out x11_2 p339 q339
         cases e339
         replace hx339_0 := (HB.out.cell (World.block_lt_of_cell? w _ hx339_0)).trans hx339_0
         replace p339 := eq_true p339
         replace q339 := eq_true q339
         have p340 : 0 ≤ (x11_2 : Int) := of_decide_eq_true (by (with_reducible assumption))
         have q340 : x11_2 < (l1.length : Int) := of_decide_eq_true (by (with_reducible assumption))
         obtain ⟨ad340, e340, hx340_0⟩ := Kd.at_int HR1.out x11_2 p340 q340
         cases e340
         replace hx340_0 := (HB.out.cell (World.block_lt_of_cell? w _ hx340_0)).trans hx340_0
         replace p340 := eq_true p340
         replace q340 := eq_true q340
         go_wp2
         repeat (go_quiet (fail); try go_wp2)
         go_roundg k2
         case measure => have := HK1.out; have := HK2.out; omega
         case rel => exact ⟨(((rd (rd_L1 l0_5 x9_1) x11_2) == (rd l1 x11_2))), (wrap64 (x11_2 + 1)), (by rfl), (by rfl), H', ⟨by have := HK1.out; have := HK2.out; omega⟩, ⟨by (with_reducible repeat (refine blk_drewN ?_ _)); exact BK332.out⟩, ⟨by repeat ((with_reducible first | exact HB.out | apply pw_below_drewN))⟩⟩
        rw [if_neg c31] at H
        exact absurd H (by simp)
       rw [if_neg c30] at H
       exact absurd H (by simp)
      rw [if_neg c29] at H
      exact absurd H (by simp)
     rw [if_neg c28] at H
     exact absurd H (by simp)
    replace c27 := Bool.eq_false_iff.mpr c27
    subst c27
    have H1 : (optimaref3_kept.l3 k2 l1 x9_1 false (wrap64 (x11_2 + 1)) a0_0 l0_1 l0_2 l0_3 a0_4 l0_5) = some r := by rw [if_neg (show ¬ (false = true) by decide)] at H; exact H
    clear H
    have H := H1
    clear H1
    have H' := Aside0.mk H
    clear H
    go_wp2
    repeat (go_quiet (fail); try go_wp2)
    go_roundg k2
    case measure => have := HK1.out; have := HK2.out; omega
    case rel => exact ⟨(false), (wrap64 (x11_2 + 1)), (by rfl), (by rfl), H', ⟨by have := HK1.out; have := HK2.out; omega⟩, ⟨by (with_reducible repeat (refine blk_drewN ?_ _)); exact BK332.out⟩, ⟨by repeat ((with_reducible first | exact HB.out | apply pw_below_drewN))⟩⟩
   rw [if_neg c26] at H
   have c26b0 : decide (x11_2 < (l1.length : Int)) = false := decide_eq_false c26
   clear c26
   by_cases c33 : x10_2 = true
   ·subst c33
    have H1 : (some true) = some r := by rw [if_pos rfl] at H; exact H
    clear H
    have H := H1
    clear H1
    obtain rfl := Option.some.inj H
    go_wp2
    repeat (go_quiet (fail); try go_wp2)
    go_ret
    exact ⟨by rfl, by exact HB.out⟩
   replace c33 := Bool.eq_false_iff.mpr c33
   subst c33
   have H1 : (optimaref3_kept.l2 k2 l1 (wrap64 (x9_1 + 1)) a0_0 l0_1 l0_2 l0_3 a0_4 l0_5) = some r := by rw [if_neg (show ¬ (false = true) by decide)] at H; exact H
   clear H
   have H := H1
   clear H1
   have H' := Aside0.mk H
   clear H
   go_wp2
   repeat (go_quiet (fail); try go_wp2)
   go_roundg k2
   case measure => have := HK1.out; have := HK2.out; omega
   case rel => exact ⟨(wrap64 (x9_1 + 1)), (by rfl), H', ⟨by have := HK1.out; have := HK2.out; omega⟩, ⟨by exact BK332.out⟩, ⟨by exact HB.out⟩⟩
  rw [if_neg c24] at H
  have c24b0 : decide (x9_1 < (l0_5.length : Int)) = false := decide_eq_false c24
  clear c24
  obtain rfl := Option.some.inj H
  have hcz34_0 : wr.cell? ⟨gb332, 0, none⟩ = some (.int .i64 a0_0) := (blk_cell BK332.out 0).trans rfl
  have hcz34_1 : wr.cell? ⟨gb332, 1, none⟩ = some (.slice A0_1 l0_1.length c0_1) := (blk_cell BK332.out 1).trans rfl
  have hcz34_2 : wr.cell? ⟨gb332, 2, none⟩ = some (.slice A0_2 l0_2.length c0_2) := (blk_cell BK332.out 2).trans rfl
  have hcz34_3 : wr.cell? ⟨gb332, 3, none⟩ = some (.slice A0_3 l0_3.length c0_3) := (blk_cell BK332.out 3).trans rfl
  have hcz34_4 : wr.cell? ⟨gb332, 4, none⟩ = some (.int .i64 a0_4) := (blk_cell BK332.out 4).trans rfl
  have hcz34_5 : wr.cell? ⟨gb332, 5, none⟩ = some (.slice A0_5 l0_5.length c0_5) := (blk_cell BK332.out 5).trans rfl
  have hfz34_0 := blk_frozen BK332.out 0
  have hfz34_1 := blk_frozen BK332.out 1
  have hfz34_2 := blk_frozen BK332.out 2
  have hfz34_3 := blk_frozen BK332.out 3
  have hfz34_4 := blk_frozen BK332.out 4
  have hfz34_5 := blk_frozen BK332.out 5
  go_wp2
  repeat (go_quiet (fail); try go_wp2)
  go_ret
  exact ⟨by rfl, by exact HB.out⟩
 rw [if_neg c21] at H
 have c21b0 : (a0_0 == 3) = false := beq_eq_false_iff_ne.mpr c21
 have c21b1 : (a0_0 != 3) = true := bne_iff_ne.mpr c21
 by_cases c35 : a0_0 = 4
 ·rw [if_pos c35] at H
  have c35b0 : (a0_0 == 4) = true := beq_iff_eq.mpr c35
  have c35b1 : (a0_0 != 4) = false := bne_eq_false_iff_eq.mpr c35
  clear c35
  by_cases c36 : 0 < (l1.length : Int)
  ·rw [if_pos c36] at H
   have c36b0 : decide (0 < (l1.length : Int)) = true := decide_eq_true c36
   have c36b1 : decide (0 < l1.length) = true := decide_eq_true (by omega)
   clear c36
   by_cases c37 : (rd l1 0) ≥ 0
   ·rw [if_pos c37] at H
    have c37b0 : decide (0 ≤ (rd l1 0)) = true := decide_eq_true c37
    clear c37
    by_cases c38 : (rd l1 0) < (wrap64 ((l1.length : Int) - 2))
    ·rw [if_pos c38] at H
     have c38b0 : decide ((rd l1 0) < (wrap64 ((l1.length : Int) - 2))) = true := decide_eq_true c38
     clear c38
     obtain ⟨ji39, hji39⟩ : ∃ j_ : Int, (wrap64 (2 + (rd l1 0))) = j_ := ⟨_, rfl⟩
     replace H : (if 0 ≤ (ji39) then (if (ji39) < (l1.length : Int) then (if 1 < (l1.length : Int) then (some ((rd l1 (ji39)) == (rd l1 1))) else (none)) else (none)) else (none)) = some r := by (rw [hji39] at H; exact H)
     have hji39w : (IntKind.i64.wrap (2 + (rd l1 0))) = ji39 := (i64_w _).trans hji39
     by_cases c40 : 0 ≤ (ji39)
     ·rw [if_pos c40] at H
      have c40b0 : decide (0 ≤ (ji39)) = true := decide_eq_true c40
      clear c40
      by_cases c41 : (ji39) < (l1.length : Int)
      ·rw [if_pos c41] at H
       have c41b0 : decide ((ji39) < (l1.length : Int)) = true := decide_eq_true c41
       clear c41
       by_cases c42 : 1 < (l1.length : Int)
       ·rw [if_pos c42] at H
        have c42b0 : decide (1 < (l1.length : Int)) = true := decide_eq_true c42
        have c42b1 : decide (1 < l1.length) = true := decide_eq_true (by omega)
        clear c42
        obtain rfl := Option.some.inj H
        go_enter Tryd.func22, Tryd.ntmps22
        go_wp2_with (((with_reducible refine gate_dst (N := 2) rfl ?_); (try (refine gate_guard (by rfl) ?_; dsimp only)); refine box_event ?hg (N := 2) ?hd (cs := #[.int .i64 a0_0, .slice A0_1 l0_1.length c0_1, .slice A0_2 l0_2.length c0_2, .slice A0_3 l0_3.length c0_3, .int .i64 a0_4, .slice A0_5 l0_5.length c0_5]) (t := 44) ?hr ?_; (case hd => rfl); (case hg => rfl); (case hr => (go_simp; done)); intro gb332 hg w43 hbox hb; have n0_ := Aside0.mk (below_step (by exact HB.out) hb); have n1_ := Aside0.mk (hbox); have n2_ := Aside0.mk ((by rw [hg]; exact (below_size (by exact HB.out)) : w.heap.size ≤ gb332)); have n3_ := Aside0.mk ((by rw [hg]; exact (below_size (by exact HB.out)) : w.heap.size ≤ gb332)); clear HB; have HB := n0_; have BK332 := n1_; have GW332 := n2_; have GE332 := n3_; clear n0_ n1_ n2_ n3_; clear hb hbox hg; have hcz44_0 : w43.cell? ⟨gb332, 0, none⟩ = some (.int .i64 a0_0) := (blk_cell BK332.out 0).trans rfl; have hcz44_1 : w43.cell? ⟨gb332, 1, none⟩ = some (.slice A0_1 l0_1.length c0_1) := (blk_cell BK332.out 1).trans rfl; have hcz44_2 : w43.cell? ⟨gb332, 2, none⟩ = some (.slice A0_2 l0_2.length c0_2) := (blk_cell BK332.out 2).trans rfl; have hcz44_3 : w43.cell? ⟨gb332, 3, none⟩ = some (.slice A0_3 l0_3.length c0_3) := (blk_cell BK332.out 3).trans rfl; have hcz44_4 : w43.cell? ⟨gb332, 4, none⟩ = some (.int .i64 a0_4) := (blk_cell BK332.out 4).trans rfl; have hcz44_5 : w43.cell? ⟨gb332, 5, none⟩ = some (.slice A0_5 l0_5.length c0_5) := (blk_cell BK332.out 5).trans rfl; have hfz44_0 := blk_frozen BK332.out 0; have hfz44_1 := blk_frozen BK332.out 1; have hfz44_2 := blk_frozen BK332.out 2; have hfz44_3 := blk_frozen BK332.out 3; have hfz44_4 := blk_frozen BK332.out 4; have hfz44_5 := blk_frozen BK332.out 5; have p341 : 0 ≤ (0 : Int) := (by omega); have q341 : 0 < (l1.length : Int) := of_decide_eq_true (by (with_reducible assumption)); obtain ⟨ad341, e341, hx341_0⟩ := Kd.at_int HR1.out 0 p341 q341; cases e341; have qi341 : (0 < l1.length) = True := eq_true (by omega); (try rw [show ((0 : Int)).toNat = 0 from rfl] at hx341_0); (try rw [Addr.add_zero'] at hx341_0); replace hx341_0 := (HB.out.cell (World.block_lt_of_cell? w _ hx341_0)).trans hx341_0; replace p341 := eq_true p341; replace q341 := eq_true q341; have p342 : 0 ≤ (0 : Int) := (by omega); have q342 : 0 < (l1.length : Int) := of_decide_eq_true (by (with_reducible assumption)); obtain ⟨ad342, e342, hx342_0⟩ := Kd.at_int HR1.out 0 p342 q342; obtain rfl : ad341 = ad342 := (by injection e342); have qi342 : (0 < l1.length) = True := eq_true (by omega); (try rw [show ((0 : Int)).toNat = 0 from rfl] at hx342_0); (try rw [Addr.add_zero'] at hx342_0); replace hx342_0 := (HB.out.cell (World.block_lt_of_cell? w _ hx342_0)).trans hx342_0; replace p342 := eq_true p342; replace q342 := eq_true q342; have p343 : 0 ≤ (0 : Int) := (by omega); have q343 : 0 < (l1.length : Int) := of_decide_eq_true (by (with_reducible assumption)); obtain ⟨ad343, e343, hx343_0⟩ := Kd.at_int HR1.out 0 p343 q343; obtain rfl : ad341 = ad343 := (by injection e343); have qi343 : (0 < l1.length) = True := eq_true (by omega); (try rw [show ((0 : Int)).toNat = 0 from rfl] at hx343_0); (try rw [Addr.add_zero'] at hx343_0); replace hx343_0 := (HB.out.cell (World.block_lt_of_cell? w _ hx343_0)).trans hx343_0; replace p343 := eq_true p343; replace q343 := eq_true q343; have p344 : 0 ≤ ((ji39) : Int) := of_decide_eq_true (by (with_reducible assumption)); have q344 : (ji39) < (l1.length : Int) := of_decide_eq_true (by (with_reducible assumption)); obtain ⟨ad344, e344, hx344_0⟩ := Kd.at_int HR1.out (ji39) p344 q344; obtain rfl : ad341 = ad344 := (by injection e344); replace hx344_0 := (HB.out.cell (World.block_lt_of_cell? w _ hx344_0)).trans hx344_0; replace p344 := eq_true p344; replace q344 := eq_true q344; have p345 : 0 ≤ (1 : Int) := (by omega); have q345 : 1 < (l1.length : Int) := of_decide_eq_true (by (with_reducible assumption)); obtain ⟨ad345, e345, hx345_0⟩ := Kd.at_int HR1.out 1 p345 q345; obtain rfl : ad341 = ad345 := (by injection e345); (try simp only [show (1 : Int).toNat = 1 from rfl, Nat.reduceMul, Nat.reduceEqDiff, Go.Addr.add, ↓reduceIte] at hx345_0); have qi345 : (1 < l1.length) = True := eq_true (by omega); (try rw [show ((1 : Int)).toNat = 1 from rfl] at hx345_0); replace hx345_0 := (HB.out.cell (World.block_lt_of_cell? w _ hx345_0)).trans hx345_0; replace p345 := eq_true p345; replace q345 := eq_true q345))
        repeat (go_quiet (fail); try go_wp2_with (fail))
        go_ret
        exact ⟨by rfl, by repeat ((with_reducible first | exact HB.out | apply pw_below_drewN))⟩
       rw [if_neg c42] at H
       exact absurd H (by simp)
      rw [if_neg c41] at H
      exact absurd H (by simp)
     rw [if_neg c40] at H
     exact absurd H (by simp)
    rw [if_neg c38] at H
    have c38b0 : decide ((rd l1 0) < (wrap64 ((l1.length : Int) - 2))) = false := decide_eq_false c38
    clear c38
    obtain rfl := Option.some.inj H
    go_enter Tryd.func22, Tryd.ntmps22
    go_wp2_with (((with_reducible refine gate_dst (N := 2) rfl ?_); (try (refine gate_guard (by rfl) ?_; dsimp only)); refine box_event ?hg (N := 2) ?hd (cs := #[.int .i64 a0_0, .slice A0_1 l0_1.length c0_1, .slice A0_2 l0_2.length c0_2, .slice A0_3 l0_3.length c0_3, .int .i64 a0_4, .slice A0_5 l0_5.length c0_5]) (t := 44) ?hr ?_; (case hd => rfl); (case hg => rfl); (case hr => (go_simp; done)); intro gb332 hg w45 hbox hb; have n0_ := Aside0.mk (below_step (by exact HB.out) hb); have n1_ := Aside0.mk (hbox); have n2_ := Aside0.mk ((by rw [hg]; exact (below_size (by exact HB.out)) : w.heap.size ≤ gb332)); have n3_ := Aside0.mk ((by rw [hg]; exact (below_size (by exact HB.out)) : w.heap.size ≤ gb332)); clear HB; have HB := n0_; have BK332 := n1_; have GW332 := n2_; have GE332 := n3_; clear n0_ n1_ n2_ n3_; clear hb hbox hg; have hcz46_0 : w45.cell? ⟨gb332, 0, none⟩ = some (.int .i64 a0_0) := (blk_cell BK332.out 0).trans rfl; have hcz46_1 : w45.cell? ⟨gb332, 1, none⟩ = some (.slice A0_1 l0_1.length c0_1) := (blk_cell BK332.out 1).trans rfl; have hcz46_2 : w45.cell? ⟨gb332, 2, none⟩ = some (.slice A0_2 l0_2.length c0_2) := (blk_cell BK332.out 2).trans rfl; have hcz46_3 : w45.cell? ⟨gb332, 3, none⟩ = some (.slice A0_3 l0_3.length c0_3) := (blk_cell BK332.out 3).trans rfl; have hcz46_4 : w45.cell? ⟨gb332, 4, none⟩ = some (.int .i64 a0_4) := (blk_cell BK332.out 4).trans rfl; have hcz46_5 : w45.cell? ⟨gb332, 5, none⟩ = some (.slice A0_5 l0_5.length c0_5) := (blk_cell BK332.out 5).trans rfl; have hfz46_0 := blk_frozen BK332.out 0; have hfz46_1 := blk_frozen BK332.out 1; have hfz46_2 := blk_frozen BK332.out 2; have hfz46_3 := blk_frozen BK332.out 3; have hfz46_4 := blk_frozen BK332.out 4; have hfz46_5 := blk_frozen BK332.out 5; have p341 : 0 ≤ (0 : Int) := (by omega); have q341 : 0 < (l1.length : Int) := of_decide_eq_true (by (with_reducible assumption)); obtain ⟨ad341, e341, hx341_0⟩ := Kd.at_int HR1.out 0 p341 q341; cases e341; have qi341 : (0 < l1.length) = True := eq_true (by omega); (try rw [show ((0 : Int)).toNat = 0 from rfl] at hx341_0); (try rw [Addr.add_zero'] at hx341_0); replace hx341_0 := (HB.out.cell (World.block_lt_of_cell? w _ hx341_0)).trans hx341_0; replace p341 := eq_true p341; replace q341 := eq_true q341; have p342 : 0 ≤ (0 : Int) := (by omega); have q342 : 0 < (l1.length : Int) := of_decide_eq_true (by (with_reducible assumption)); obtain ⟨ad342, e342, hx342_0⟩ := Kd.at_int HR1.out 0 p342 q342; obtain rfl : ad341 = ad342 := (by injection e342); have qi342 : (0 < l1.length) = True := eq_true (by omega); (try rw [show ((0 : Int)).toNat = 0 from rfl] at hx342_0); (try rw [Addr.add_zero'] at hx342_0); replace hx342_0 := (HB.out.cell (World.block_lt_of_cell? w _ hx342_0)).trans hx342_0; replace p342 := eq_true p342; replace q342 := eq_true q342))
    repeat (go_quiet (fail); try go_wp2_with (fail))
    go_ret
    exact ⟨by rfl, by repeat ((with_reducible first | exact HB.out | apply pw_below_drewN))⟩
   rw [if_neg c37] at H
   have c37b0 : decide (0 ≤ (rd l1 0)) = false := decide_eq_false c37
   clear c37
   obtain rfl := Option.some.inj H
   go_enter Tryd.func22, Tryd.ntmps22
   go_wp2_with (((with_reducible refine gate_dst (N := 2) rfl ?_); (try (refine gate_guard (by rfl) ?_; dsimp only)); refine box_event ?hg (N := 2) ?hd (cs := #[.int .i64 a0_0, .slice A0_1 l0_1.length c0_1, .slice A0_2 l0_2.length c0_2, .slice A0_3 l0_3.length c0_3, .int .i64 a0_4, .slice A0_5 l0_5.length c0_5]) (t := 44) ?hr ?_; (case hd => rfl); (case hg => rfl); (case hr => (go_simp; done)); intro gb332 hg w47 hbox hb; have n0_ := Aside0.mk (below_step (by exact HB.out) hb); have n1_ := Aside0.mk (hbox); have n2_ := Aside0.mk ((by rw [hg]; exact (below_size (by exact HB.out)) : w.heap.size ≤ gb332)); have n3_ := Aside0.mk ((by rw [hg]; exact (below_size (by exact HB.out)) : w.heap.size ≤ gb332)); clear HB; have HB := n0_; have BK332 := n1_; have GW332 := n2_; have GE332 := n3_; clear n0_ n1_ n2_ n3_; clear hb hbox hg; have hcz48_0 : w47.cell? ⟨gb332, 0, none⟩ = some (.int .i64 a0_0) := (blk_cell BK332.out 0).trans rfl; have hcz48_1 : w47.cell? ⟨gb332, 1, none⟩ = some (.slice A0_1 l0_1.length c0_1) := (blk_cell BK332.out 1).trans rfl; have hcz48_2 : w47.cell? ⟨gb332, 2, none⟩ = some (.slice A0_2 l0_2.length c0_2) := (blk_cell BK332.out 2).trans rfl; have hcz48_3 : w47.cell? ⟨gb332, 3, none⟩ = some (.slice A0_3 l0_3.length c0_3) := (blk_cell BK332.out 3).trans rfl; have hcz48_4 : w47.cell? ⟨gb332, 4, none⟩ = some (.int .i64 a0_4) := (blk_cell BK332.out 4).trans rfl; have hcz48_5 : w47.cell? ⟨gb332, 5, none⟩ = some (.slice A0_5 l0_5.length c0_5) := (blk_cell BK332.out 5).trans rfl; have hfz48_0 := blk_frozen BK332.out 0; have hfz48_1 := blk_frozen BK332.out 1; have hfz48_2 := blk_frozen BK332.out 2; have hfz48_3 := blk_frozen BK332.out 3; have hfz48_4 := blk_frozen BK332.out 4; have hfz48_5 := blk_frozen BK332.out 5; have p341 : 0 ≤ (0 : Int) := (by omega); have q341 : 0 < (l1.length : Int) := of_decide_eq_true (by (with_reducible assumption)); obtain ⟨ad341, e341, hx341_0⟩ := Kd.at_int HR1.out 0 p341 q341; cases e341; have qi341 : (0 < l1.length) = True := eq_true (by omega); (try rw [show ((0 : Int)).toNat = 0 from rfl] at hx341_0); (try rw [Addr.add_zero'] at hx341_0); replace hx341_0 := (HB.out.cell (World.block_lt_of_cell? w _ hx341_0)).trans hx341_0; replace p341 := eq_true p341; replace q341 := eq_true q341))
   repeat (go_quiet (fail); try go_wp2_with (fail))
   go_ret
   exact ⟨by rfl, by repeat ((with_reducible first | exact HB.out | apply pw_below_drewN))⟩
  rw [if_neg c36] at H
  exact absurd H (by simp)
 rw [if_neg c35] at H
 have c35b0 : (a0_0 == 4) = false := beq_eq_false_iff_ne.mpr c35
 have c35b1 : (a0_0 != 4) = true := bne_iff_ne.mpr c35
 have H' := Aside0.mk H
 clear H
 go_enter Tryd.func22, Tryd.ntmps22
 go_wp2_with (((with_reducible refine gate_dst (N := 2) rfl ?_); (try (refine gate_guard (by rfl) ?_; dsimp only)); refine box_event ?hg (N := 2) ?hd (cs := #[.int .i64 a0_0, .slice A0_1 l0_1.length c0_1, .slice A0_2 l0_2.length c0_2, .slice A0_3 l0_3.length c0_3, .int .i64 a0_4, .slice A0_5 l0_5.length c0_5]) (t := 44) ?hr ?_; (case hd => rfl); (case hg => rfl); (case hr => (go_simp; done)); intro gb332 hg w49 hbox hb; have n0_ := Aside0.mk (below_step (by exact HB.out) hb); have n1_ := Aside0.mk (hbox); have n2_ := Aside0.mk ((by rw [hg]; exact (below_size (by exact HB.out)) : w.heap.size ≤ gb332)); have n3_ := Aside0.mk ((by rw [hg]; exact (below_size (by exact HB.out)) : w.heap.size ≤ gb332)); clear HB; have HB := n0_; have BK332 := n1_; have GW332 := n2_; have GE332 := n3_; clear n0_ n1_ n2_ n3_; clear hb hbox hg; have hcz50_0 : w49.cell? ⟨gb332, 0, none⟩ = some (.int .i64 a0_0) := (blk_cell BK332.out 0).trans rfl; have hcz50_1 : w49.cell? ⟨gb332, 1, none⟩ = some (.slice A0_1 l0_1.length c0_1) := (blk_cell BK332.out 1).trans rfl; have hcz50_2 : w49.cell? ⟨gb332, 2, none⟩ = some (.slice A0_2 l0_2.length c0_2) := (blk_cell BK332.out 2).trans rfl; have hcz50_3 : w49.cell? ⟨gb332, 3, none⟩ = some (.slice A0_3 l0_3.length c0_3) := (blk_cell BK332.out 3).trans rfl; have hcz50_4 : w49.cell? ⟨gb332, 4, none⟩ = some (.int .i64 a0_4) := (blk_cell BK332.out 4).trans rfl; have hcz50_5 : w49.cell? ⟨gb332, 5, none⟩ = some (.slice A0_5 l0_5.length c0_5) := (blk_cell BK332.out 5).trans rfl; have hfz50_0 := blk_frozen BK332.out 0; have hfz50_1 := blk_frozen BK332.out 1; have hfz50_2 := blk_frozen BK332.out 2; have hfz50_3 := blk_frozen BK332.out 3; have hfz50_4 := blk_frozen BK332.out 4; have hfz50_5 := blk_frozen BK332.out 5))
 repeat (go_quiet (fail); try go_wp2_with (fail))
 go_loopg [12] k (fun kq v12 w' => ∃ (x12_1 : Int), v12 = .int .i64 x12_1 ∧ Aside0 (optimaref3_kept.l4 kq l1 x12_1 a0_0 l0_1 l0_2 l0_3 a0_4 l0_5 = some r) ∧ Aside0 (kq ≤ k) ∧ Aside0 (w'.heap[gb332]? = some (.cells #[.int .i64 a0_0, (.slice A0_1 l0_1.length c0_1), (.slice A0_2 l0_2.length c0_2), (.slice A0_3 l0_3.length c0_3), .int .i64 a0_4, (.slice A0_5 l0_5.length c0_5)] 44 (0, 0))) ∧ Aside0 (Below w.heap.size w w'))
 case atStart => exact ⟨(0), (by rfl), H', ⟨Nat.le_refl _⟩, ⟨by exact BK332.out⟩, ⟨by exact HB.out⟩⟩
 clear H'
 try clear c1
 try clear c2
 try clear p2
 try clear c3
 try clear c3b0
 try clear c3b1
 try clear p3
 try clear q3
 try clear hx3
 try clear qi3
 try clear c4
 try clear c6
 try clear c6b0
 try clear p6
 try clear c7
 try clear c7b0
 try clear c7b1
 try clear c8
 try clear c8b0
 try clear c8b1
 try clear c10
 try clear c13
 try clear c13b0
 try clear c13b1
 try clear c16
 try clear c16b0
 try clear c17
 try clear c17b0
 try clear c18
 try clear c18b0
 try clear c21
 try clear c21b0
 try clear c21b1
 try clear c22
 try clear c24
 try clear c24b0
 try clear c26
 try clear c26b0
 try clear c27
 try clear c28
 try clear c28b0
 try clear c29
 try clear c29b0
 try clear c30
 try clear c30b0
 try clear c31
 try clear c31b0
 try clear c33
 try clear p33
 try clear q33
 try clear hx33
 try clear p34
 try clear q34
 try clear hx34
 try clear qi34
 try clear c35
 try clear c35b0
 try clear c35b1
 try clear c36
 try clear c36b0
 try clear c36b1
 try clear c37
 try clear c37b0
 try clear c38
 try clear c38b0
 try clear c40
 try clear c40b0
 try clear c41
 try clear c41b0
 try clear c42
 try clear c42b0
 try clear c42b1
 try clear hcz15_0
 try clear hcz15_1
 try clear hcz15_2
 try clear hcz15_3
 try clear hcz15_4
 try clear hcz15_5
 try clear hcz19_0
 try clear hcz19_1
 try clear hcz19_2
 try clear hcz19_3
 try clear hcz19_4
 try clear hcz19_5
 try clear hcz20_0
 try clear hcz20_1
 try clear hcz20_2
 try clear hcz20_3
 try clear hcz20_4
 try clear hcz20_5
 try clear hcz23_0
 try clear hcz23_1
 try clear hcz23_2
 try clear hcz23_3
 try clear hcz23_4
 try clear hcz23_5
 try clear hcz25_0
 try clear hcz25_1
 try clear hcz25_2
 try clear hcz25_3
 try clear hcz25_4
 try clear hcz25_5
 try clear hcz32_0
 try clear hcz32_1
 try clear hcz32_2
 try clear hcz32_3
 try clear hcz32_4
 try clear hcz32_5
 try clear hcz34_0
 try clear hcz34_1
 try clear hcz34_2
 try clear hcz34_3
 try clear hcz34_4
 try clear hcz34_5
 try clear hcz44_0
 try clear hcz44_1
 try clear hcz44_2
 try clear hcz44_3
 try clear hcz44_4
 try clear hcz44_5
 try clear hcz46_0
 try clear hcz46_1
 try clear hcz46_2
 try clear hcz46_3
 try clear hcz46_4
 try clear hcz46_5
 try clear hcz48_0
 try clear hcz48_1
 try clear hcz48_2
 try clear hcz48_3
 try clear hcz48_4
 try clear hcz48_5
 try clear hcz50_0
 try clear hcz50_1
 try clear hcz50_2
 try clear hcz50_3
 try clear hcz50_4
 try clear hcz50_5
 try clear hcz5_0
 try clear hcz5_1
 try clear hcz5_2
 try clear hcz5_3
 try clear hcz5_4
 try clear hcz5_5
 try clear hfz15_0
 try clear hfz15_1
 try clear hfz15_2
 try clear hfz15_3
 try clear hfz15_4
 try clear hfz15_5
 try clear hfz19_0
 try clear hfz19_1
 try clear hfz19_2
 try clear hfz19_3
 try clear hfz19_4
 try clear hfz19_5
 try clear hfz20_0
 try clear hfz20_1
 try clear hfz20_2
 try clear hfz20_3
 try clear hfz20_4
 try clear hfz20_5
 try clear hfz23_0
 try clear hfz23_1
 try clear hfz23_2
 try clear hfz23_3
 try clear hfz23_4
 try clear hfz23_5
 try clear hfz25_0
 try clear hfz25_1
 try clear hfz25_2
 try clear hfz25_3
 try clear hfz25_4
 try clear hfz25_5
 try clear hfz32_0
 try clear hfz32_1
 try clear hfz32_2
 try clear hfz32_3
 try clear hfz32_4
 try clear hfz32_5
 try clear hfz34_0
 try clear hfz34_1
 try clear hfz34_2
 try clear hfz34_3
 try clear hfz34_4
 try clear hfz34_5
 try clear hfz44_0
 try clear hfz44_1
 try clear hfz44_2
 try clear hfz44_3
 try clear hfz44_4
 try clear hfz44_5
 try clear hfz46_0
 try clear hfz46_1
 try clear hfz46_2
 try clear hfz46_3
 try clear hfz46_4
 try clear hfz46_5
 try clear hfz48_0
 try clear hfz48_1
 try clear hfz48_2
 try clear hfz48_3
 try clear hfz48_4
 try clear hfz48_5
 try clear hfz50_0
 try clear hfz50_1
 try clear hfz50_2
 try clear hfz50_3
 try clear hfz50_4
 try clear hfz50_5
 try clear hfz5_0
 try clear hfz5_1
 try clear hfz5_2
 try clear hfz5_3
 try clear hfz5_4
 try clear hfz5_5
 try clear hx334_0
 try clear hx336_0
 try clear hx337_0
 try clear hx338_0
 try clear hx339_0
 try clear hx340_0
 try clear hx341_0
 try clear hx342_0
 try clear hx343_0
 try clear hx344_0
 try clear hx345_0
 try clear p2
 try clear p3
 try clear p334
 try clear p336
 try clear p337
 try clear p338
 try clear p339
 try clear p340
 try clear p341
 try clear p342
 try clear p343
 try clear p344
 try clear p345
 try clear p6
 try clear q3
 try clear q334
 try clear q336
 try clear q337
 try clear q338
 try clear q339
 try clear q340
 try clear q341
 try clear q342
 try clear q343
 try clear q344
 try clear q345
 obtain ⟨x12_1, rfl, HA, HK1, BK332, HB⟩ := hrel
 rcases gk with _ | k1
 ·exact absurd HA.out (by simp [optimaref3_kept.l4])
 have H := HA.out
 clear HA
 simp only [optimaref3_kept.l4] at H
 by_cases c51 : x12_1 < (l1.length : Int)
 ·rw [if_pos c51] at H
  have c51b0 : decide (x12_1 < (l1.length : Int)) = true := decide_eq_true c51
  clear c51
  have H' := Aside0.mk H
  clear H
  go_wp2
  repeat (go_quiet (fail); try go_wp2)
  go_loopg [13, 14] k1 (fun kq v13 v14 w' => ∃ (x13_2 : Int) (x14_2 : Int), v13 = .int .i64 x13_2 ∧ v14 = .int .i64 x14_2 ∧ Aside0 (optimaref3_kept.l5 kq l1 x12_1 x13_2 x14_2 a0_0 l0_1 l0_2 l0_3 a0_4 l0_5 = some r) ∧ Aside0 (kq ≤ k1) ∧ Aside0 (w'.heap[gb332]? = some (.cells #[.int .i64 a0_0, (.slice A0_1 l0_1.length c0_1), (.slice A0_2 l0_2.length c0_2), (.slice A0_3 l0_3.length c0_3), .int .i64 a0_4, (.slice A0_5 l0_5.length c0_5)] 44 (0, 0))) ∧ Aside0 (Below w.heap.size w w'))
  case atStart => exact ⟨(0), (0), (by rfl), (by rfl), H', ⟨Nat.le_refl _⟩, ⟨by exact BK332.out⟩, ⟨by exact HB.out⟩⟩
  clear H'
  try clear c1
  try clear c2
  try clear p2
  try clear c3
  try clear c3b0
  try clear c3b1
  try clear p3
  try clear q3
  try clear hx3
  try clear qi3
  try clear c4
  try clear c5
  try clear c6
  try clear c6b0
  try clear p6
  try clear c7
  try clear c7b0
  try clear c7b1
  try clear c8
  try clear c8b0
  try clear c8b1
  try clear c10
  try clear c13
  try clear c13b0
  try clear c13b1
  try clear c16
  try clear c16b0
  try clear c17
  try clear c17b0
  try clear c18
  try clear c18b0
  try clear c21
  try clear c21b0
  try clear c21b1
  try clear c22
  try clear c24
  try clear c24b0
  try clear c26
  try clear c26b0
  try clear c27
  try clear c28
  try clear c28b0
  try clear c29
  try clear c29b0
  try clear c30
  try clear c30b0
  try clear c31
  try clear c31b0
  try clear c33
  try clear p33
  try clear q33
  try clear hx33
  try clear p34
  try clear q34
  try clear hx34
  try clear qi34
  try clear c35
  try clear c35b0
  try clear c35b1
  try clear c36
  try clear c36b0
  try clear c36b1
  try clear c37
  try clear c37b0
  try clear c38
  try clear c38b0
  try clear c40
  try clear c40b0
  try clear c41
  try clear c41b0
  try clear c42
  try clear c42b0
  try clear c42b1
  try clear c51
  try clear c51b0
  try clear hcz15_0
  try clear hcz15_1
  try clear hcz15_2
  try clear hcz15_3
  try clear hcz15_4
  try clear hcz15_5
  try clear hcz19_0
  try clear hcz19_1
  try clear hcz19_2
  try clear hcz19_3
  try clear hcz19_4
  try clear hcz19_5
  try clear hcz20_0
  try clear hcz20_1
  try clear hcz20_2
  try clear hcz20_3
  try clear hcz20_4
  try clear hcz20_5
  try clear hcz23_0
  try clear hcz23_1
  try clear hcz23_2
  try clear hcz23_3
  try clear hcz23_4
  try clear hcz23_5
  try clear hcz25_0
  try clear hcz25_1
  try clear hcz25_2
  try clear hcz25_3
  try clear hcz25_4
  try clear hcz25_5
  try clear hcz32_0
  try clear hcz32_1
  try clear hcz32_2
  try clear hcz32_3
  try clear hcz32_4
  try clear hcz32_5
  try clear hcz34_0
  try clear hcz34_1
  try clear hcz34_2
  try clear hcz34_3
  try clear hcz34_4
  try clear hcz34_5
  try clear hcz44_0
  try clear hcz44_1
  try clear hcz44_2
  try clear hcz44_3
  try clear hcz44_4
  try clear hcz44_5
  try clear hcz46_0
  try clear hcz46_1
  try clear hcz46_2
  try clear hcz46_3
  try clear hcz46_4
  try clear hcz46_5
  try clear hcz48_0
  try clear hcz48_1
  try clear hcz48_2
  try clear hcz48_3
  try clear hcz48_4
  try clear hcz48_5
  try clear hcz50_0
  try clear hcz50_1
  try clear hcz50_2
  try clear hcz50_3
  try clear hcz50_4
  try clear hcz50_5
  try clear hcz5_0
  try clear hcz5_1
  try clear hcz5_2
  try clear hcz5_3
  try clear hcz5_4
  try clear hcz5_5
  try clear hfz15_0
  try clear hfz15_1
  try clear hfz15_2
  try clear hfz15_3
  try clear hfz15_4
  try clear hfz15_5
  try clear hfz19_0
  try clear hfz19_1
  try clear hfz19_2
  try clear hfz19_3
  try clear hfz19_4
  try clear hfz19_5
  try clear hfz20_0
  try clear hfz20_1
  try clear hfz20_2
  try clear hfz20_3
  try clear hfz20_4
  try clear hfz20_5
  try clear hfz23_0
  try clear hfz23_1
  try clear hfz23_2
  try clear hfz23_3
  try clear hfz23_4
  try clear hfz23_5
  try clear hfz25_0
  try clear hfz25_1
  try clear hfz25_2
  try clear hfz25_3
  try clear hfz25_4
  try clear hfz25_5
  try clear hfz32_0
  try clear hfz32_1
  try clear hfz32_2
  try clear hfz32_3
  try clear hfz32_4
  try clear hfz32_5
  try clear hfz34_0
  try clear hfz34_1
  try clear hfz34_2
  try clear hfz34_3
  try clear hfz34_4
  try clear hfz34_5
  try clear hfz44_0
  try clear hfz44_1
  try clear hfz44_2
  try clear hfz44_3
  try clear hfz44_4
  try clear hfz44_5
  try clear hfz46_0
  try clear hfz46_1
  try clear hfz46_2
  try clear hfz46_3
  try clear hfz46_4
  try clear hfz46_5
  try clear hfz48_0
  try clear hfz48_1
  try clear hfz48_2
  try clear hfz48_3
  try clear hfz48_4
  try clear hfz48_5
  try clear hfz50_0
  try clear hfz50_1
  try clear hfz50_2
  try clear hfz50_3
  try clear hfz50_4
  try clear hfz50_5
  try clear hfz5_0
  try clear hfz5_1
  try clear hfz5_2
  try clear hfz5_3
  try clear hfz5_4
  try clear hfz5_5
  try clear hx334_0
  try clear hx336_0
  try clear hx337_0
  try clear hx338_0
  try clear hx339_0
  try clear hx340_0
  try clear hx341_0
  try clear hx342_0
  try clear hx343_0
  try clear hx344_0
  try clear hx345_0
  try clear p2
  try clear p3
  try clear p33
  try clear p334
  try clear p336
  try clear p337
  try clear p338
  try clear p339
  try clear p34
  try clear p340
  try clear p341
  try clear p342
  try clear p343
  try clear p344
  try clear p345
  try clear p6
  try clear q3
  try clear q33
  try clear q334
  try clear q336
  try clear q337
  try clear q338
  try clear q339
  try clear q34
  try clear q340
  try clear q341
  try clear q342
  try clear q343
  try clear q344
  try clear q345
  obtain ⟨x13_2, x14_2, rfl, rfl, HA, HK2, BK332, HB⟩ := hrel
  rcases gk with _ | k2
  ·exact absurd HA.out (by simp [optimaref3_kept.l5])
  have H := HA.out
  clear HA
  simp only [optimaref3_kept.l5] at H
  by_cases c52 : x14_2 < (l1.length : Int)
  ·rw [if_pos c52] at H
   have c52b0 : decide (x14_2 < (l1.length : Int)) = true := decide_eq_true c52
   clear c52
   by_cases c53 : 0 ≤ x14_2
   ·rw [if_pos c53] at H
    have c53b0 : decide (0 ≤ x14_2) = true := decide_eq_true c53
    clear c53
    by_cases c54 : 0 ≤ x12_1
    ·rw [if_pos c54] at H
     have c54b0 : decide (0 ≤ x12_1) = true := decide_eq_true c54
     clear c54
     by_cases c55 : x12_1 < (l1.length : Int)
     ·rw [if_pos c55] at H
      have c55b0 : decide (x12_1 < (l1.length : Int)) = true := decide_eq_true c55
      clear c55
      by_cases c56 : (rd l1 x14_2) ≤ (rd l1 x12_1)
      ·rw [if_pos c56] at H
       have c56b0 : decide ((rd l1 x14_2) ≤ (rd l1 x12_1)) = true := decide_eq_true c56
       clear c56
       by_cases c57 : x14_2 < (l0_2.length : Int)
       ·rw [if_pos c57] at H
        have c57b0 : decide (x14_2 < (l0_2.length : Int)) = true := decide_eq_true c57
        clear c57
        by_cases c58 : (rd l1 x12_1) < (wrap64 ((rd l1 x14_2) + (rd l0_2 x14_2)))
        ·rw [if_pos c58] at H
         have c58b0 : decide ((rd l1 x12_1) < (wrap64 ((rd l1 x14_2) + (rd l0_2 x14_2)))) = true := decide_eq_true c58
         clear c58
         by_cases c59 : x14_2 < (l0_3.length : Int)
         ·rw [if_pos c59] at H
          have c59b0 : decide (x14_2 < (l0_3.length : Int)) = true := decide_eq_true c59
          clear c59
          have H' := Aside0.mk H
          clear H
          have p346 : 0 ≤ (x14_2 : Int) := of_decide_eq_true (by (with_reducible assumption))
          have q346 : x14_2 < (l1.length : Int) := of_decide_eq_true (by (with_reducible assumption))
          obtain ⟨ad346, e346, hx346_0⟩ := Kd.at_int HR1.out x14_2 p346 q346
          cases e346
          replace hx346_0 := (HB.out.cell (World.block_lt_of_cell? w _ hx346_0)).trans hx346_0
          replace p346 := eq_true p346
          replace q346 := eq_true q346
          have p347 : 0 ≤ (x12_1 : Int) := of_decide_eq_true (by (with_reducible assumption))
          have q347 : x12_1 < (l1.length : Int) := of_decide_eq_true (by (with_reducible assumption))
          obtain ⟨ad347, e347, hx347_0⟩ := Kd.at_int HR1.out x12_1 p347 q347
          obtain rfl : ad346 = ad347 := (by injection e347)
          replace hx347_0 := (HB.out.cell (World.block_lt_of_cell? w _ hx347_0)).trans hx347_0
          replace p347 := eq_true p347
          replace q347 := eq_true q347
          have p348 : 0 ≤ (x12_1 : Int) := of_decide_eq_true (by (with_reducible assumption))
          have q348 : x12_1 < (l1.length : Int) := of_decide_eq_true (by (with_reducible assumption))
          obtain ⟨ad348, e348, hx348_0⟩ := Kd.at_int HR1.out x12_1 p348 q348
          obtain rfl : ad346 = ad348 := (by injection e348)
          replace hx348_0 := (HB.out.cell (World.block_lt_of_cell? w _ hx348_0)).trans hx348_0
          replace p348 := eq_true p348
          replace q348 := eq_true q348
          have p349 : 0 ≤ (x14_2 : Int) := of_decide_eq_true (by (with_reducible assumption))
          have q349 : x14_2 < (l1.length : Int) := of_decide_eq_true (by (with_reducible assumption))
          obtain ⟨ad349, e349, hx349_0⟩ := Kd.at_int HR1.out x14_2 p349 q349
          obtain rfl : ad346 = ad349 := (by injection e349)
          replace hx349_0 := (HB.out.cell (World.block_lt_of_cell? w _ hx349_0)).trans hx349_0
          replace p349 := eq_true p349
          replace q349 := eq_true q349
          have hcz60_0 : wr.cell? ⟨gb332, 0, none⟩ = some (.int .i64 a0_0) := (blk_cell BK332.out 0).trans rfl
          have hcz60_1 : wr.cell? ⟨gb332, 1, none⟩ = some (.slice A0_1 l0_1.length c0_1) := (blk_cell BK332.out 1).trans rfl
          have hcz60_2 : wr.cell? ⟨gb332, 2, none⟩ = some (.slice A0_2 l0_2.length c0_2) := (blk_cell BK332.out 2).trans rfl
          have hcz60_3 : wr.cell? ⟨gb332, 3, none⟩ = some (.slice A0_3 l0_3.length c0_3) := (blk_cell BK332.out 3).trans rfl
          have hcz60_4 : wr.cell? ⟨gb332, 4, none⟩ = some (.int .i64 a0_4) := (blk_cell BK332.out 4).trans rfl
          have hcz60_5 : wr.cell? ⟨gb332, 5, none⟩ = some (.slice A0_5 l0_5.length c0_5) := (blk_cell BK332.out 5).trans rfl
          have hfz60_0 := blk_frozen BK332.out 0
          have hfz60_1 := blk_frozen BK332.out 1
          have hfz60_2 := blk_frozen BK332.out 2
          have hfz60_3 := blk_frozen BK332.out 3
          have hfz60_4 := blk_frozen BK332.out 4
          have hfz60_5 := blk_frozen BK332.out 5
          have p350 : 0 ≤ (x14_2 : Int) := of_decide_eq_true (by (with_reducible assumption))
          have q350 : x14_2 < (l0_2.length : Int) := of_decide_eq_true (by (with_reducible assumption))
          obtain ⟨ad350, e350, hx350_0⟩ := Kd.at_int HR0_2.out x14_2 p350 q350
          cases e350
          replace hx350_0 := (HB.out.cell (World.block_lt_of_cell? w _ hx350_0)).trans hx350_0
          replace p350 := eq_true p350
          replace q350 := eq_true q350
          have p351 : 0 ≤ (x14_2 : Int) := of_decide_eq_true (by (with_reducible assumption))
          have q351 : x14_2 < (l0_3.length : Int) := of_decide_eq_true (by (with_reducible assumption))
          obtain ⟨ad351, e351, hx351_0⟩ := Kd.at_int HR0_3.out x14_2 p351 q351
          cases e351
          replace hx351_0 := (HB.out.cell (World.block_lt_of_cell? w _ hx351_0)).trans hx351_0
          replace p351 := eq_true p351
          replace q351 := eq_true q351
          go_wp2
          repeat (go_quiet (fail); try go_wp2)
          go_roundg k2
          case measure => have := HK1.out; have := HK2.out; omega
          case rel => exact ⟨(wrap64 (x13_2 + (rd l0_3 x14_2))), (wrap64 (x14_2 + 1)), (by rfl), (by rfl), H', ⟨by have := HK1.out; have := HK2.out; omega⟩, ⟨by (with_reducible repeat (refine blk_drewN ?_ _)); exact BK332.out⟩, ⟨by repeat ((with_reducible first | exact HB.out | apply pw_below_drewN))⟩⟩
         rw [if_neg c59] at H
         exact absurd H (by simp)
        rw [if_neg c58] at H
        have c58b0 : decide ((rd l1 x12_1) < (wrap64 ((rd l1 x14_2) + (rd l0_2 x14_2)))) = false := decide_eq_false c58
        clear c58
        have H' := Aside0.mk H
        clear H
        have p346 : 0 ≤ (x14_2 : Int) := of_decide_eq_true (by (with_reducible assumption))
        have q346 : x14_2 < (l1.length : Int) := of_decide_eq_true (by (with_reducible assumption))
        obtain ⟨ad346, e346, hx346_0⟩ := Kd.at_int HR1.out x14_2 p346 q346
        cases e346
        replace hx346_0 := (HB.out.cell (World.block_lt_of_cell? w _ hx346_0)).trans hx346_0
        replace p346 := eq_true p346
        replace q346 := eq_true q346
        have p347 : 0 ≤ (x12_1 : Int) := of_decide_eq_true (by (with_reducible assumption))
        have q347 : x12_1 < (l1.length : Int) := of_decide_eq_true (by (with_reducible assumption))
        obtain ⟨ad347, e347, hx347_0⟩ := Kd.at_int HR1.out x12_1 p347 q347
        obtain rfl : ad346 = ad347 := (by injection e347)
        replace hx347_0 := (HB.out.cell (World.block_lt_of_cell? w _ hx347_0)).trans hx347_0
        replace p347 := eq_true p347
        replace q347 := eq_true q347
        have p348 : 0 ≤ (x12_1 : Int) := of_decide_eq_true (by (with_reducible assumption))
        have q348 : x12_1 < (l1.length : Int) := of_decide_eq_true (by (with_reducible assumption))
        obtain ⟨ad348, e348, hx348_0⟩ := Kd.at_int HR1.out x12_1 p348 q348
        obtain rfl : ad346 = ad348 := (by injection e348)
        replace hx348_0 := (HB.out.cell (World.block_lt_of_cell? w _ hx348_0)).trans hx348_0
        replace p348 := eq_true p348
        replace q348 := eq_true q348
        have p349 : 0 ≤ (x14_2 : Int) := of_decide_eq_true (by (with_reducible assumption))
        have q349 : x14_2 < (l1.length : Int) := of_decide_eq_true (by (with_reducible assumption))
        obtain ⟨ad349, e349, hx349_0⟩ := Kd.at_int HR1.out x14_2 p349 q349
        obtain rfl : ad346 = ad349 := (by injection e349)
        replace hx349_0 := (HB.out.cell (World.block_lt_of_cell? w _ hx349_0)).trans hx349_0
        replace p349 := eq_true p349
        replace q349 := eq_true q349
        have hcz61_0 : wr.cell? ⟨gb332, 0, none⟩ = some (.int .i64 a0_0) := (blk_cell BK332.out 0).trans rfl
        have hcz61_1 : wr.cell? ⟨gb332, 1, none⟩ = some (.slice A0_1 l0_1.length c0_1) := (blk_cell BK332.out 1).trans rfl
        have hcz61_2 : wr.cell? ⟨gb332, 2, none⟩ = some (.slice A0_2 l0_2.length c0_2) := (blk_cell BK332.out 2).trans rfl
        have hcz61_3 : wr.cell? ⟨gb332, 3, none⟩ = some (.slice A0_3 l0_3.length c0_3) := (blk_cell BK332.out 3).trans rfl
        have hcz61_4 : wr.cell? ⟨gb332, 4, none⟩ = some (.int .i64 a0_4) := (blk_cell BK332.out 4).trans rfl
        have hcz61_5 : wr.cell? ⟨gb332, 5, none⟩ = some (.slice A0_5 l0_5.length c0_5) := (blk_cell BK332.out 5).trans rfl
        have hfz61_0 := blk_frozen BK332.out 0
        have hfz61_1 := blk_frozen BK332.out 1
        have hfz61_2 := blk_frozen BK332.out 2
        have hfz61_3 := blk_frozen BK332.out 3
        have hfz61_4 := blk_frozen BK332.out 4
        have hfz61_5 := blk_frozen BK332.out 5
        have p350 : 0 ≤ (x14_2 : Int) := of_decide_eq_true (by (with_reducible assumption))
        have q350 : x14_2 < (l0_2.length : Int) := of_decide_eq_true (by (with_reducible assumption))
        obtain ⟨ad350, e350, hx350_0⟩ := Kd.at_int HR0_2.out x14_2 p350 q350
        cases e350
        replace hx350_0 := (HB.out.cell (World.block_lt_of_cell? w _ hx350_0)).trans hx350_0
        replace p350 := eq_true p350
        replace q350 := eq_true q350
        go_wp2
        repeat (go_quiet (fail); try go_wp2)
        go_roundg k2
        case measure => have := HK1.out; have := HK2.out; omega
        case rel => exact ⟨(x13_2), (wrap64 (x14_2 + 1)), (by rfl), (by rfl), H', ⟨by have := HK1.out; have := HK2.out; omega⟩, ⟨by (with_reducible repeat (refine blk_drewN ?_ _)); exact BK332.out⟩, ⟨by repeat ((with_reducible first | exact HB.out | apply pw_below_drewN))⟩⟩
       rw [if_neg c57] at H
       exact absurd H (by simp)
      rw [if_neg c56] at H
      have c56b0 : decide ((rd l1 x14_2) ≤ (rd l1 x12_1)) = false := decide_eq_false c56
      clear c56
      have H' := Aside0.mk H
      clear H
      have p346 : 0 ≤ (x14_2 : Int) := of_decide_eq_true (by (with_reducible assumption))
      have q346 : x14_2 < (l1.length : Int) := of_decide_eq_true (by (with_reducible assumption))
      obtain ⟨ad346, e346, hx346_0⟩ := Kd.at_int HR1.out x14_2 p346 q346
      cases e346
      replace hx346_0 := (HB.out.cell (World.block_lt_of_cell? w _ hx346_0)).trans hx346_0
      replace p346 := eq_true p346
      replace q346 := eq_true q346
      have p347 : 0 ≤ (x12_1 : Int) := of_decide_eq_true (by (with_reducible assumption))
      have q347 : x12_1 < (l1.length : Int) := of_decide_eq_true (by (with_reducible assumption))
      obtain ⟨ad347, e347, hx347_0⟩ := Kd.at_int HR1.out x12_1 p347 q347
      obtain rfl : ad346 = ad347 := (by injection e347)
      replace hx347_0 := (HB.out.cell (World.block_lt_of_cell? w _ hx347_0)).trans hx347_0
      replace p347 := eq_true p347
      replace q347 := eq_true q347
      go_wp2
      repeat (go_quiet (fail); try go_wp2)
      go_roundg k2
      case measure => have := HK1.out; have := HK2.out; omega
      case rel => exact ⟨(x13_2), (wrap64 (x14_2 + 1)), (by rfl), (by rfl), H', ⟨by have := HK1.out; have := HK2.out; omega⟩, ⟨by (with_reducible repeat (refine blk_drewN ?_ _)); exact BK332.out⟩, ⟨by repeat ((with_reducible first | exact HB.out | apply pw_below_drewN))⟩⟩
     rw [if_neg c55] at H
     exact absurd H (by simp)
    rw [if_neg c54] at H
    exact absurd H (by simp)
   rw [if_neg c53] at H
   exact absurd H (by simp)
  rw [if_neg c52] at H
  have c52b0 : decide (x14_2 < (l1.length : Int)) = false := decide_eq_false c52
  clear c52
  by_cases c62 : 0 ≤ x12_1
  ·rw [if_pos c62] at H
   have c62b0 : decide (0 ≤ x12_1) = true := decide_eq_true c62
   clear c62
   by_cases c63 : x12_1 < (l0_2.length : Int)
   ·rw [if_pos c63] at H
    have c63b0 : decide (x12_1 < (l0_2.length : Int)) = true := decide_eq_true c63
    clear c63
    by_cases c64 : (rd l0_2 x12_1) > 0
    ·rw [if_pos c64] at H
     have c64b0 : decide (0 < (rd l0_2 x12_1)) = true := decide_eq_true c64
     clear c64
     by_cases c65 : x13_2 > a0_4
     ·rw [if_pos c65] at H
      have c65b0 : decide (a0_4 < x13_2) = true := decide_eq_true c65
      clear c65
      obtain rfl := Option.some.inj H
      have hcz66_0 : wr.cell? ⟨gb332, 0, none⟩ = some (.int .i64 a0_0) := (blk_cell BK332.out 0).trans rfl
      have hcz66_1 : wr.cell? ⟨gb332, 1, none⟩ = some (.slice A0_1 l0_1.length c0_1) := (blk_cell BK332.out 1).trans rfl
      have hcz66_2 : wr.cell? ⟨gb332, 2, none⟩ = some (.slice A0_2 l0_2.length c0_2) := (blk_cell BK332.out 2).trans rfl
      have hcz66_3 : wr.cell? ⟨gb332, 3, none⟩ = some (.slice A0_3 l0_3.length c0_3) := (blk_cell BK332.out 3).trans rfl
      have hcz66_4 : wr.cell? ⟨gb332, 4, none⟩ = some (.int .i64 a0_4) := (blk_cell BK332.out 4).trans rfl
      have hcz66_5 : wr.cell? ⟨gb332, 5, none⟩ = some (.slice A0_5 l0_5.length c0_5) := (blk_cell BK332.out 5).trans rfl
      have hfz66_0 := blk_frozen BK332.out 0
      have hfz66_1 := blk_frozen BK332.out 1
      have hfz66_2 := blk_frozen BK332.out 2
      have hfz66_3 := blk_frozen BK332.out 3
      have hfz66_4 := blk_frozen BK332.out 4
      have hfz66_5 := blk_frozen BK332.out 5
      have p352 : 0 ≤ (x12_1 : Int) := of_decide_eq_true (by (with_reducible assumption))
      have q352 : x12_1 < (l0_2.length : Int) := of_decide_eq_true (by (with_reducible assumption))
      obtain ⟨ad352, e352, hx352_0⟩ := Kd.at_int HR0_2.out x12_1 p352 q352
      cases e352
      replace hx352_0 := (HB.out.cell (World.block_lt_of_cell? w _ hx352_0)).trans hx352_0
      replace p352 := eq_true p352
      replace q352 := eq_true q352
      go_wp2
      repeat (go_quiet (fail); try go_wp2)
      go_ret
      exact ⟨by rfl, by exact HB.out⟩
     rw [if_neg c65] at H
     have c65b0 : decide (a0_4 < x13_2) = false := decide_eq_false c65
     clear c65
     have H' := Aside0.mk H
     clear H
     have hcz67_0 : wr.cell? ⟨gb332, 0, none⟩ = some (.int .i64 a0_0) := (blk_cell BK332.out 0).trans rfl
     have hcz67_1 : wr.cell? ⟨gb332, 1, none⟩ = some (.slice A0_1 l0_1.length c0_1) := (blk_cell BK332.out 1).trans rfl
     have hcz67_2 : wr.cell? ⟨gb332, 2, none⟩ = some (.slice A0_2 l0_2.length c0_2) := (blk_cell BK332.out 2).trans rfl
     have hcz67_3 : wr.cell? ⟨gb332, 3, none⟩ = some (.slice A0_3 l0_3.length c0_3) := (blk_cell BK332.out 3).trans rfl
     have hcz67_4 : wr.cell? ⟨gb332, 4, none⟩ = some (.int .i64 a0_4) := (blk_cell BK332.out 4).trans rfl
     have hcz67_5 : wr.cell? ⟨gb332, 5, none⟩ = some (.slice A0_5 l0_5.length c0_5) := (blk_cell BK332.out 5).trans rfl
     have hfz67_0 := blk_frozen BK332.out 0
     have hfz67_1 := blk_frozen BK332.out 1
     have hfz67_2 := blk_frozen BK332.out 2
     have hfz67_3 := blk_frozen BK332.out 3
     have hfz67_4 := blk_frozen BK332.out 4
     have hfz67_5 := blk_frozen BK332.out 5
     have p352 : 0 ≤ (x12_1 : Int) := of_decide_eq_true (by (with_reducible assumption))
     have q352 : x12_1 < (l0_2.length : Int) := of_decide_eq_true (by (with_reducible assumption))
     obtain ⟨ad352, e352, hx352_0⟩ := Kd.at_int HR0_2.out x12_1 p352 q352
     cases e352
     replace hx352_0 := (HB.out.cell (World.block_lt_of_cell? w _ hx352_0)).trans hx352_0
     replace p352 := eq_true p352
     replace q352 := eq_true q352
     go_wp2
     repeat (go_quiet (fail); try go_wp2)
     go_roundg k2
     case measure => have := HK1.out; have := HK2.out; omega
     case rel => exact ⟨(wrap64 (x12_1 + 1)), (by rfl), H', ⟨by have := HK1.out; have := HK2.out; omega⟩, ⟨by exact BK332.out⟩, ⟨by exact HB.out⟩⟩
    rw [if_neg c64] at H
    have c64b0 : decide (0 < (rd l0_2 x12_1)) = false := decide_eq_false c64
    clear c64
    have H' := Aside0.mk H
    clear H
    have hcz68_0 : wr.cell? ⟨gb332, 0, none⟩ = some (.int .i64 a0_0) := (blk_cell BK332.out 0).trans rfl
    have hcz68_1 : wr.cell? ⟨gb332, 1, none⟩ = some (.slice A0_1 l0_1.length c0_1) := (blk_cell BK332.out 1).trans rfl
    have hcz68_2 : wr.cell? ⟨gb332, 2, none⟩ = some (.slice A0_2 l0_2.length c0_2) := (blk_cell BK332.out 2).trans rfl
    have hcz68_3 : wr.cell? ⟨gb332, 3, none⟩ = some (.slice A0_3 l0_3.length c0_3) := (blk_cell BK332.out 3).trans rfl
    have hcz68_4 : wr.cell? ⟨gb332, 4, none⟩ = some (.int .i64 a0_4) := (blk_cell BK332.out 4).trans rfl
    have hcz68_5 : wr.cell? ⟨gb332, 5, none⟩ = some (.slice A0_5 l0_5.length c0_5) := (blk_cell BK332.out 5).trans rfl
    have hfz68_0 := blk_frozen BK332.out 0
    have hfz68_1 := blk_frozen BK332.out 1
    have hfz68_2 := blk_frozen BK332.out 2
    have hfz68_3 := blk_frozen BK332.out 3
    have hfz68_4 := blk_frozen BK332.out 4
    have hfz68_5 := blk_frozen BK332.out 5
    have p352 : 0 ≤ (x12_1 : Int) := of_decide_eq_true (by (with_reducible assumption))
    have q352 : x12_1 < (l0_2.length : Int) := of_decide_eq_true (by (with_reducible assumption))
    obtain ⟨ad352, e352, hx352_0⟩ := Kd.at_int HR0_2.out x12_1 p352 q352
    cases e352
    replace hx352_0 := (HB.out.cell (World.block_lt_of_cell? w _ hx352_0)).trans hx352_0
    replace p352 := eq_true p352
    replace q352 := eq_true q352
    go_wp2
    repeat (go_quiet (fail); try go_wp2)
    go_roundg k2
    case measure => have := HK1.out; have := HK2.out; omega
    case rel => exact ⟨(wrap64 (x12_1 + 1)), (by rfl), H', ⟨by have := HK1.out; have := HK2.out; omega⟩, ⟨by exact BK332.out⟩, ⟨by exact HB.out⟩⟩
   rw [if_neg c63] at H
   exact absurd H (by simp)
  rw [if_neg c62] at H
  exact absurd H (by simp)
 rw [if_neg c51] at H
 have c51b0 : decide (x12_1 < (l1.length : Int)) = false := decide_eq_false c51
 clear c51
 obtain rfl := Option.some.inj H
 go_wp2
 repeat (go_quiet (fail); try go_wp2)
 go_ret
 exact ⟨by rfl, by exact HB.out⟩

end Go.Proofs.YtehekppkicjimaaDoor.QFK
