-- written by a program of mine (wip/tools/print2.py), which turns the kit's printer a little
import Derived.Test.YtehekppkicjimaaDoorSQFKx0
import Derived.Test.YtehekppkicjimaaDoorSQFKx17
import Derived.Test.YtehekppkicjimaaDoorSQFKx18
import Derived.Test.YtehekppkicjimaaDoorSErr
namespace Go.Proofs.YtehekppkicjimaaDoor.QFK
open Go.RowKit Go.Proofs.YtehekppkicjimaaDoorW.PrintWords Go.Proofs.YtehekppkicjimaaDoorW.PrintLast Go.Proofs.YtehekppkicjimaaDoorW.PrintMore
attribute [local go_sem] max2_int min2_int max_two min_two max_three min_three max_four min_four
set_option linter.unusedVariables false
set_option linter.unusedSimpArgs false

attribute [local go_sem] Sent.alloc Sent.drew Sent.drewN Sent.c0 Sent.c1
/-! ### optimaref3_PuzzleValid: function 8 -/
mutual
def optimaref3_PuzzleValid.j0 : Nat → Bool → List (List Int) → List (S44) → Option (Int)
 | 0, _, _, _ => none
 | k + 1, x18, x321000, x321001 => if x18 = true then (some 2) else (optimaref3_PuzzleValid.l0 k 0 x321000 x321001)
def optimaref3_PuzzleValid.l0 : Nat → Int → List (List Int) → List (S44) → Option (Int)
 | 0, _, _, _ => none
 | k + 1, x3, x321000, x321001 => if x3 < (x321000.length : Int) then (if 0 ≤ x3 then (if ((rd_L1 x321000 x3).length : Int) > 200 then (some 2) else (optimaref3_PuzzleValid.l1 k x3 (rd_L1 x321000 x3) 0 x321000 x321001)) else (none)) else (optimaref3_PuzzleValid.l2 k 0 x321000 x321001)
def optimaref3_PuzzleValid.l1 : Nat → Int → List Int → Int → List (List Int) → List (S44) → Option (Int)
 | 0, _, _, _, _, _ => none
 | k + 1, x3, x4, x5, x321000, x321001 => if x5 < (x4.length : Int) then (if 0 ≤ x5 then ((optimaref3_big.f (rd x4 x5)).bind fun t323 => (if t323 = true then (some 2) else (if x5 > 0 then (if 0 ≤ (wrap64 (x5 - 1)) then (if (wrap64 (x5 - 1)) < (x4.length : Int) then (if (rd x4 x5) ≤ (rd x4 (wrap64 (x5 - 1))) then (some 4) else (optimaref3_PuzzleValid.l1 k x3 x4 (wrap64 (x5 + 1)) x321000 x321001)) else (none)) else (none)) else (optimaref3_PuzzleValid.l1 k x3 x4 (wrap64 (x5 + 1)) x321000 x321001)))) else (none)) else (optimaref3_PuzzleValid.l0 k (wrap64 (x3 + 1)) x321000 x321001)
def optimaref3_PuzzleValid.l2 : Nat → Int → List (List Int) → List (S44) → Option (Int)
 | 0, _, _, _ => none
 | k + 1, x7, x321000, x321001 => if x7 < (x321001.length : Int) then (if 0 ≤ x7 then ((optimaref3_conValid.f k x321000 x321001 ((rd_T44 x321001 x7).f0) ((rd_T44 x321001 x7).f1) ((rd_T44 x321001 x7).f2) ((rd_T44 x321001 x7).f3) ((rd_T44 x321001 x7).f4) ((rd_T44 x321001 x7).f5)).bind fun t327 => (if t327 > 0 then (some t327) else (optimaref3_PuzzleValid.l2 k (wrap64 (x7 + 1)) x321000 x321001))) else (none)) else (some 0)
end
def optimaref3_PuzzleValid.f (k : Nat) (l0_0 : List (List Int)) (l0_1 : List (S44)) : Option (Int) := if (l0_0.length : Int) > 60 then (optimaref3_PuzzleValid.j0 k true l0_0 l0_1) else (optimaref3_PuzzleValid.j0 k (decide ((l0_1.length : Int) > 100)) l0_0 l0_1)
theorem optimaref3_PuzzleValid.mono_l : ∀ k, (∀ y0 y1 y2, LeO (optimaref3_PuzzleValid.j0 k y0 y1 y2) (optimaref3_PuzzleValid.j0 (k + 1) y0 y1 y2)) ∧ (∀ y0 y1 y2, LeO (optimaref3_PuzzleValid.l0 k y0 y1 y2) (optimaref3_PuzzleValid.l0 (k + 1) y0 y1 y2)) ∧ (∀ y0 y1 y2 y3 y4, LeO (optimaref3_PuzzleValid.l1 k y0 y1 y2 y3 y4) (optimaref3_PuzzleValid.l1 (k + 1) y0 y1 y2 y3 y4)) ∧ (∀ y0 y1 y2, LeO (optimaref3_PuzzleValid.l2 k y0 y1 y2) (optimaref3_PuzzleValid.l2 (k + 1) y0 y1 y2))
 | 0 => ⟨fun _ _ _ r h => by simp [optimaref3_PuzzleValid.j0] at h, fun _ _ _ r h => by simp [optimaref3_PuzzleValid.l0] at h, fun _ _ _ _ _ r h => by simp [optimaref3_PuzzleValid.l1] at h, fun _ _ _ r h => by simp [optimaref3_PuzzleValid.l2] at h⟩
 | k + 1 => by
  obtain ⟨ih0, ih1, ih2, ih3⟩ := optimaref3_PuzzleValid.mono_l k
  refine ⟨?_, ?_, ?_, ?_⟩
  ·intro y0 y1 y2
   unfold optimaref3_PuzzleValid.j0
   repeat' first | (with_reducible exact ih1 _ _ _) | (with_reducible exact LeO.refl _) | (with_reducible refine LeO.ite ?_ ?_)
  ·intro y0 y1 y2
   unfold optimaref3_PuzzleValid.l0
   repeat' first | (with_reducible exact ih2 _ _ _ _ _) | (with_reducible exact ih3 _ _ _) | (with_reducible exact LeO.refl _) | (with_reducible refine LeO.ite ?_ ?_)
  ·intro y0 y1 y2 y3 y4
   unfold optimaref3_PuzzleValid.l1
   repeat' first | (with_reducible exact ih1 _ _ _) | (with_reducible exact ih2 _ _ _ _ _) | (with_reducible exact LeO.refl _) | (with_reducible refine LeO.ite ?_ ?_) | (with_reducible refine LeO.bind ?_ (fun _ => ?_))
  intro y0 y1 y2
  unfold optimaref3_PuzzleValid.l2
  repeat' first | (with_reducible exact ih3 _ _ _) | (with_reducible exact optimaref3_conValid.mono _ _ _ _ _ _ _ _ _) | (with_reducible exact LeO.refl _) | (with_reducible refine LeO.ite ?_ ?_) | (with_reducible refine LeO.bind ?_ (fun _ => ?_))
theorem optimaref3_PuzzleValid.mono : ∀ a0 a1 k, LeO (optimaref3_PuzzleValid.f k a0 a1) (optimaref3_PuzzleValid.f (k + 1) a0 a1) := by
 intro a0 a1 k
 obtain ⟨ih0, ih1, ih2, ih3⟩ := optimaref3_PuzzleValid.mono_l k
 unfold optimaref3_PuzzleValid.f
 repeat' first | (with_reducible exact ih0 _ _ _) | (with_reducible refine LeO.ite ?_ ?_)
def optimaref3_PuzzleValid.T15 : Bool × List (List Nat × List Nat) := (true, [([], []), ([0], [0]), ([1], [1]), ([2], [2]), ([2], [2]), ([3, 4, 2], [2, 3, 4]), ([5, 2], [2, 5]), ([2], [2]), ([2], [2]), ([8, 2], [2, 8]), ([7, 9, 2], [2, 7, 9]), ([10, 2], [2, 10]), ([6, 11, 2], [2, 6, 11]), ([2, 12], [2, 12])])
def optimaref3_PuzzleValid.B15 : List Nat := [0, 1, 3, 7, 7, 31, 63, 7, 7, 263, 903, 1927, 4095, 8191]
theorem optimaref3_PuzzleValid.tab15 : rtab .any (opsOf Tryd.f8 15) = optimaref3_PuzzleValid.T15 := by kernel_rfl
theorem optimaref3_PuzzleValid.bits15 : waitsOk optimaref3_PuzzleValid.T15.2 optimaref3_PuzzleValid.B15 = true := by kernel_rfl
def optimaref3_PuzzleValid.T20 : Bool × List (List Nat × List Nat) := (true, [([], []), ([], []), ([1], [1]), ([], []), ([2, 3], [2, 3]), ([4], [4]), ([0, 5], [0, 5]), ([6, 6, 0, 1, 2, 3, 4, 5, 6], [6])])
def optimaref3_PuzzleValid.B20 : List Nat := [0, 0, 2, 0, 14, 30, 63, 127]
theorem optimaref3_PuzzleValid.tab20 : rtab .any (opsOf Tryd.f8 20) = optimaref3_PuzzleValid.T20 := by kernel_rfl
theorem optimaref3_PuzzleValid.bits20 : waitsOk optimaref3_PuzzleValid.T20.2 optimaref3_PuzzleValid.B20 = true := by kernel_rfl
set_option maxHeartbeats 8000000 in
set_option maxRecDepth 100000 in
theorem optimaref3_PuzzleValid.calls (k : Nat) (A0_0 : Option Addr) (c0_0 : Nat) (l0_0 : List (List Int)) (A0_1 : Option Addr) (c0_1 : Nat) (l0_1 : List (S44)) (r : Int) (w : World) (hr0_0 : Kd.C (Kd.slice 3 (Kd.int .i64)) w A0_0 l0_0.length l0_0) (hc0_0 : l0_0.length ≤ c0_0) (hr0_1 : Kd.C k44 w A0_1 l0_1.length l0_1) (hc0_1 : l0_1.length ≤ c0_1) (h : optimaref3_PuzzleValid.f k l0_0 l0_1 = some r) :
 Calls Tryd.prog 8 #[.agg #[.slice A0_0 l0_0.length c0_0, .slice A0_1 l0_1.length c0_1]] w fun e w' => e = .returned (.int .i64 r) ∧ Below w.heap.size w w' := by
 have hu25 := Tryd.underlying25
 have hu44 := Tryd.underlying44
 have HR0_0 := Aside0.mk hr0_0
 have HC0_0 := Aside0.mk hc0_0
 clear hr0_0 hc0_0
 have HR0_1 := Aside0.mk hr0_1
 have HC0_1 := Aside0.mk hc0_1
 clear hr0_1 hc0_1
 have HB := Aside0.mk (Below.refl w.heap.size w)
 have H : (if (l0_0.length : Int) > 60 then (optimaref3_PuzzleValid.j0 k true l0_0 l0_1) else (optimaref3_PuzzleValid.j0 k (decide ((l0_1.length : Int) > 100)) l0_0 l0_1)) = some r := h
 clear h
 have HC2 := Aside0.mk H
 clear H
 go_enter Tryd.func8, Tryd.ntmps8
 go_upto_region 1 with (((with_reducible refine gate_dst (N := 1) rfl ?_); (try (refine gate_guard (by rfl) ?_; dsimp only)); refine box_event ?hg (N := 1) ?hd (cs := #[.slice A0_0 l0_0.length c0_0, .slice A0_1 l0_1.length c0_1]) (t := 25) ?hr ?_; (case hd => rfl); (case hg => rfl); (case hr => (go_simp; done)); intro gb320 hg w3 hbox hb; have n0_ := Aside0.mk (below_step (by exact HB.out) hb); have n1_ := Aside0.mk (hbox); have n2_ := Aside0.mk ((by rw [hg]; exact (below_size (by exact HB.out)) : w.heap.size ≤ gb320)); have n3_ := Aside0.mk ((by rw [hg]; exact (below_size (by exact HB.out)) : w.heap.size ≤ gb320)); clear HB; have HB := n0_; have BK320 := n1_; have GW320 := n2_; have GE320 := n3_; clear n0_ n1_ n2_ n3_; clear hb hbox hg))
 (try simp only [Act.put, List.setIfInBounds_toArray, List.set_cons_zero, List.set_cons_succ])
 go_cut [18] (fun v18 wc => ∃ (kq : Nat) (x18_1 : Bool), v18 = .bool x18_1 ∧ Aside0 (optimaref3_PuzzleValid.j0 kq x18_1 l0_0 l0_1 = some r) ∧ Aside0 (kq ≤ k) ∧ Aside0 (wc.heap[gb320]? = some (.cells #[(.slice A0_0 l0_0.length c0_0), (.slice A0_1 l0_1.length c0_1)] 25 (0, 0))) ∧ Aside0 (Below w.heap.size w wc))
 case first =>
  have H := HC2.out
  clear HC2
  by_cases c4 : (l0_0.length : Int) > 60
  ·rw [if_pos c4] at H
   have c4b0 : decide (60 < (l0_0.length : Int)) = true := decide_eq_true c4
   have c4b1 : decide (60 < l0_0.length) = true := decide_eq_true (by omega)
   clear c4
   (skip)
   have H' := Aside0.mk H
   clear H
   have hcz5_0 : w3.cell? ⟨gb320, 0, none⟩ = some (.slice A0_0 l0_0.length c0_0) := (blk_cell BK320.out 0).trans rfl
   have hcz5_1 : w3.cell? ⟨gb320, 1, none⟩ = some (.slice A0_1 l0_1.length c0_1) := (blk_cell BK320.out 1).trans rfl
   have hfz5_0 := blk_frozen BK320.out 0
   have hfz5_1 := blk_frozen BK320.out 1
   go_wp2
   go_meet
   case rel => exact ⟨_, (true), (by rfl), H', ⟨by omega⟩, ⟨by exact BK320.out⟩, ⟨by exact HB.out⟩⟩
  rw [if_neg c4] at H
  have c4b0 : decide (60 < (l0_0.length : Int)) = false := decide_eq_false c4
  have c4b1 : decide (60 < l0_0.length) = false := decide_eq_false (by omega)
  clear c4
  (skip)
  have H' := Aside0.mk H
  clear H
  have hcz6_0 : w3.cell? ⟨gb320, 0, none⟩ = some (.slice A0_0 l0_0.length c0_0) := (blk_cell BK320.out 0).trans rfl
  have hcz6_1 : w3.cell? ⟨gb320, 1, none⟩ = some (.slice A0_1 l0_1.length c0_1) := (blk_cell BK320.out 1).trans rfl
  have hfz6_0 := blk_frozen BK320.out 0
  have hfz6_1 := blk_frozen BK320.out 1
  go_wp2
  go_meet
  case rel => exact ⟨_, (decide ((l0_1.length : Int) > 100)), (by rfl), H', ⟨by omega⟩, ⟨by exact BK320.out⟩, ⟨by exact HB.out⟩⟩
 clear HC2
 try clear p2
 try clear c4
 try clear c4b0
 try clear c4b1
 try clear hcz5_0
 try clear hcz5_1
 try clear hcz6_0
 try clear hcz6_1
 try clear hfz5_0
 try clear hfz5_1
 try clear hfz6_0
 try clear hfz6_1
 obtain ⟨kq, x18_1, rfl, HA, HJ1, BK320, HB⟩ := hcut
 rcases kq with _ | kj1
 ·exact absurd HA.out (by simp [optimaref3_PuzzleValid.j0])
 have H := HA.out
 clear HA
 simp only [optimaref3_PuzzleValid.j0] at H
 by_cases c7 : x18_1 = true
 ·subst c7
  have H1 : (some 2) = some r := by rw [if_pos rfl] at H; exact H
  clear H
  have H := H1
  clear H1
  obtain rfl := Option.some.inj H
  go_wp2
  go_ret
  exact ⟨by rfl, by exact HB.out⟩
 replace c7 := Bool.eq_false_iff.mpr c7
 subst c7
 have H1 : (optimaref3_PuzzleValid.l0 kj1 0 l0_0 l0_1) = some r := by rw [if_neg (show ¬ (false = true) by decide)] at H; exact H
 clear H
 have H := H1
 clear H1
 have H' := Aside0.mk H
 clear H
 go_wp2
 go_loopg [3] kj1 (fun kq v3 w' => ∃ (x3_2 : Int), v3 = .int .i64 x3_2 ∧ Aside0 (optimaref3_PuzzleValid.l0 kq x3_2 l0_0 l0_1 = some r) ∧ Aside0 (kq ≤ kj1) ∧ Aside0 (w'.heap[gb320]? = some (.cells #[(.slice A0_0 l0_0.length c0_0), (.slice A0_1 l0_1.length c0_1)] 25 (0, 0))) ∧ Aside0 (Below w.heap.size w w'))
 case atStart => exact ⟨(0), (by rfl), H', ⟨Nat.le_refl _⟩, ⟨by exact BK320.out⟩, ⟨by exact HB.out⟩⟩
 clear H'
 try clear p2
 try clear c4
 try clear c4b0
 try clear c4b1
 try clear c7
 try clear hcz5_0
 try clear hcz5_1
 try clear hcz6_0
 try clear hcz6_1
 try clear hfz5_0
 try clear hfz5_1
 try clear hfz6_0
 try clear hfz6_1
 try clear p2
 obtain ⟨x3_2, rfl, HA, HK2, BK320, HB⟩ := hrel
 rcases gk with _ | k2
 ·exact absurd HA.out (by simp [optimaref3_PuzzleValid.l0])
 have H := HA.out
 clear HA
 simp only [optimaref3_PuzzleValid.l0] at H
 by_cases c8 : x3_2 < (l0_0.length : Int)
 ·rw [if_pos c8] at H
  have c8b0 : decide (x3_2 < (l0_0.length : Int)) = true := decide_eq_true c8
  clear c8
  by_cases c9 : 0 ≤ x3_2
  ·rw [if_pos c9] at H
   have c9b0 : decide (0 ≤ x3_2) = true := decide_eq_true c9
   clear c9
   by_cases c10 : ((rd_L1 l0_0 x3_2).length : Int) > 200
   ·rw [if_pos c10] at H
    have c10b0 : decide (200 < ((rd_L1 l0_0 x3_2).length : Int)) = true := decide_eq_true c10
    have c10b1 : decide (200 < (rd_L1 l0_0 x3_2).length) = true := decide_eq_true (by omega)
    clear c10
    obtain rfl := Option.some.inj H
    have hcz11_0 : wr.cell? ⟨gb320, 0, none⟩ = some (.slice A0_0 l0_0.length c0_0) := (blk_cell BK320.out 0).trans rfl
    have hcz11_1 : wr.cell? ⟨gb320, 1, none⟩ = some (.slice A0_1 l0_1.length c0_1) := (blk_cell BK320.out 1).trans rfl
    have hfz11_0 := blk_frozen BK320.out 0
    have hfz11_1 := blk_frozen BK320.out 1
    have p321 : 0 ≤ (x3_2 : Int) := of_decide_eq_true (by (with_reducible assumption))
    have q321 : x3_2 < (l0_0.length : Int) := of_decide_eq_true (by (with_reducible assumption))
    obtain ⟨ad321, A321_0, c321_0, e321, hx321_0, hl321_0, hi321_0⟩ := at_L1 HR0_0.out x3_2 p321 q321
    cases e321
    replace hx321_0 := (HB.out.cell (World.block_lt_of_cell? w _ hx321_0)).trans hx321_0
    have HR321_0 := Aside0.mk hi321_0
    have HC321_0 := Aside0.mk hl321_0
    clear hi321_0 hl321_0
    replace p321 := eq_true p321
    replace q321 := eq_true q321
    go_wp2
    go_ret
    exact ⟨by rfl, by exact HB.out⟩
   rw [if_neg c10] at H
   have c10b0 : decide (200 < ((rd_L1 l0_0 x3_2).length : Int)) = false := decide_eq_false c10
   have c10b1 : decide (200 < (rd_L1 l0_0 x3_2).length) = false := decide_eq_false (by omega)
   clear c10
   have H' := Aside0.mk H
   clear H
   have hcz12_0 : wr.cell? ⟨gb320, 0, none⟩ = some (.slice A0_0 l0_0.length c0_0) := (blk_cell BK320.out 0).trans rfl
   have hcz12_1 : wr.cell? ⟨gb320, 1, none⟩ = some (.slice A0_1 l0_1.length c0_1) := (blk_cell BK320.out 1).trans rfl
   have hfz12_0 := blk_frozen BK320.out 0
   have hfz12_1 := blk_frozen BK320.out 1
   have p321 : 0 ≤ (x3_2 : Int) := of_decide_eq_true (by (with_reducible assumption))
   have q321 : x3_2 < (l0_0.length : Int) := of_decide_eq_true (by (with_reducible assumption))
   obtain ⟨ad321, A321_0, c321_0, e321, hx321_0, hl321_0, hi321_0⟩ := at_L1 HR0_0.out x3_2 p321 q321
   cases e321
   replace hx321_0 := (HB.out.cell (World.block_lt_of_cell? w _ hx321_0)).trans hx321_0
   have HR321_0 := Aside0.mk hi321_0
   have HC321_0 := Aside0.mk hl321_0
   clear hi321_0 hl321_0
   replace p321 := eq_true p321
   replace q321 := eq_true q321
   go_wp2
   go_loopg [5] k2 (fun kq v5 w' => ∃ (x5_3 : Int), v5 = .int .i64 x5_3 ∧ Aside0 (optimaref3_PuzzleValid.l1 kq x3_2 (rd_L1 l0_0 x3_2) x5_3 l0_0 l0_1 = some r) ∧ Aside0 (kq ≤ k2) ∧ Aside0 (w'.heap[gb320]? = some (.cells #[(.slice (some ad321) l0_0.length c0_0), (.slice A0_1 l0_1.length c0_1)] 25 (0, 0))) ∧ Aside0 (Below w.heap.size w w'))
   case atStart => exact ⟨(0), (by rfl), H', ⟨Nat.le_refl _⟩, ⟨by exact BK320.out⟩, ⟨by exact HB.out⟩⟩
   clear H'
   try clear c1
   try clear p2
   try clear c3
   try clear p3
   try clear q3
   try clear hx3
   try clear c4
   try clear c4b0
   try clear c4b1
   try clear c7
   try clear c8
   try clear c8b0
   try clear c9
   try clear c9b0
   try clear c10
   try clear c10b0
   try clear c10b1
   try clear hcz11_0
   try clear hcz11_1
   try clear hcz12_0
   try clear hcz12_1
   try clear hcz5_0
   try clear hcz5_1
   try clear hcz6_0
   try clear hcz6_1
   try clear hfz11_0
   try clear hfz11_1
   try clear hfz12_0
   try clear hfz12_1
   try clear hfz5_0
   try clear hfz5_1
   try clear hfz6_0
   try clear hfz6_1
   try clear hx321_0
   try clear p2
   try clear p321
   try clear q321
   obtain ⟨x5_3, rfl, HA, HK3, BK320, HB⟩ := hrel
   rcases gk with _ | k3
   ·exact absurd HA.out (by simp [optimaref3_PuzzleValid.l1])
   have H := HA.out
   clear HA
   simp only [optimaref3_PuzzleValid.l1] at H
   by_cases c13 : x5_3 < ((rd_L1 l0_0 x3_2).length : Int)
   ·rw [if_pos c13] at H
    have c13b0 : decide (x5_3 < ((rd_L1 l0_0 x3_2).length : Int)) = true := decide_eq_true c13
    clear c13
    by_cases c14 : 0 ≤ x5_3
    ·rw [if_pos c14] at H
     have c14b0 : decide (0 ≤ x5_3) = true := decide_eq_true c14
     clear c14
     replace H := Option.bind_eq_some_iff.mp H
     obtain ⟨t323, A150, H⟩ := H
     replace H : (if t323 = true then (some 2) else (if x5_3 > 0 then (if 0 ≤ (wrap64 (x5_3 - 1)) then (if (wrap64 (x5_3 - 1)) < ((rd_L1 l0_0 x3_2).length : Int) then (if (rd (rd_L1 l0_0 x3_2) x5_3) ≤ (rd (rd_L1 l0_0 x3_2) (wrap64 (x5_3 - 1))) then (some 4) else (optimaref3_PuzzleValid.l1 k3 x3_2 (rd_L1 l0_0 x3_2) (wrap64 (x5_3 + 1)) l0_0 l0_1)) else (none)) else (none)) else (optimaref3_PuzzleValid.l1 k3 x3_2 (rd_L1 l0_0 x3_2) (wrap64 (x5_3 + 1)) l0_0 l0_1))) = some r := H
     have A15 := Aside0.mk A150
     clear A150
     by_cases c16 : t323 = true
     ·subst c16
      have H1 : (some 2) = some r := by rw [if_pos rfl] at H; exact H
      clear H
      have H := H1
      clear H1
      obtain rfl := Option.some.inj H
      have p322 : 0 ≤ (x5_3 : Int) := of_decide_eq_true (by (with_reducible assumption))
      have q322 : x5_3 < ((rd_L1 l0_0 x3_2).length : Int) := of_decide_eq_true (by (with_reducible assumption))
      obtain ⟨ad322, e322, hx322_0⟩ := Kd.at_int HR321_0.out x5_3 p322 q322
      cases e322
      replace hx322_0 := (HB.out.cell (World.block_lt_of_cell? w _ hx322_0)).trans hx322_0
      replace p322 := eq_true p322
      replace q322 := eq_true q322
      go_wp2_with (((with_reducible refine gate_callee (f := 17) rfl ?_); refine goesL_ (some 44) rfl rfl Tryd.func17 (by kernel_rfl) rfl #[.int .i64 (rd (rd_L1 l0_0 x3_2) x5_3)] rfl (by (try simp only [List.map_toArray, List.map_cons, List.map_nil]); rfl) ?_; (with_reducible refine (optimaref3_big.calls (rd (rd_L1 l0_0 x3_2) x5_3) true _ A15.out).mono ?_); rintro e w' ⟨rfl, ⟨nd, rfl⟩⟩; refine ⟨_, rfl, ?_⟩))
      go_ret
      exact ⟨by rfl, by repeat ((with_reducible first | exact HB.out | apply pw_below_drewN))⟩
     replace c16 := Bool.eq_false_iff.mpr c16
     subst c16
     have H1 : (if x5_3 > 0 then (if 0 ≤ (wrap64 (x5_3 - 1)) then (if (wrap64 (x5_3 - 1)) < ((rd_L1 l0_0 x3_2).length : Int) then (if (rd (rd_L1 l0_0 x3_2) x5_3) ≤ (rd (rd_L1 l0_0 x3_2) (wrap64 (x5_3 - 1))) then (some 4) else (optimaref3_PuzzleValid.l1 k3 x3_2 (rd_L1 l0_0 x3_2) (wrap64 (x5_3 + 1)) l0_0 l0_1)) else (none)) else (none)) else (optimaref3_PuzzleValid.l1 k3 x3_2 (rd_L1 l0_0 x3_2) (wrap64 (x5_3 + 1)) l0_0 l0_1)) = some r := by rw [if_neg (show ¬ (false = true) by decide)] at H; exact H
     clear H
     have H := H1
     clear H1
     by_cases c17 : x5_3 > 0
     ·rw [if_pos c17] at H
      have c17b0 : decide (0 < x5_3) = true := decide_eq_true c17
      clear c17
      obtain ⟨ji18, hji18⟩ : ∃ j_ : Int, (wrap64 (x5_3 - 1)) = j_ := ⟨_, rfl⟩
      replace H : (if 0 ≤ (ji18) then (if (ji18) < ((rd_L1 l0_0 x3_2).length : Int) then (if (rd (rd_L1 l0_0 x3_2) x5_3) ≤ (rd (rd_L1 l0_0 x3_2) (ji18)) then (some 4) else (optimaref3_PuzzleValid.l1 k3 x3_2 (rd_L1 l0_0 x3_2) (wrap64 (x5_3 + 1)) l0_0 l0_1)) else (none)) else (none)) = some r := by (rw [hji18] at H; exact H)
      (try rw [hji18] at A15)
      have hji18w : (IntKind.i64.wrap (x5_3 - 1)) = ji18 := (i64_w _).trans hji18
      by_cases c19 : 0 ≤ (ji18)
      ·rw [if_pos c19] at H
       have c19b0 : decide (0 ≤ (ji18)) = true := decide_eq_true c19
       clear c19
       by_cases c20 : (ji18) < ((rd_L1 l0_0 x3_2).length : Int)
       ·rw [if_pos c20] at H
        have c20b0 : decide ((ji18) < ((rd_L1 l0_0 x3_2).length : Int)) = true := decide_eq_true c20
        clear c20
        by_cases c21 : (rd (rd_L1 l0_0 x3_2) x5_3) ≤ (rd (rd_L1 l0_0 x3_2) (ji18))
        ·rw [if_pos c21] at H
         have c21b0 : decide ((rd (rd_L1 l0_0 x3_2) x5_3) ≤ (rd (rd_L1 l0_0 x3_2) (ji18))) = true := decide_eq_true c21
         clear c21
         obtain rfl := Option.some.inj H
         have p322 : 0 ≤ (x5_3 : Int) := of_decide_eq_true (by (with_reducible assumption))
         have q322 : x5_3 < ((rd_L1 l0_0 x3_2).length : Int) := of_decide_eq_true (by (with_reducible assumption))
         obtain ⟨ad322, e322, hx322_0⟩ := Kd.at_int HR321_0.out x5_3 p322 q322
         cases e322
         replace hx322_0 := (HB.out.cell (World.block_lt_of_cell? w _ hx322_0)).trans hx322_0
         replace p322 := eq_true p322
         replace q322 := eq_true q322
         try go_wp2_with (((with_reducible refine gate_callee (f := 17) rfl ?_); refine goesL_ (some 44) rfl rfl Tryd.func17 (by kernel_rfl) rfl #[.int .i64 (rd (rd_L1 l0_0 x3_2) x5_3)] rfl (by (try simp only [List.map_toArray, List.map_cons, List.map_nil]); rfl) ?_; (with_reducible refine (optimaref3_big.calls (rd (rd_L1 l0_0 x3_2) x5_3) false _ A15.out).mono ?_); rintro e w' ⟨rfl, ⟨nd, rfl⟩⟩; refine ⟨_, rfl, ?_⟩))
         (try (rw [drewN_self wr]; generalize hq_ : World.drewN wr _ = wr; have n0_ : Aside0 (wr.heap[gb320]? = some (.cells #[.slice (some ad321) l0_0.length c0_0, .slice A0_1 l0_1.length c0_1] 25 (0, 0))) := ⟨by rw [← hq_]; exact (by (with_reducible repeat (refine blk_drewN ?_ _)); exact BK320.out)⟩; have n1_ : Aside0 (Below w.heap.size w wr) := ⟨by rw [← hq_]; exact (by repeat ((with_reducible first | exact HB.out | apply pw_below_drewN)))⟩; clear BK320 HB hq_; have BK320 := n0_; have HB := n1_; clear n0_ n1_))
         have n0_ := Aside0.mk (blk_drew BK320.out)
         have n1_ := Aside0.mk (below_drew1 HB.out)
         clear BK320
         clear HB
         have BK320 := n0_
         have HB := n1_
         clear n0_ n1_
         have p324 : 0 ≤ (x5_3 : Int) := of_decide_eq_true (by (with_reducible assumption))
         have q324 : x5_3 < ((rd_L1 l0_0 x3_2).length : Int) := of_decide_eq_true (by (with_reducible assumption))
         obtain ⟨ad324, e324, hx324_0⟩ := Kd.at_int HR321_0.out x5_3 p324 q324
         have hw324_0 := hx324_0
         obtain rfl : ad322 = ad324 := (by injection e324)
         replace hx324_0 := (HB.out.cell (World.block_lt_of_cell? w _ hx324_0)).trans hx324_0
         replace p324 := eq_true p324
         replace q324 := eq_true q324
         have p325 : 0 ≤ ((ji18) : Int) := of_decide_eq_true (by (with_reducible assumption))
         have q325 : (ji18) < ((rd_L1 l0_0 x3_2).length : Int) := of_decide_eq_true (by (with_reducible assumption))
         obtain ⟨ad325, e325, hx325_0⟩ := Kd.at_int HR321_0.out (ji18) p325 q325
         have hw325_0 := hx325_0
         obtain rfl : ad322 = ad325 := (by injection e325)
         replace hx325_0 := (HB.out.cell (World.block_lt_of_cell? w _ hx325_0)).trans hx325_0
         replace p325 := eq_true p325
         replace q325 := eq_true q325
         refine start_ (n := 14) (S := fun w' => w'.cell? (ad322.add (x5_3).toNat) = some (.int .i64 (rd (rd_L1 l0_0 x3_2) x5_3)) ∧ w'.cell? (ad322.add ((ji18)).toNat) = some (.int .i64 (rd (rd_L1 l0_0 x3_2) (ji18)))) (ds := []) #[false, false, false, false, false, false, false, false, false, false, false, false, false, false] (by kernel_rfl) rfl rfl ⟨((HB.out.cell (World.block_lt_of_cell? w _ hw324_0)).trans hw324_0), ((HB.out.cell (World.block_lt_of_cell? w _ hw325_0)).trans hw325_0)⟩ (fun hHeld => ?_); refine with_tabW optimaref3_PuzzleValid.tab15 optimaref3_PuzzleValid.bits15 (fun HT_ HW_ => ?_)
         generalize wr.drew = w22 at BK320 HB hx324_0 hx325_0 hHeld ⊢
         refine pure_ (i := 0) (N := some 46) (v := ?_) (a' := ?_) #[true, false, false, false, false, false, false, false, false, false, false, false, false, false] rfl rfl (any_of HT_.out (by kernel_rfl)) (fun _ _ _ h => h) (Or.inl ⟨by rfl, ?_⟩) ?_ ?_
         rotate_left
         ·intro w'
          go_simp
          with_reducible rfl
         rotate_left
         ·simp only [Act.put, List.setIfInBounds_toArray, List.set_cons_zero, List.set_cons_succ, i64_w, i32_w]
          rfl
         refine pure_ (i := 1) (N := some 47) (v := ?_) (a' := ?_) #[true, true, false, false, false, false, false, false, false, false, false, false, false, false] rfl rfl (any_of HT_.out (by kernel_rfl)) (fun _ _ _ h => h) (Or.inl ⟨by rfl, ?_⟩) ?_ ?_
         rotate_left
         ·intro w'
          go_simp
          with_reducible rfl
         rotate_left
         ·simp only [Act.put, List.setIfInBounds_toArray, List.set_cons_zero, List.set_cons_succ, i64_w, i32_w]
          rfl
         refine pure_ (i := 2) (N := some 48) (v := ?_) (a' := ?_) #[true, true, true, false, false, false, false, false, false, false, false, false, false, false] rfl rfl (any_of HT_.out (by kernel_rfl)) (fun _ _ _ h => h) (Or.inl ⟨by rfl, ?_⟩) ?_ ?_
         rotate_left
         ·intro w'
          go_simp
          with_reducible rfl
         rotate_left
         ·simp only [Act.put, List.setIfInBounds_toArray, List.set_cons_zero, List.set_cons_succ, i64_w, i32_w]
          rfl
         refine pure_ (i := 3) (N := some 49) (v := ?_) (a' := ?_) #[true, true, true, true, false, false, false, false, false, false, false, false, false, false] rfl rfl (any_of HT_.out (by kernel_rfl)) (fun _ _ _ h => h) (Or.inl ⟨by rfl, ?_⟩) ?_ ?_
         rotate_left
         ·intro w'
          go_simp
          with_reducible rfl
         rotate_left
         ·simp only [Act.put, List.setIfInBounds_toArray, List.set_cons_zero, List.set_cons_succ, i64_w, i32_w]
          rfl
         refine pure_ (i := 4) (N := some 50) (v := ?_) (a' := ?_) #[true, true, true, true, true, false, false, false, false, false, false, false, false, false] rfl rfl (any_of HT_.out (by kernel_rfl)) (fun _ _ _ h => h) (Or.inl ⟨by rfl, ?_⟩) ?_ ?_
         rotate_left
         ·intro w'
          go_simp
          with_reducible rfl
         rotate_left
         ·simp only [Act.put, List.setIfInBounds_toArray, List.set_cons_zero, List.set_cons_succ, i64_w, i32_w]
          rfl
         refine pure_ (i := 5) (N := some 51) (v := ?_) (a' := ?_) #[true, true, true, true, true, true, false, false, false, false, false, false, false, false] rfl rfl (any_of HT_.out (by kernel_rfl)) (fun _ _ _ h => h) (Or.inl ⟨by rfl, ?_⟩) ?_ ?_
         rotate_left
         ·intro w'
          go_simp
          with_reducible rfl
         rotate_left
         ·simp only [Act.put, List.setIfInBounds_toArray, List.set_cons_zero, List.set_cons_succ, i64_w, i32_w]
          rfl
         refine pure_ (i := 7) (N := some 53) (v := ?_) (a' := ?_) #[true, true, true, true, true, true, false, true, false, false, false, false, false, false] rfl rfl (any_of HT_.out (by kernel_rfl)) (fun _ _ _ h => h) (Or.inl ⟨by rfl, ?_⟩) ?_ ?_
         rotate_left
         ·intro w'
          go_simp
          with_reducible rfl
         rotate_left
         ·simp only [Act.put, List.setIfInBounds_toArray, List.set_cons_zero, List.set_cons_succ, i64_w, i32_w]
          rfl
         refine pure_ (i := 8) (N := some 54) (v := ?_) (a' := ?_) #[true, true, true, true, true, true, false, true, true, false, false, false, false, false] rfl rfl (any_of HT_.out (by kernel_rfl)) (fun _ _ _ h => h) (Or.inl ⟨by rfl, ?_⟩) ?_ ?_
         rotate_left
         ·intro w'
          go_simp
          with_reducible rfl
         rotate_left
         ·simp only [Act.put, List.setIfInBounds_toArray, List.set_cons_zero, List.set_cons_succ, i64_w, i32_w]
          rfl
         refine pure_ (i := 9) (N := some 55) (v := ?_) (a' := ?_) #[true, true, true, true, true, true, false, true, true, true, false, false, false, false] rfl rfl (any_of HT_.out (by kernel_rfl)) (fun _ _ _ h => h) (Or.inl ⟨by rfl, ?_⟩) ?_ ?_
         rotate_left
         ·intro w'
          go_simp
          with_reducible rfl
         rotate_left
         ·simp only [Act.put, List.setIfInBounds_toArray, List.set_cons_zero, List.set_cons_succ, i64_w, i32_w]
          rfl
         refine pure_ (i := 10) (N := some 56) (v := ?_) (a' := ?_) #[true, true, true, true, true, true, false, true, true, true, true, false, false, false] rfl rfl (any_of HT_.out (by kernel_rfl)) (fun _ _ _ h => h) (Or.inl ⟨by rfl, ?_⟩) ?_ ?_
         rotate_left
         ·intro w'
          go_simp
          with_reducible rfl
         rotate_left
         ·simp only [Act.put, List.setIfInBounds_toArray, List.set_cons_zero, List.set_cons_succ, i64_w, i32_w]
          rfl
         refine take_ (i := 6) (N := some 52) (v := ?_) (a' := ?_) #[true, true, true, true, true, true, true, true, true, true, true, false, false, false] rfl rfl (take_ofW HT_.out HW_.out (by kernel_rfl)) (fun _ _ _ h => h) (Or.inl ⟨by rfl, ?_⟩) hHeld ?_ ?_
         rotate_left
         ·rintro w' ⟨s0, s1⟩
          go_simp
          with_reducible rfl
         rotate_left
         ·simp only [Act.put, List.setIfInBounds_toArray, List.set_cons_zero, List.set_cons_succ, i64_w, i32_w]
          rfl
         refine take_ (i := 11) (N := some 57) (v := ?_) (a' := ?_) #[true, true, true, true, true, true, true, true, true, true, true, true, false, false] rfl rfl (take_ofW HT_.out HW_.out (by kernel_rfl)) (fun _ _ _ h => h) (Or.inl ⟨by rfl, ?_⟩) hHeld ?_ ?_
         rotate_left
         ·rintro w' ⟨s0, s1⟩
          go_simp
          with_reducible rfl
         rotate_left
         ·simp only [Act.put, List.setIfInBounds_toArray, List.set_cons_zero, List.set_cons_succ, i64_w, i32_w]
          rfl
         refine pure_ (i := 12) (N := some 58) (v := ?_) (a' := ?_) #[true, true, true, true, true, true, true, true, true, true, true, true, true, false] rfl rfl (any_of HT_.out (by kernel_rfl)) (fun _ _ _ h => h) (Or.inl ⟨by rfl, ?_⟩) ?_ ?_
         rotate_left
         ·intro w'
          go_simp
          with_reducible rfl
         rotate_left
         ·simp only [Act.put, List.setIfInBounds_toArray, List.set_cons_zero, List.set_cons_succ, i64_w, i32_w]
          rfl
         refine pure_ (i := 13) (N := some 59) (v := ?_) (a' := ?_) #[true, true, true, true, true, true, true, true, true, true, true, true, true, true] rfl rfl (any_of HT_.out (by kernel_rfl)) (fun _ _ _ h => h) (Or.inl ⟨by rfl, ?_⟩) ?_ ?_
         rotate_left
         ·intro w'
          go_simp
          with_reducible rfl
         rotate_left
         ·simp only [Act.put, List.setIfInBounds_toArray, List.set_cons_zero, List.set_cons_succ, i64_w, i32_w]
          rfl
         refine done_ (done_of HT_.out (by kernel_rfl)) ?_
         try go_wp2
         go_ret
         exact ⟨by rfl, by exact HB.out⟩
        rw [if_neg c21] at H
        have c21b0 : decide ((rd (rd_L1 l0_0 x3_2) x5_3) ≤ (rd (rd_L1 l0_0 x3_2) (ji18))) = false := decide_eq_false c21
        clear c21
        have H' := Aside0.mk H
        clear H
        have p322 : 0 ≤ (x5_3 : Int) := of_decide_eq_true (by (with_reducible assumption))
        have q322 : x5_3 < ((rd_L1 l0_0 x3_2).length : Int) := of_decide_eq_true (by (with_reducible assumption))
        obtain ⟨ad322, e322, hx322_0⟩ := Kd.at_int HR321_0.out x5_3 p322 q322
        cases e322
        replace hx322_0 := (HB.out.cell (World.block_lt_of_cell? w _ hx322_0)).trans hx322_0
        replace p322 := eq_true p322
        replace q322 := eq_true q322
        try go_wp2_with (((with_reducible refine gate_callee (f := 17) rfl ?_); refine goesL_ (some 44) rfl rfl Tryd.func17 (by kernel_rfl) rfl #[.int .i64 (rd (rd_L1 l0_0 x3_2) x5_3)] rfl (by (try simp only [List.map_toArray, List.map_cons, List.map_nil]); rfl) ?_; (with_reducible refine (optimaref3_big.calls (rd (rd_L1 l0_0 x3_2) x5_3) false _ A15.out).mono ?_); rintro e w' ⟨rfl, ⟨nd, rfl⟩⟩; refine ⟨_, rfl, ?_⟩))
        (try (rw [drewN_self wr]; generalize hq_ : World.drewN wr _ = wr; have n0_ : Aside0 (wr.heap[gb320]? = some (.cells #[.slice (some ad321) l0_0.length c0_0, .slice A0_1 l0_1.length c0_1] 25 (0, 0))) := ⟨by rw [← hq_]; exact (by (with_reducible repeat (refine blk_drewN ?_ _)); exact BK320.out)⟩; have n1_ : Aside0 (Below w.heap.size w wr) := ⟨by rw [← hq_]; exact (by repeat ((with_reducible first | exact HB.out | apply pw_below_drewN)))⟩; clear BK320 HB hq_; have BK320 := n0_; have HB := n1_; clear n0_ n1_))
        have n0_ := Aside0.mk (blk_drew BK320.out)
        have n1_ := Aside0.mk (below_drew1 HB.out)
        clear BK320
        clear HB
        have BK320 := n0_
        have HB := n1_
        clear n0_ n1_
        have p324 : 0 ≤ (x5_3 : Int) := of_decide_eq_true (by (with_reducible assumption))
        have q324 : x5_3 < ((rd_L1 l0_0 x3_2).length : Int) := of_decide_eq_true (by (with_reducible assumption))
        obtain ⟨ad324, e324, hx324_0⟩ := Kd.at_int HR321_0.out x5_3 p324 q324
        have hw324_0 := hx324_0
        obtain rfl : ad322 = ad324 := (by injection e324)
        replace hx324_0 := (HB.out.cell (World.block_lt_of_cell? w _ hx324_0)).trans hx324_0
        replace p324 := eq_true p324
        replace q324 := eq_true q324
        have p325 : 0 ≤ ((ji18) : Int) := of_decide_eq_true (by (with_reducible assumption))
        have q325 : (ji18) < ((rd_L1 l0_0 x3_2).length : Int) := of_decide_eq_true (by (with_reducible assumption))
        obtain ⟨ad325, e325, hx325_0⟩ := Kd.at_int HR321_0.out (ji18) p325 q325
        have hw325_0 := hx325_0
        obtain rfl : ad322 = ad325 := (by injection e325)
        replace hx325_0 := (HB.out.cell (World.block_lt_of_cell? w _ hx325_0)).trans hx325_0
        replace p325 := eq_true p325
        replace q325 := eq_true q325
        refine start_ (n := 14) (S := fun w' => w'.cell? (ad322.add (x5_3).toNat) = some (.int .i64 (rd (rd_L1 l0_0 x3_2) x5_3)) ∧ w'.cell? (ad322.add ((ji18)).toNat) = some (.int .i64 (rd (rd_L1 l0_0 x3_2) (ji18)))) (ds := []) #[false, false, false, false, false, false, false, false, false, false, false, false, false, false] (by kernel_rfl) rfl rfl ⟨((HB.out.cell (World.block_lt_of_cell? w _ hw324_0)).trans hw324_0), ((HB.out.cell (World.block_lt_of_cell? w _ hw325_0)).trans hw325_0)⟩ (fun hHeld => ?_); refine with_tabW optimaref3_PuzzleValid.tab15 optimaref3_PuzzleValid.bits15 (fun HT_ HW_ => ?_)
        generalize wr.drew = w23 at BK320 HB hx324_0 hx325_0 hHeld ⊢
        refine pure_ (i := 0) (N := some 46) (v := ?_) (a' := ?_) #[true, false, false, false, false, false, false, false, false, false, false, false, false, false] rfl rfl (any_of HT_.out (by kernel_rfl)) (fun _ _ _ h => h) (Or.inl ⟨by rfl, ?_⟩) ?_ ?_
        rotate_left
        ·intro w'
         go_simp
         with_reducible rfl
        rotate_left
        ·simp only [Act.put, List.setIfInBounds_toArray, List.set_cons_zero, List.set_cons_succ, i64_w, i32_w]
         rfl
        refine pure_ (i := 1) (N := some 47) (v := ?_) (a' := ?_) #[true, true, false, false, false, false, false, false, false, false, false, false, false, false] rfl rfl (any_of HT_.out (by kernel_rfl)) (fun _ _ _ h => h) (Or.inl ⟨by rfl, ?_⟩) ?_ ?_
        rotate_left
        ·intro w'
         go_simp
         with_reducible rfl
        rotate_left
        ·simp only [Act.put, List.setIfInBounds_toArray, List.set_cons_zero, List.set_cons_succ, i64_w, i32_w]
         rfl
        refine pure_ (i := 2) (N := some 48) (v := ?_) (a' := ?_) #[true, true, true, false, false, false, false, false, false, false, false, false, false, false] rfl rfl (any_of HT_.out (by kernel_rfl)) (fun _ _ _ h => h) (Or.inl ⟨by rfl, ?_⟩) ?_ ?_
        rotate_left
        ·intro w'
         go_simp
         with_reducible rfl
        rotate_left
        ·simp only [Act.put, List.setIfInBounds_toArray, List.set_cons_zero, List.set_cons_succ, i64_w, i32_w]
         rfl
        refine pure_ (i := 3) (N := some 49) (v := ?_) (a' := ?_) #[true, true, true, true, false, false, false, false, false, false, false, false, false, false] rfl rfl (any_of HT_.out (by kernel_rfl)) (fun _ _ _ h => h) (Or.inl ⟨by rfl, ?_⟩) ?_ ?_
        rotate_left
        ·intro w'
         go_simp
         with_reducible rfl
        rotate_left
        ·simp only [Act.put, List.setIfInBounds_toArray, List.set_cons_zero, List.set_cons_succ, i64_w, i32_w]
         rfl
        refine pure_ (i := 4) (N := some 50) (v := ?_) (a' := ?_) #[true, true, true, true, true, false, false, false, false, false, false, false, false, false] rfl rfl (any_of HT_.out (by kernel_rfl)) (fun _ _ _ h => h) (Or.inl ⟨by rfl, ?_⟩) ?_ ?_
        rotate_left
        ·intro w'
         go_simp
         with_reducible rfl
        rotate_left
        ·simp only [Act.put, List.setIfInBounds_toArray, List.set_cons_zero, List.set_cons_succ, i64_w, i32_w]
         rfl
        refine pure_ (i := 5) (N := some 51) (v := ?_) (a' := ?_) #[true, true, true, true, true, true, false, false, false, false, false, false, false, false] rfl rfl (any_of HT_.out (by kernel_rfl)) (fun _ _ _ h => h) (Or.inl ⟨by rfl, ?_⟩) ?_ ?_
        rotate_left
        ·intro w'
         go_simp
         with_reducible rfl
        rotate_left
        ·simp only [Act.put, List.setIfInBounds_toArray, List.set_cons_zero, List.set_cons_succ, i64_w, i32_w]
         rfl
        refine pure_ (i := 7) (N := some 53) (v := ?_) (a' := ?_) #[true, true, true, true, true, true, false, true, false, false, false, false, false, false] rfl rfl (any_of HT_.out (by kernel_rfl)) (fun _ _ _ h => h) (Or.inl ⟨by rfl, ?_⟩) ?_ ?_
        rotate_left
        ·intro w'
         go_simp
         with_reducible rfl
        rotate_left
        ·simp only [Act.put, List.setIfInBounds_toArray, List.set_cons_zero, List.set_cons_succ, i64_w, i32_w]
         rfl
        refine pure_ (i := 8) (N := some 54) (v := ?_) (a' := ?_) #[true, true, true, true, true, true, false, true, true, false, false, false, false, false] rfl rfl (any_of HT_.out (by kernel_rfl)) (fun _ _ _ h => h) (Or.inl ⟨by rfl, ?_⟩) ?_ ?_
        rotate_left
        ·intro w'
         go_simp
         with_reducible rfl
        rotate_left
        ·simp only [Act.put, List.setIfInBounds_toArray, List.set_cons_zero, List.set_cons_succ, i64_w, i32_w]
         rfl
        refine pure_ (i := 9) (N := some 55) (v := ?_) (a' := ?_) #[true, true, true, true, true, true, false, true, true, true, false, false, false, false] rfl rfl (any_of HT_.out (by kernel_rfl)) (fun _ _ _ h => h) (Or.inl ⟨by rfl, ?_⟩) ?_ ?_
        rotate_left
        ·intro w'
         go_simp
         with_reducible rfl
        rotate_left
        ·simp only [Act.put, List.setIfInBounds_toArray, List.set_cons_zero, List.set_cons_succ, i64_w, i32_w]
         rfl
        refine pure_ (i := 10) (N := some 56) (v := ?_) (a' := ?_) #[true, true, true, true, true, true, false, true, true, true, true, false, false, false] rfl rfl (any_of HT_.out (by kernel_rfl)) (fun _ _ _ h => h) (Or.inl ⟨by rfl, ?_⟩) ?_ ?_
        rotate_left
        ·intro w'
         go_simp
         with_reducible rfl
        rotate_left
        ·simp only [Act.put, List.setIfInBounds_toArray, List.set_cons_zero, List.set_cons_succ, i64_w, i32_w]
         rfl
        refine take_ (i := 6) (N := some 52) (v := ?_) (a' := ?_) #[true, true, true, true, true, true, true, true, true, true, true, false, false, false] rfl rfl (take_ofW HT_.out HW_.out (by kernel_rfl)) (fun _ _ _ h => h) (Or.inl ⟨by rfl, ?_⟩) hHeld ?_ ?_
        rotate_left
        ·rintro w' ⟨s0, s1⟩
         go_simp
         with_reducible rfl
        rotate_left
        ·simp only [Act.put, List.setIfInBounds_toArray, List.set_cons_zero, List.set_cons_succ, i64_w, i32_w]
         rfl
        refine take_ (i := 11) (N := some 57) (v := ?_) (a' := ?_) #[true, true, true, true, true, true, true, true, true, true, true, true, false, false] rfl rfl (take_ofW HT_.out HW_.out (by kernel_rfl)) (fun _ _ _ h => h) (Or.inl ⟨by rfl, ?_⟩) hHeld ?_ ?_
        rotate_left
        ·rintro w' ⟨s0, s1⟩
         go_simp
         with_reducible rfl
        rotate_left
        ·simp only [Act.put, List.setIfInBounds_toArray, List.set_cons_zero, List.set_cons_succ, i64_w, i32_w]
         rfl
        refine pure_ (i := 12) (N := some 58) (v := ?_) (a' := ?_) #[true, true, true, true, true, true, true, true, true, true, true, true, true, false] rfl rfl (any_of HT_.out (by kernel_rfl)) (fun _ _ _ h => h) (Or.inl ⟨by rfl, ?_⟩) ?_ ?_
        rotate_left
        ·intro w'
         go_simp
         with_reducible rfl
        rotate_left
        ·simp only [Act.put, List.setIfInBounds_toArray, List.set_cons_zero, List.set_cons_succ, i64_w, i32_w]
         rfl
        refine pure_ (i := 13) (N := some 59) (v := ?_) (a' := ?_) #[true, true, true, true, true, true, true, true, true, true, true, true, true, true] rfl rfl (any_of HT_.out (by kernel_rfl)) (fun _ _ _ h => h) (Or.inl ⟨by rfl, ?_⟩) ?_ ?_
        rotate_left
        ·intro w'
         go_simp
         with_reducible rfl
        rotate_left
        ·simp only [Act.put, List.setIfInBounds_toArray, List.set_cons_zero, List.set_cons_succ, i64_w, i32_w]
         rfl
        refine done_ (done_of HT_.out (by kernel_rfl)) ?_
        try go_wp2
        go_roundg k3
        case measure => have := HJ1.out; have := HK2.out; have := HK3.out; omega
        case rel => exact ⟨(wrap64 (x5_3 + 1)), (by rfl), H', ⟨by have := HJ1.out; have := HK2.out; have := HK3.out; omega⟩, ⟨by exact BK320.out⟩, ⟨by exact HB.out⟩⟩
       rw [if_neg c20] at H
       exact absurd H (by simp)
      rw [if_neg c19] at H
      exact absurd H (by simp)
     rw [if_neg c17] at H
     have c17b0 : decide (0 < x5_3) = false := decide_eq_false c17
     clear c17
     have H' := Aside0.mk H
     clear H
     have p322 : 0 ≤ (x5_3 : Int) := of_decide_eq_true (by (with_reducible assumption))
     have q322 : x5_3 < ((rd_L1 l0_0 x3_2).length : Int) := of_decide_eq_true (by (with_reducible assumption))
     obtain ⟨ad322, e322, hx322_0⟩ := Kd.at_int HR321_0.out x5_3 p322 q322
     cases e322
     replace hx322_0 := (HB.out.cell (World.block_lt_of_cell? w _ hx322_0)).trans hx322_0
     replace p322 := eq_true p322
     replace q322 := eq_true q322
     try go_wp2_with (((with_reducible refine gate_callee (f := 17) rfl ?_); refine goesL_ (some 44) rfl rfl Tryd.func17 (by kernel_rfl) rfl #[.int .i64 (rd (rd_L1 l0_0 x3_2) x5_3)] rfl (by (try simp only [List.map_toArray, List.map_cons, List.map_nil]); rfl) ?_; (with_reducible refine (optimaref3_big.calls (rd (rd_L1 l0_0 x3_2) x5_3) false _ A15.out).mono ?_); rintro e w' ⟨rfl, ⟨nd, rfl⟩⟩; refine ⟨_, rfl, ?_⟩))
     (try (rw [drewN_self wr]; generalize hq_ : World.drewN wr _ = wr; have n0_ : Aside0 (wr.heap[gb320]? = some (.cells #[.slice (some ad321) l0_0.length c0_0, .slice A0_1 l0_1.length c0_1] 25 (0, 0))) := ⟨by rw [← hq_]; exact (by (with_reducible repeat (refine blk_drewN ?_ _)); exact BK320.out)⟩; have n1_ : Aside0 (Below w.heap.size w wr) := ⟨by rw [← hq_]; exact (by repeat ((with_reducible first | exact HB.out | apply pw_below_drewN)))⟩; clear BK320 HB hq_; have BK320 := n0_; have HB := n1_; clear n0_ n1_))
     have n0_ := Aside0.mk (blk_drew BK320.out)
     have n1_ := Aside0.mk (below_drew1 HB.out)
     clear BK320
     clear HB
     have BK320 := n0_
     have HB := n1_
     clear n0_ n1_
     refine start_ (n := 14) (S := fun w' => True) (ds := []) #[false, false, false, false, false, false, false, false, false, false, false, false, false, false] (by kernel_rfl) rfl rfl trivial (fun hHeld => ?_); refine with_tabW optimaref3_PuzzleValid.tab15 optimaref3_PuzzleValid.bits15 (fun HT_ HW_ => ?_)
     generalize wr.drew = w24 at BK320 HB hHeld ⊢
     refine pure_ (i := 0) (N := some 46) (v := ?_) (a' := ?_) #[true, false, false, false, false, false, false, false, false, false, false, false, false, false] rfl rfl (any_of HT_.out (by kernel_rfl)) (fun _ _ _ h => h) (Or.inl ⟨by rfl, ?_⟩) ?_ ?_
     rotate_left
     ·intro w'
      go_simp
      with_reducible rfl
     rotate_left
     ·simp only [Act.put, List.setIfInBounds_toArray, List.set_cons_zero, List.set_cons_succ, i64_w, i32_w]
      rfl
     refine pure_ (i := 1) (N := some 47) (v := ?_) (a' := ?_) #[true, true, false, false, false, false, false, false, false, false, false, false, false, false] rfl rfl (any_of HT_.out (by kernel_rfl)) (fun _ _ _ h => h) (Or.inl ⟨by rfl, ?_⟩) ?_ ?_
     rotate_left
     ·intro w'
      go_simp
      with_reducible rfl
     rotate_left
     ·simp only [Act.put, List.setIfInBounds_toArray, List.set_cons_zero, List.set_cons_succ, i64_w, i32_w]
      rfl
     refine pure_ (i := 2) (N := some 48) (v := ?_) (a' := ?_) #[true, true, true, false, false, false, false, false, false, false, false, false, false, false] rfl rfl (any_of HT_.out (by kernel_rfl)) (fun _ _ _ h => h) (Or.inl ⟨by rfl, ?_⟩) ?_ ?_
     rotate_left
     ·intro w'
      go_simp
      with_reducible rfl
     rotate_left
     ·simp only [Act.put, List.setIfInBounds_toArray, List.set_cons_zero, List.set_cons_succ, i64_w, i32_w]
      rfl
     refine pure_ (i := 3) (N := some 49) (v := undef) (a' := ?_) #[true, true, true, true, false, false, false, false, false, false, false, false, false, false] rfl rfl (any_of HT_.out (by kernel_rfl)) (fun _ _ _ h => h) (Or.inr ⟨by rfl, rfl⟩) ?_ ?_
     rotate_left
     ·simp only [Act.put, List.setIfInBounds_toArray, List.set_cons_zero, List.set_cons_succ, i64_w, i32_w]
      rfl
     refine pure_ (i := 4) (N := some 50) (v := undef) (a' := ?_) #[true, true, true, true, true, false, false, false, false, false, false, false, false, false] rfl rfl (any_of HT_.out (by kernel_rfl)) (fun _ _ _ h => h) (Or.inr ⟨by rfl, rfl⟩) ?_ ?_
     rotate_left
     ·simp only [Act.put, List.setIfInBounds_toArray, List.set_cons_zero, List.set_cons_succ, i64_w, i32_w]
      rfl
     refine pure_ (i := 5) (N := some 51) (v := undef) (a' := ?_) #[true, true, true, true, true, true, false, false, false, false, false, false, false, false] rfl rfl (any_of HT_.out (by kernel_rfl)) (fun _ _ _ h => h) (Or.inr ⟨by rfl, rfl⟩) ?_ ?_
     rotate_left
     ·simp only [Act.put, List.setIfInBounds_toArray, List.set_cons_zero, List.set_cons_succ, i64_w, i32_w]
      rfl
     refine pure_ (i := 6) (N := some 52) (v := undef) (a' := ?_) #[true, true, true, true, true, true, true, false, false, false, false, false, false, false] rfl rfl (any_of HT_.out (by kernel_rfl)) (fun _ _ _ h => h) (Or.inr ⟨by rfl, rfl⟩) ?_ ?_
     rotate_left
     ·simp only [Act.put, List.setIfInBounds_toArray, List.set_cons_zero, List.set_cons_succ, i64_w, i32_w]
      rfl
     refine pure_ (i := 7) (N := some 53) (v := undef) (a' := ?_) #[true, true, true, true, true, true, true, true, false, false, false, false, false, false] rfl rfl (any_of HT_.out (by kernel_rfl)) (fun _ _ _ h => h) (Or.inr ⟨by rfl, rfl⟩) ?_ ?_
     rotate_left
     ·simp only [Act.put, List.setIfInBounds_toArray, List.set_cons_zero, List.set_cons_succ, i64_w, i32_w]
      rfl
     refine pure_ (i := 8) (N := some 54) (v := undef) (a' := ?_) #[true, true, true, true, true, true, true, true, true, false, false, false, false, false] rfl rfl (any_of HT_.out (by kernel_rfl)) (fun _ _ _ h => h) (Or.inr ⟨by rfl, rfl⟩) ?_ ?_
     rotate_left
     ·simp only [Act.put, List.setIfInBounds_toArray, List.set_cons_zero, List.set_cons_succ, i64_w, i32_w]
      rfl
     refine pure_ (i := 9) (N := some 55) (v := undef) (a' := ?_) #[true, true, true, true, true, true, true, true, true, true, false, false, false, false] rfl rfl (any_of HT_.out (by kernel_rfl)) (fun _ _ _ h => h) (Or.inr ⟨by rfl, rfl⟩) ?_ ?_
     rotate_left
     ·simp only [Act.put, List.setIfInBounds_toArray, List.set_cons_zero, List.set_cons_succ, i64_w, i32_w]
      rfl
     refine pure_ (i := 10) (N := some 56) (v := undef) (a' := ?_) #[true, true, true, true, true, true, true, true, true, true, true, false, false, false] rfl rfl (any_of HT_.out (by kernel_rfl)) (fun _ _ _ h => h) (Or.inr ⟨by rfl, rfl⟩) ?_ ?_
     rotate_left
     ·simp only [Act.put, List.setIfInBounds_toArray, List.set_cons_zero, List.set_cons_succ, i64_w, i32_w]
      rfl
     refine pure_ (i := 11) (N := some 57) (v := undef) (a' := ?_) #[true, true, true, true, true, true, true, true, true, true, true, true, false, false] rfl rfl (any_of HT_.out (by kernel_rfl)) (fun _ _ _ h => h) (Or.inr ⟨by rfl, rfl⟩) ?_ ?_
     rotate_left
     ·simp only [Act.put, List.setIfInBounds_toArray, List.set_cons_zero, List.set_cons_succ, i64_w, i32_w]
      rfl
     refine pure_ (i := 12) (N := some 58) (v := undef) (a' := ?_) #[true, true, true, true, true, true, true, true, true, true, true, true, true, false] rfl rfl (any_of HT_.out (by kernel_rfl)) (fun _ _ _ h => h) (Or.inr ⟨by rfl, rfl⟩) ?_ ?_
     rotate_left
     ·simp only [Act.put, List.setIfInBounds_toArray, List.set_cons_zero, List.set_cons_succ, i64_w, i32_w]
      rfl
     refine pure_ (i := 13) (N := some 59) (v := ?_) (a' := ?_) #[true, true, true, true, true, true, true, true, true, true, true, true, true, true] rfl rfl (any_of HT_.out (by kernel_rfl)) (fun _ _ _ h => h) (Or.inl ⟨by rfl, ?_⟩) ?_ ?_
     rotate_left
     ·intro w'
      go_simp
      with_reducible rfl
     rotate_left
     ·simp only [Act.put, List.setIfInBounds_toArray, List.set_cons_zero, List.set_cons_succ, i64_w, i32_w]
      rfl
     refine done_ (done_of HT_.out (by kernel_rfl)) ?_
     try go_wp2
     go_roundg k3
     case measure => have := HJ1.out; have := HK2.out; have := HK3.out; omega
     case rel => exact ⟨(wrap64 (x5_3 + 1)), (by rfl), H', ⟨by have := HJ1.out; have := HK2.out; have := HK3.out; omega⟩, ⟨by exact BK320.out⟩, ⟨by exact HB.out⟩⟩
    rw [if_neg c14] at H
    exact absurd H (by simp)
   rw [if_neg c13] at H
   have c13b0 : decide (x5_3 < ((rd_L1 l0_0 x3_2).length : Int)) = false := decide_eq_false c13
   clear c13
   have H' := Aside0.mk H
   clear H
   go_wp2
   go_roundg k3
   case measure => have := HJ1.out; have := HK2.out; have := HK3.out; omega
   case rel => exact ⟨(wrap64 (x3_2 + 1)), (by rfl), H', ⟨by have := HJ1.out; have := HK2.out; have := HK3.out; omega⟩, ⟨by exact BK320.out⟩, ⟨by exact HB.out⟩⟩
  rw [if_neg c9] at H
  exact absurd H (by simp)
 rw [if_neg c8] at H
 have c8b0 : decide (x3_2 < (l0_0.length : Int)) = false := decide_eq_false c8
 clear c8
 have H' := Aside0.mk H
 clear H
 have hcz25_0 : wr.cell? ⟨gb320, 0, none⟩ = some (.slice A0_0 l0_0.length c0_0) := (blk_cell BK320.out 0).trans rfl
 have hcz25_1 : wr.cell? ⟨gb320, 1, none⟩ = some (.slice A0_1 l0_1.length c0_1) := (blk_cell BK320.out 1).trans rfl
 have hfz25_0 := blk_frozen BK320.out 0
 have hfz25_1 := blk_frozen BK320.out 1
 go_wp2
 go_loopg [7] k2 (fun kq v7 w' => ∃ (x7_3 : Int), v7 = .int .i64 x7_3 ∧ Aside0 (optimaref3_PuzzleValid.l2 kq x7_3 l0_0 l0_1 = some r) ∧ Aside0 (kq ≤ k2) ∧ Aside0 (w'.heap[gb320]? = some (.cells #[(.slice A0_0 l0_0.length c0_0), (.slice A0_1 l0_1.length c0_1)] 25 (0, 0))) ∧ Aside0 (Below w.heap.size w w'))
 case atStart => exact ⟨(0), (by rfl), H', ⟨Nat.le_refl _⟩, ⟨by exact BK320.out⟩, ⟨by exact HB.out⟩⟩
 clear H'
 try clear c1
 try clear c2
 try clear p2
 try clear c3
 try clear p3
 try clear q3
 try clear hx3
 try clear c4
 try clear c4b0
 try clear c4b1
 try clear p6
 try clear c7
 try clear c8
 try clear c8b0
 try clear c9
 try clear c9b0
 try clear c10
 try clear c10b0
 try clear c10b1
 try clear c13
 try clear c13b0
 try clear c14
 try clear c14b0
 try clear c16
 try clear c17
 try clear c17b0
 try clear c19
 try clear c19b0
 try clear c20
 try clear c20b0
 try clear c21
 try clear c21b0
 try clear hcz11_0
 try clear hcz11_1
 try clear hcz12_0
 try clear hcz12_1
 try clear hcz25_0
 try clear hcz25_1
 try clear hcz5_0
 try clear hcz5_1
 try clear hcz6_0
 try clear hcz6_1
 try clear hfz11_0
 try clear hfz11_1
 try clear hfz12_0
 try clear hfz12_1
 try clear hfz25_0
 try clear hfz25_1
 try clear hfz5_0
 try clear hfz5_1
 try clear hfz6_0
 try clear hfz6_1
 try clear hx321_0
 try clear hx322_0
 try clear hx324_0
 try clear hx325_0
 try clear p2
 try clear p3
 try clear p321
 try clear p322
 try clear p324
 try clear p325
 try clear q3
 try clear q321
 try clear q322
 try clear q324
 try clear q325
 obtain ⟨x7_3, rfl, HA, HK3, BK320, HB⟩ := hrel
 rcases gk with _ | k3
 ·exact absurd HA.out (by simp [optimaref3_PuzzleValid.l2])
 have H := HA.out
 clear HA
 simp only [optimaref3_PuzzleValid.l2] at H
 by_cases c26 : x7_3 < (l0_1.length : Int)
 ·rw [if_pos c26] at H
  have c26b0 : decide (x7_3 < (l0_1.length : Int)) = true := decide_eq_true c26
  clear c26
  by_cases c27 : 0 ≤ x7_3
  ·rw [if_pos c27] at H
   have c27b0 : decide (0 ≤ x7_3) = true := decide_eq_true c27
   clear c27
   replace H := Option.bind_eq_some_iff.mp H
   obtain ⟨t327, A280, H⟩ := H
   replace H : (if t327 > 0 then (some t327) else (optimaref3_PuzzleValid.l2 k3 (wrap64 (x7_3 + 1)) l0_0 l0_1)) = some r := H
   have A28 := Aside0.mk A280
   clear A280
   by_cases c29 : t327 > 0
   ·rw [if_pos c29] at H
    have c29b0 : decide (0 < t327) = true := decide_eq_true c29
    clear c29
    obtain rfl := Option.some.inj H
    have hcz30_0 : wr.cell? ⟨gb320, 0, none⟩ = some (.slice A0_0 l0_0.length c0_0) := (blk_cell BK320.out 0).trans rfl
    have hcz30_1 : wr.cell? ⟨gb320, 1, none⟩ = some (.slice A0_1 l0_1.length c0_1) := (blk_cell BK320.out 1).trans rfl
    have hfz30_0 := blk_frozen BK320.out 0
    have hfz30_1 := blk_frozen BK320.out 1
    try go_wp2
    have n0_ := Aside0.mk (blk_drew BK320.out)
    have n1_ := Aside0.mk (below_drew1 HB.out)
    clear BK320
    clear HB
    have BK320 := n0_
    have HB := n1_
    clear n0_ n1_
    have p326 : 0 ≤ (x7_3 : Int) := of_decide_eq_true (by (with_reducible assumption))
    have q326 : x7_3 < (l0_1.length : Int) := of_decide_eq_true (by (with_reducible assumption))
    obtain ⟨ad326, A326_1, c326_1, A326_2, c326_2, A326_3, c326_3, A326_5, c326_5, e326, hx326_0, hx326_1, hx326_2, hx326_3, hx326_4, hx326_5, hl326_1, hi326_1, hl326_2, hi326_2, hl326_3, hi326_3, hl326_5, hi326_5⟩ := at_T44 HR0_1.out x7_3 p326 q326
    have hw326_5 := hx326_5
    have hw326_4 := hx326_4
    have hw326_3 := hx326_3
    have hw326_2 := hx326_2
    have hw326_1 := hx326_1
    have hw326_0 := hx326_0
    cases e326
    replace hx326_0 := (HB.out.cell (World.block_lt_of_cell? w _ hx326_0)).trans hx326_0
    replace hx326_1 := (HB.out.cell (World.block_lt_of_cell? w _ hx326_1)).trans hx326_1
    replace hx326_2 := (HB.out.cell (World.block_lt_of_cell? w _ hx326_2)).trans hx326_2
    replace hx326_3 := (HB.out.cell (World.block_lt_of_cell? w _ hx326_3)).trans hx326_3
    replace hx326_4 := (HB.out.cell (World.block_lt_of_cell? w _ hx326_4)).trans hx326_4
    replace hx326_5 := (HB.out.cell (World.block_lt_of_cell? w _ hx326_5)).trans hx326_5
    have HR326_1 := Aside0.mk hi326_1
    have HC326_1 := Aside0.mk hl326_1
    clear hi326_1 hl326_1
    have HR326_2 := Aside0.mk hi326_2
    have HC326_2 := Aside0.mk hl326_2
    clear hi326_2 hl326_2
    have HR326_3 := Aside0.mk hi326_3
    have HC326_3 := Aside0.mk hl326_3
    clear hi326_3 hl326_3
    have HR326_5 := Aside0.mk hi326_5
    have HC326_5 := Aside0.mk hl326_5
    clear hi326_5 hl326_5
    replace p326 := eq_true p326
    replace q326 := eq_true q326
    refine start_ (n := 8) (S := fun w' => w'.cell? ⟨gb320, 0, none⟩ = some (.slice A0_0 l0_0.length c0_0) ∧ w'.cell? ⟨gb320, 1, none⟩ = some (.slice (some ad326) l0_1.length c0_1) ∧ w'.cell? (ad326.add ((x7_3).toNat * 6)) = some (.int .i64 ((rd_T44 l0_1 x7_3).f0)) ∧ w'.cell? ⟨(ad326.add ((x7_3).toNat * 6)).block, (ad326.add ((x7_3).toNat * 6)).off + 1, none⟩ = some (.slice A326_1 ((rd_T44 l0_1 x7_3).f1).length c326_1) ∧ w'.cell? ⟨(ad326.add ((x7_3).toNat * 6)).block, (ad326.add ((x7_3).toNat * 6)).off + 2, none⟩ = some (.slice A326_2 ((rd_T44 l0_1 x7_3).f2).length c326_2) ∧ w'.cell? ⟨(ad326.add ((x7_3).toNat * 6)).block, (ad326.add ((x7_3).toNat * 6)).off + 3, none⟩ = some (.slice A326_3 ((rd_T44 l0_1 x7_3).f3).length c326_3) ∧ w'.cell? ⟨(ad326.add ((x7_3).toNat * 6)).block, (ad326.add ((x7_3).toNat * 6)).off + 4, none⟩ = some (.int .i64 ((rd_T44 l0_1 x7_3).f4)) ∧ w'.cell? ⟨(ad326.add ((x7_3).toNat * 6)).block, (ad326.add ((x7_3).toNat * 6)).off + 5, none⟩ = some (.slice A326_5 ((rd_T44 l0_1 x7_3).f5).length c326_5)) (ds := []) #[false, false, false, false, false, false, false, false] (by kernel_rfl) rfl rfl ⟨(blk_cell BK320.out 0).trans rfl, (blk_cell BK320.out 1).trans rfl, ((HB.out.cell (World.block_lt_of_cell? w _ hw326_0)).trans hw326_0), ((HB.out.cell (World.block_lt_of_cell? w _ hw326_1)).trans hw326_1), ((HB.out.cell (World.block_lt_of_cell? w _ hw326_2)).trans hw326_2), ((HB.out.cell (World.block_lt_of_cell? w _ hw326_3)).trans hw326_3), ((HB.out.cell (World.block_lt_of_cell? w _ hw326_4)).trans hw326_4), ((HB.out.cell (World.block_lt_of_cell? w _ hw326_5)).trans hw326_5)⟩ (fun hHeld => ?_); refine with_tabW optimaref3_PuzzleValid.tab20 optimaref3_PuzzleValid.bits20 (fun HT_ HW_ => ?_)
    generalize wr.drew = w31 at BK320 HB HR326_1 HR326_2 HR326_3 HR326_5 hx326_0 hx326_1 hx326_2 hx326_3 hx326_4 hx326_5 hHeld ⊢
    refine pure_ (i := 1) (N := some 68) (v := ?_) (a' := ?_) #[false, true, false, false, false, false, false, false] rfl rfl (any_of HT_.out (by kernel_rfl)) (fun _ _ _ h => h) (Or.inl ⟨by rfl, ?_⟩) ?_ ?_
    rotate_left
    ·intro w'
     go_simp
     with_reducible rfl
    rotate_left
    ·simp only [Act.put, List.setIfInBounds_toArray, List.set_cons_zero, List.set_cons_succ, i64_w, i32_w]
     rfl
    refine pure_ (i := 3) (N := some 70) (v := ?_) (a' := ?_) #[false, true, false, true, false, false, false, false] rfl rfl (any_of HT_.out (by kernel_rfl)) (fun _ _ _ h => h) (Or.inl ⟨by rfl, ?_⟩) ?_ ?_
    rotate_left
    ·intro w'
     go_simp
     with_reducible rfl
    rotate_left
    ·simp only [Act.put, List.setIfInBounds_toArray, List.set_cons_zero, List.set_cons_succ, i64_w, i32_w]
     rfl
    refine take_ (i := 0) (N := some 67) (v := ?_) (a' := ?_) #[true, true, false, true, false, false, false, false] rfl rfl (take_ofW HT_.out HW_.out (by kernel_rfl)) (fun _ _ _ h => h) (Or.inl ⟨by rfl, ?_⟩) hHeld ?_ ?_
    rotate_left
    ·rintro w' ⟨s0, s1, s2, s3, s4, s5, s6, s7⟩
     go_simp
     with_reducible rfl
    rotate_left
    ·simp only [Act.put, List.setIfInBounds_toArray, List.set_cons_zero, List.set_cons_succ, i64_w, i32_w]
     rfl
    refine take_ (i := 2) (N := some 69) (v := ?_) (a' := ?_) #[true, true, true, true, false, false, false, false] rfl rfl (take_ofW HT_.out HW_.out (by kernel_rfl)) (fun _ _ _ h => h) (Or.inl ⟨by rfl, ?_⟩) hHeld ?_ ?_
    rotate_left
    ·rintro w' ⟨s0, s1, s2, s3, s4, s5, s6, s7⟩
     go_simp
     with_reducible rfl
    rotate_left
    ·simp only [Act.put, List.setIfInBounds_toArray, List.set_cons_zero, List.set_cons_succ, i64_w, i32_w]
     rfl
    refine pure_ (i := 4) (N := some 71) (v := ?_) (a' := ?_) #[true, true, true, true, true, false, false, false] rfl rfl (any_of HT_.out (by kernel_rfl)) (fun _ _ _ h => h) (Or.inl ⟨by rfl, ?_⟩) ?_ ?_
    rotate_left
    ·intro w'
     go_simp
     with_reducible rfl
    rotate_left
    ·simp only [Act.put, List.setIfInBounds_toArray, List.set_cons_zero, List.set_cons_succ, i64_w, i32_w]
     rfl
    refine take_ (i := 5) (N := some 72) (v := ?_) (a' := ?_) #[true, true, true, true, true, true, false, false] rfl rfl (take_ofW HT_.out HW_.out (by kernel_rfl)) (fun _ _ _ h => h) (Or.inl ⟨by rfl, ?_⟩) hHeld ?_ ?_
    rotate_left
    ·rintro w' ⟨s0, s1, s2, s3, s4, s5, s6, s7⟩
     go_simp
     with_reducible rfl
    rotate_left
    ·simp only [Act.put, List.setIfInBounds_toArray, List.set_cons_zero, List.set_cons_succ, i64_w, i32_w]
     rfl
    refine one_ (i := 6) (N := some 73) #[true, true, true, true, true, true, true, false] rfl rfl (one_of HT_.out (by kernel_rfl)) (by decide) (fun K hK => ?_)
    refine goes_ Tryd.func18 (by kernel_rfl) rfl #[.agg #[.slice A0_0 l0_0.length c0_0, .slice (some ad326) l0_1.length c0_1], .agg #[.int .i64 ((rd_T44 l0_1 x7_3).f0), .slice A326_1 ((rd_T44 l0_1 x7_3).f1).length c326_1, .slice A326_2 ((rd_T44 l0_1 x7_3).f2).length c326_2, .slice A326_3 ((rd_T44 l0_1 x7_3).f3).length c326_3, .int .i64 ((rd_T44 l0_1 x7_3).f4), .slice A326_5 ((rd_T44 l0_1 x7_3).f5).length c326_5]] (by rfl) rfl rfl (by (try simp only [List.map_toArray, List.map_cons, List.map_nil]); rfl) ?_
    with_reducible refine (optimaref3_conValid.calls k3 _ _ l0_0 _ _ l0_1 ((rd_T44 l0_1 x7_3).f0) _ _ ((rd_T44 l0_1 x7_3).f1) _ _ ((rd_T44 l0_1 x7_3).f2) _ _ ((rd_T44 l0_1 x7_3).f3) ((rd_T44 l0_1 x7_3).f4) _ _ ((rd_T44 l0_1 x7_3).f5) t327 _ ?side1 ?side2 ?side3 ?side4 ?side5 ?side6 ?side7 ?side8 ?side9 ?side10 ?side11 ?side12 A28.out).mono ?_
    (case side1 => repeat (exact (Kd.C_below HR0_0.out HB.out)))
    (case side2 => exact HC0_0.out)
    (case side3 => repeat (exact (Kd.C_below HR0_1.out HB.out)))
    (case side4 => exact HC0_1.out)
    (case side5 => repeat (exact (Kd.C_below HR326_1.out HB.out)))
    (case side6 => exact HC326_1.out)
    (case side7 => repeat (exact (Kd.C_below HR326_2.out HB.out)))
    (case side8 => exact HC326_2.out)
    (case side9 => repeat (exact (Kd.C_below HR326_3.out HB.out)))
    (case side10 => exact HC326_3.out)
    (case side11 => repeat (exact (Kd.C_below HR326_5.out HB.out)))
    (case side12 => exact HC326_5.out)
    rintro e w32 ⟨rfl, hb⟩
    refine ⟨_, rfl, ?_⟩
    have n0_ := Aside0.mk (blk_below (g := gb320) (o := .cells #[.slice A0_0 l0_0.length c0_0, .slice (some ad326) l0_1.length c0_1] 25 (0, 0)) (by exact BK320.out) hb)
    have n1_ := Aside0.mk (below_step (by exact HB.out) hb)
    clear BK320
    clear HB
    have BK320 := n0_
    have HB := n1_
    clear n0_ n1_
    (try clear hb)
    (try clear hb2)
    (try clear hk)
    (try clear hi)
    refine hK.out _ _ ⟨(blk_cell BK320.out 0).trans rfl, (blk_cell BK320.out 1).trans rfl, ((HB.out.cell (World.block_lt_of_cell? w _ hw326_0)).trans hw326_0), ((HB.out.cell (World.block_lt_of_cell? w _ hw326_1)).trans hw326_1), ((HB.out.cell (World.block_lt_of_cell? w _ hw326_2)).trans hw326_2), ((HB.out.cell (World.block_lt_of_cell? w _ hw326_3)).trans hw326_3), ((HB.out.cell (World.block_lt_of_cell? w _ hw326_4)).trans hw326_4), ((HB.out.cell (World.block_lt_of_cell? w _ hw326_5)).trans hw326_5)⟩ (fun hHeld => ?_)
    clear hK K
    refine norm_ (a' := ?_) ?_ ?_
    rotate_left
    ·show Act.put _ (some 73) _ = _
     simp only [Act.put, List.setIfInBounds_toArray, List.set_cons_zero, List.set_cons_succ, i64_w, i32_w]
     rfl
    refine pure_ (i := 7) (N := some 8) (v := ?_) (a' := ?_) #[true, true, true, true, true, true, true, true] rfl rfl (any_of HT_.out (by kernel_rfl)) (fun _ _ _ h => h) (Or.inl ⟨by rfl, ?_⟩) ?_ ?_
    rotate_left
    ·intro w'
     go_simp
     with_reducible rfl
    rotate_left
    ·simp only [Act.put, List.setIfInBounds_toArray, List.set_cons_zero, List.set_cons_succ, i64_w, i32_w]
     rfl
    refine done_ (done_of HT_.out (by kernel_rfl)) ?_
    try go_wp2
    go_ret
    exact ⟨by rfl, by exact HB.out⟩
   rw [if_neg c29] at H
   have c29b0 : decide (0 < t327) = false := decide_eq_false c29
   clear c29
   have H' := Aside0.mk H
   clear H
   have hcz33_0 : wr.cell? ⟨gb320, 0, none⟩ = some (.slice A0_0 l0_0.length c0_0) := (blk_cell BK320.out 0).trans rfl
   have hcz33_1 : wr.cell? ⟨gb320, 1, none⟩ = some (.slice A0_1 l0_1.length c0_1) := (blk_cell BK320.out 1).trans rfl
   have hfz33_0 := blk_frozen BK320.out 0
   have hfz33_1 := blk_frozen BK320.out 1
   try go_wp2
   have n0_ := Aside0.mk (blk_drew BK320.out)
   have n1_ := Aside0.mk (below_drew1 HB.out)
   clear BK320
   clear HB
   have BK320 := n0_
   have HB := n1_
   clear n0_ n1_
   have p326 : 0 ≤ (x7_3 : Int) := of_decide_eq_true (by (with_reducible assumption))
   have q326 : x7_3 < (l0_1.length : Int) := of_decide_eq_true (by (with_reducible assumption))
   obtain ⟨ad326, A326_1, c326_1, A326_2, c326_2, A326_3, c326_3, A326_5, c326_5, e326, hx326_0, hx326_1, hx326_2, hx326_3, hx326_4, hx326_5, hl326_1, hi326_1, hl326_2, hi326_2, hl326_3, hi326_3, hl326_5, hi326_5⟩ := at_T44 HR0_1.out x7_3 p326 q326
   have hw326_5 := hx326_5
   have hw326_4 := hx326_4
   have hw326_3 := hx326_3
   have hw326_2 := hx326_2
   have hw326_1 := hx326_1
   have hw326_0 := hx326_0
   cases e326
   replace hx326_0 := (HB.out.cell (World.block_lt_of_cell? w _ hx326_0)).trans hx326_0
   replace hx326_1 := (HB.out.cell (World.block_lt_of_cell? w _ hx326_1)).trans hx326_1
   replace hx326_2 := (HB.out.cell (World.block_lt_of_cell? w _ hx326_2)).trans hx326_2
   replace hx326_3 := (HB.out.cell (World.block_lt_of_cell? w _ hx326_3)).trans hx326_3
   replace hx326_4 := (HB.out.cell (World.block_lt_of_cell? w _ hx326_4)).trans hx326_4
   replace hx326_5 := (HB.out.cell (World.block_lt_of_cell? w _ hx326_5)).trans hx326_5
   have HR326_1 := Aside0.mk hi326_1
   have HC326_1 := Aside0.mk hl326_1
   clear hi326_1 hl326_1
   have HR326_2 := Aside0.mk hi326_2
   have HC326_2 := Aside0.mk hl326_2
   clear hi326_2 hl326_2
   have HR326_3 := Aside0.mk hi326_3
   have HC326_3 := Aside0.mk hl326_3
   clear hi326_3 hl326_3
   have HR326_5 := Aside0.mk hi326_5
   have HC326_5 := Aside0.mk hl326_5
   clear hi326_5 hl326_5
   replace p326 := eq_true p326
   replace q326 := eq_true q326
   refine start_ (n := 8) (S := fun w' => w'.cell? ⟨gb320, 0, none⟩ = some (.slice A0_0 l0_0.length c0_0) ∧ w'.cell? ⟨gb320, 1, none⟩ = some (.slice (some ad326) l0_1.length c0_1) ∧ w'.cell? (ad326.add ((x7_3).toNat * 6)) = some (.int .i64 ((rd_T44 l0_1 x7_3).f0)) ∧ w'.cell? ⟨(ad326.add ((x7_3).toNat * 6)).block, (ad326.add ((x7_3).toNat * 6)).off + 1, none⟩ = some (.slice A326_1 ((rd_T44 l0_1 x7_3).f1).length c326_1) ∧ w'.cell? ⟨(ad326.add ((x7_3).toNat * 6)).block, (ad326.add ((x7_3).toNat * 6)).off + 2, none⟩ = some (.slice A326_2 ((rd_T44 l0_1 x7_3).f2).length c326_2) ∧ w'.cell? ⟨(ad326.add ((x7_3).toNat * 6)).block, (ad326.add ((x7_3).toNat * 6)).off + 3, none⟩ = some (.slice A326_3 ((rd_T44 l0_1 x7_3).f3).length c326_3) ∧ w'.cell? ⟨(ad326.add ((x7_3).toNat * 6)).block, (ad326.add ((x7_3).toNat * 6)).off + 4, none⟩ = some (.int .i64 ((rd_T44 l0_1 x7_3).f4)) ∧ w'.cell? ⟨(ad326.add ((x7_3).toNat * 6)).block, (ad326.add ((x7_3).toNat * 6)).off + 5, none⟩ = some (.slice A326_5 ((rd_T44 l0_1 x7_3).f5).length c326_5)) (ds := []) #[false, false, false, false, false, false, false, false] (by kernel_rfl) rfl rfl ⟨(blk_cell BK320.out 0).trans rfl, (blk_cell BK320.out 1).trans rfl, ((HB.out.cell (World.block_lt_of_cell? w _ hw326_0)).trans hw326_0), ((HB.out.cell (World.block_lt_of_cell? w _ hw326_1)).trans hw326_1), ((HB.out.cell (World.block_lt_of_cell? w _ hw326_2)).trans hw326_2), ((HB.out.cell (World.block_lt_of_cell? w _ hw326_3)).trans hw326_3), ((HB.out.cell (World.block_lt_of_cell? w _ hw326_4)).trans hw326_4), ((HB.out.cell (World.block_lt_of_cell? w _ hw326_5)).trans hw326_5)⟩ (fun hHeld => ?_); refine with_tabW optimaref3_PuzzleValid.tab20 optimaref3_PuzzleValid.bits20 (fun HT_ HW_ => ?_)
   generalize wr.drew = w34 at BK320 HB HR326_1 HR326_2 HR326_3 HR326_5 hx326_0 hx326_1 hx326_2 hx326_3 hx326_4 hx326_5 hHeld ⊢
   refine pure_ (i := 1) (N := some 68) (v := ?_) (a' := ?_) #[false, true, false, false, false, false, false, false] rfl rfl (any_of HT_.out (by kernel_rfl)) (fun _ _ _ h => h) (Or.inl ⟨by rfl, ?_⟩) ?_ ?_
   rotate_left
   ·intro w'
    go_simp
    with_reducible rfl
   rotate_left
   ·simp only [Act.put, List.setIfInBounds_toArray, List.set_cons_zero, List.set_cons_succ, i64_w, i32_w]
    rfl
   refine pure_ (i := 3) (N := some 70) (v := ?_) (a' := ?_) #[false, true, false, true, false, false, false, false] rfl rfl (any_of HT_.out (by kernel_rfl)) (fun _ _ _ h => h) (Or.inl ⟨by rfl, ?_⟩) ?_ ?_
   rotate_left
   ·intro w'
    go_simp
    with_reducible rfl
   rotate_left
   ·simp only [Act.put, List.setIfInBounds_toArray, List.set_cons_zero, List.set_cons_succ, i64_w, i32_w]
    rfl
   refine take_ (i := 0) (N := some 67) (v := ?_) (a' := ?_) #[true, true, false, true, false, false, false, false] rfl rfl (take_ofW HT_.out HW_.out (by kernel_rfl)) (fun _ _ _ h => h) (Or.inl ⟨by rfl, ?_⟩) hHeld ?_ ?_
   rotate_left
   ·rintro w' ⟨s0, s1, s2, s3, s4, s5, s6, s7⟩
    go_simp
    with_reducible rfl
   rotate_left
   ·simp only [Act.put, List.setIfInBounds_toArray, List.set_cons_zero, List.set_cons_succ, i64_w, i32_w]
    rfl
   refine take_ (i := 2) (N := some 69) (v := ?_) (a' := ?_) #[true, true, true, true, false, false, false, false] rfl rfl (take_ofW HT_.out HW_.out (by kernel_rfl)) (fun _ _ _ h => h) (Or.inl ⟨by rfl, ?_⟩) hHeld ?_ ?_
   rotate_left
   ·rintro w' ⟨s0, s1, s2, s3, s4, s5, s6, s7⟩
    go_simp
    with_reducible rfl
   rotate_left
   ·simp only [Act.put, List.setIfInBounds_toArray, List.set_cons_zero, List.set_cons_succ, i64_w, i32_w]
    rfl
   refine pure_ (i := 4) (N := some 71) (v := ?_) (a' := ?_) #[true, true, true, true, true, false, false, false] rfl rfl (any_of HT_.out (by kernel_rfl)) (fun _ _ _ h => h) (Or.inl ⟨by rfl, ?_⟩) ?_ ?_
   rotate_left
   ·intro w'
    go_simp
    with_reducible rfl
   rotate_left
   ·simp only [Act.put, List.setIfInBounds_toArray, List.set_cons_zero, List.set_cons_succ, i64_w, i32_w]
    rfl
   refine take_ (i := 5) (N := some 72) (v := ?_) (a' := ?_) #[true, true, true, true, true, true, false, false] rfl rfl (take_ofW HT_.out HW_.out (by kernel_rfl)) (fun _ _ _ h => h) (Or.inl ⟨by rfl, ?_⟩) hHeld ?_ ?_
   rotate_left
   ·rintro w' ⟨s0, s1, s2, s3, s4, s5, s6, s7⟩
    go_simp
    with_reducible rfl
   rotate_left
   ·simp only [Act.put, List.setIfInBounds_toArray, List.set_cons_zero, List.set_cons_succ, i64_w, i32_w]
    rfl
   refine one_ (i := 6) (N := some 73) #[true, true, true, true, true, true, true, false] rfl rfl (one_of HT_.out (by kernel_rfl)) (by decide) (fun K hK => ?_)
   refine goes_ Tryd.func18 (by kernel_rfl) rfl #[.agg #[.slice A0_0 l0_0.length c0_0, .slice (some ad326) l0_1.length c0_1], .agg #[.int .i64 ((rd_T44 l0_1 x7_3).f0), .slice A326_1 ((rd_T44 l0_1 x7_3).f1).length c326_1, .slice A326_2 ((rd_T44 l0_1 x7_3).f2).length c326_2, .slice A326_3 ((rd_T44 l0_1 x7_3).f3).length c326_3, .int .i64 ((rd_T44 l0_1 x7_3).f4), .slice A326_5 ((rd_T44 l0_1 x7_3).f5).length c326_5]] (by rfl) rfl rfl (by (try simp only [List.map_toArray, List.map_cons, List.map_nil]); rfl) ?_
   with_reducible refine (optimaref3_conValid.calls k3 _ _ l0_0 _ _ l0_1 ((rd_T44 l0_1 x7_3).f0) _ _ ((rd_T44 l0_1 x7_3).f1) _ _ ((rd_T44 l0_1 x7_3).f2) _ _ ((rd_T44 l0_1 x7_3).f3) ((rd_T44 l0_1 x7_3).f4) _ _ ((rd_T44 l0_1 x7_3).f5) t327 _ ?side1 ?side2 ?side3 ?side4 ?side5 ?side6 ?side7 ?side8 ?side9 ?side10 ?side11 ?side12 A28.out).mono ?_
   (case side1 => repeat (exact (Kd.C_below HR0_0.out HB.out)))
   (case side2 => exact HC0_0.out)
   (case side3 => repeat (exact (Kd.C_below HR0_1.out HB.out)))
   (case side4 => exact HC0_1.out)
   (case side5 => repeat (exact (Kd.C_below HR326_1.out HB.out)))
   (case side6 => exact HC326_1.out)
   (case side7 => repeat (exact (Kd.C_below HR326_2.out HB.out)))
   (case side8 => exact HC326_2.out)
   (case side9 => repeat (exact (Kd.C_below HR326_3.out HB.out)))
   (case side10 => exact HC326_3.out)
   (case side11 => repeat (exact (Kd.C_below HR326_5.out HB.out)))
   (case side12 => exact HC326_5.out)
   rintro e w35 ⟨rfl, hb⟩
   refine ⟨_, rfl, ?_⟩
   have n0_ := Aside0.mk (blk_below (g := gb320) (o := .cells #[.slice A0_0 l0_0.length c0_0, .slice (some ad326) l0_1.length c0_1] 25 (0, 0)) (by exact BK320.out) hb)
   have n1_ := Aside0.mk (below_step (by exact HB.out) hb)
   clear BK320
   clear HB
   have BK320 := n0_
   have HB := n1_
   clear n0_ n1_
   (try clear hb)
   (try clear hb2)
   (try clear hk)
   (try clear hi)
   refine hK.out _ _ ⟨(blk_cell BK320.out 0).trans rfl, (blk_cell BK320.out 1).trans rfl, ((HB.out.cell (World.block_lt_of_cell? w _ hw326_0)).trans hw326_0), ((HB.out.cell (World.block_lt_of_cell? w _ hw326_1)).trans hw326_1), ((HB.out.cell (World.block_lt_of_cell? w _ hw326_2)).trans hw326_2), ((HB.out.cell (World.block_lt_of_cell? w _ hw326_3)).trans hw326_3), ((HB.out.cell (World.block_lt_of_cell? w _ hw326_4)).trans hw326_4), ((HB.out.cell (World.block_lt_of_cell? w _ hw326_5)).trans hw326_5)⟩ (fun hHeld => ?_)
   clear hK K
   refine norm_ (a' := ?_) ?_ ?_
   rotate_left
   ·show Act.put _ (some 73) _ = _
    simp only [Act.put, List.setIfInBounds_toArray, List.set_cons_zero, List.set_cons_succ, i64_w, i32_w]
    rfl
   refine pure_ (i := 7) (N := some 8) (v := ?_) (a' := ?_) #[true, true, true, true, true, true, true, true] rfl rfl (any_of HT_.out (by kernel_rfl)) (fun _ _ _ h => h) (Or.inl ⟨by rfl, ?_⟩) ?_ ?_
   rotate_left
   ·intro w'
    go_simp
    with_reducible rfl
   rotate_left
   ·simp only [Act.put, List.setIfInBounds_toArray, List.set_cons_zero, List.set_cons_succ, i64_w, i32_w]
    rfl
   refine done_ (done_of HT_.out (by kernel_rfl)) ?_
   try go_wp2
   go_roundg k3
   case measure => have := HJ1.out; have := HK2.out; have := HK3.out; omega
   case rel => exact ⟨(wrap64 (x7_3 + 1)), (by rfl), H', ⟨by have := HJ1.out; have := HK2.out; have := HK3.out; omega⟩, ⟨by exact BK320.out⟩, ⟨by exact HB.out⟩⟩
  rw [if_neg c27] at H
  exact absurd H (by simp)
 rw [if_neg c26] at H
 have c26b0 : decide (x7_3 < (l0_1.length : Int)) = false := decide_eq_false c26
 clear c26
 obtain rfl := Option.some.inj H
 have hcz36_0 : wr.cell? ⟨gb320, 0, none⟩ = some (.slice A0_0 l0_0.length c0_0) := (blk_cell BK320.out 0).trans rfl
 have hcz36_1 : wr.cell? ⟨gb320, 1, none⟩ = some (.slice A0_1 l0_1.length c0_1) := (blk_cell BK320.out 1).trans rfl
 have hfz36_0 := blk_frozen BK320.out 0
 have hfz36_1 := blk_frozen BK320.out 1
 go_wp2
 go_ret
 exact ⟨by rfl, by exact HB.out⟩

end Go.Proofs.YtehekppkicjimaaDoor.QFK
