/- The walk of (*net).narrow: what is sound stays; where it says yes no list is empty and no rule takes any more. Conditions: the puzzle is well formed. -/
import Derived.Test.YtehekppkicjimaaDoorSRule
namespace Go.Proofs.YtehekppkicjimaaDoor.QFK
open Go.RowKit Go.Proofs.YtehekppkicjimaaDoorW.PrintWords Go.Proofs.YtehekppkicjimaaDoorW.PrintLast Go.Proofs.YtehekppkicjimaaDoorW.PrintMore
open Go.Deep
set_option linter.unusedVariables false
set_option linter.unusedSimpArgs false
theorem meth94 (vs : Array Value) (W : World) : (method 277 94 (.agg vs) "optima/finite.narrow").run Tryd.prog W = .ok (92, .agg vs) W := by kernel_rfl
theorem meth95 (vs : Array Value) (W : World) : (method 277 95 (.agg vs) "optima/finite.narrow").run Tryd.prog W = .ok (100, .agg vs) W := by kernel_rfl
theorem meth96 (vs : Array Value) (W : World) : (method 277 96 (.agg vs) "optima/finite.narrow").run Tryd.prog W = .ok (106, .agg vs) W := by kernel_rfl
theorem meth97 (vs : Array Value) (W : World) : (method 277 97 (.agg vs) "optima/finite.narrow").run Tryd.prog W = .ok (110, .agg vs) W := by kernel_rfl
theorem meth98 (vs : Array Value) (W : World) : (method 277 98 (.agg vs) "optima/finite.narrow").run Tryd.prog W = .ok (118, .agg vs) W := by kernel_rfl
theorem meth_any (kd : Int) (vs : Array Value) (W : World) : (method 277 (ruleT kd) (.agg vs) "optima/finite.narrow").run Tryd.prog W = .ok (methF kd, .agg vs) W := by
  unfold ruleT methF
  by_cases k1 : kd = 1
  · rw [if_pos k1, if_pos k1]; exact meth94 vs W
  · rw [if_neg k1, if_neg k1]
    by_cases k2 : kd = 2
    · rw [if_pos k2, if_pos k2]; exact meth95 vs W
    · rw [if_neg k2, if_neg k2]
      by_cases k3 : kd = 3
      · rw [if_pos k3, if_pos k3]; exact meth96 vs W
      · rw [if_neg k3, if_neg k3]
        by_cases k4 : kd = 4
        · rw [if_pos k4, if_pos k4]; exact meth97 vs W
        · rw [if_neg k4, if_neg k4]; exact meth98 vs W
theorem meth_enters (kd : Int) (ar : Array Value) (W : World) : (callFunc (methF kd) ar).run Tryd.prog W = .ok (.enter (methF kd) ar) W := by
  unfold methF
  by_cases k1 : kd = 1
  · rw [if_pos k1]; exact enters_ Tryd.func92 (by kernel_rfl) (by kernel_rfl) ar W
  · rw [if_neg k1]
    by_cases k2 : kd = 2
    · rw [if_pos k2]; exact enters_ Tryd.func100 (by kernel_rfl) (by kernel_rfl) ar W
    · rw [if_neg k2]
      by_cases k3 : kd = 3
      · rw [if_pos k3]; exact enters_ Tryd.func106 (by kernel_rfl) (by kernel_rfl) ar W
      · rw [if_neg k3]
        by_cases k4 : kd = 4
        · rw [if_pos k4]; exact enters_ Tryd.func110 (by kernel_rfl) (by kernel_rfl) ar W
        · rw [if_neg k4]; exact enters_ Tryd.func118 (by kernel_rfl) (by kernel_rfl) ar W
def emptyB (L : List (List Int)) : Bool := L.any fun l => l.length == 0
theorem emptyB_no {L : List (List Int)} (h : emptyB L = false) : ∀ k : Int, 0 ≤ k → k < L.length → 0 < (rd_L1 L k).length := by
  intro k h0 h1
  have := List.any_eq_false.1 h (rd_L1 L k) (by
    have e : rd_L1 L k = L[k.toNat] := by simp [rd_L1, show k.toNat < L.length by omega]
    rw [e]; exact List.getElem_mem _)
  simp only [beq_iff_eq] at this
  omega
/-- what narrow leaves -/
def NarQ (w : World) (a g : Nat) (h : Value × Value) (L : List (List Int)) (sound : List Int → Prop) (cons : List S44) (e : Ending) (w' : World) : Prop :=
  ∃ b b' L' g', e = .returned (.bool b) ∧ Net w' a g' h L' ∧ Fr w w' a g ∧ (g' = g ∨ w.heap.size ≤ g') ∧ Red sound L L' b' ∧ b = (!emptyB L') ∧ (b = true → ∀ i : Nat, i < cons.length → (rd_T44 cons i).f0 = 1 → AllWay L' (rd_T44 cons i).f1 (rd_T44 cons i).f1.length)
set_option maxHeartbeats 16000000 in
set_option maxRecDepth 100000 in
theorem narrow_any {w0 w : World} {a g : Nat} {L : List (List Int)} {hv : Value} {Ac : Option Addr} {cons : List S44} {cc : Nat} (N : Net w a g (hv, .slice Ac cons.length cc) L) (hB : Below w0.heap.size w0 w) (ha : w0.heap.size ≤ a) (hg : w0.heap.size ≤ g)
    (HC : Kd.C k44 w0 Ac cons.length cons) (hcl : cons.length ≤ 100) (F : ∀ i : Nat, i < cons.length → Fine L.length (rd_T44 cons i).f0 (rd_T44 cons i).f1 (rd_T44 cons i).f2 (rd_T44 cons i).f3 (rd_T44 cons i).f4 (rd_T44 cons i).f5) (bl : ∀ i : Nat, i < cons.length → -100000000 ≤ (rd_T44 cons i).f4 ∧ (rd_T44 cons i).f4 ≤ 100000000)
    (G : Good1 L) (hL : L.length ≤ 60) (sound : List Int → Prop) (hs : ∀ x, sound x → ∀ i : Nat, i < cons.length → keepsB (rd_T44 cons i).f0 (rd_T44 cons i).f2 (rd_T44 cons i).f3 (rd_T44 cons i).f4 (rd_T44 cons i).f5 ((rd_T44 cons i).f1.map fun j => rd x j) = true) :
    Calls Tryd.prog 24 #[.pointer (some ⟨a, 0, none⟩)] w (NarQ w a g (hv, .slice Ac cons.length cc) L sound cons) := by
  have hu44 := Tryd.underlying44
  have hu54 := Tryd.underlying54
  have hu25 := Tryd.underlying25
  have HN := Aside0.mk N
  have HB := Aside0.mk hB
  have HCC := Aside0.mk HC
  have HCL := Aside0.mk hcl
  have HF := Aside0.mk F
  have HBL := Aside0.mk bl
  have HG := Aside0.mk G
  have HLL := Aside0.mk hL
  have HS := Aside0.mk hs
  clear N hB HC hcl F bl G hL hs
  go_enter Tryd.func24, Tryd.ntmps24
  go_wp2
  go_loopg [3] (total L + 1) (fun gk v3 wr => ∃ (ag bb : Bool) (L1 : List (List Int)) (g1 : Nat), v3 = .bool ag ∧ Aside0 (total L1 + (if ag then 1 else 0) ≤ gk) ∧ Aside0 (Net wr a g1 (hv, .slice Ac cons.length cc) L1) ∧ Aside0 (Fr w wr a g) ∧ Aside0 (g1 = g ∨ w.heap.size ≤ g1) ∧ Aside0 (Red sound L L1 bb) ∧
      Aside0 (ag = false → ∀ i : Nat, i < cons.length → (rd_T44 cons i).f0 = 1 → AllWay L1 (rd_T44 cons i).f1 (rd_T44 cons i).f1.length))
  case atStart => exact ⟨true, false, L, g, rfl, ⟨by simp⟩, HN, ⟨Fr.refl _ _ _⟩, ⟨.inl rfl⟩, ⟨Red.refl _ _⟩, ⟨fun e => by cases e⟩⟩
  case round =>
    obtain ⟨ag, bb, L1, g1, rfl, HGK, HN1, HF1, HG1, HR1, HW1⟩ := hrel
    obtain ⟨w1, rfl⟩ : ∃ w1 : World, w1 = wr := ⟨_, rfl⟩
    cases ag with
    | false =>
      have hm : L1.length ≤ 9223372036854775807 := by have := HR1.out.len; have := HLL.out; omega
      have HM := Aside0.mk hm
      clear hm
      go_wp2_with (go_at_call 37; (with_reducible refine (empty_any HN1.out HM.out).mono ?_); rintro e w' ⟨rfl, ⟨nd, rfl⟩⟩)
      go_ret
      exact ⟨_, bb, L1, g1, rfl, HN1.out.drewN _, HF1.out.trans (Fr.of_below (pw_below_drewN (Below.refl _ _) _) a g) (.inl rfl), HG1.out, HR1.out, rfl, fun _ => HW1.out (by simp)⟩
    | true =>
      obtain ⟨A9, cap9, eblk9, _, _⟩ := HN1.out.blk
      have hc1 : w1.cell? ⟨a, 1, none⟩ = some (.slice Ac cons.length cc) := by simpa using blk_cell eblk9 1
      have hg1 : w0.heap.size ≤ g1 := by have := HB.out.size; rcases HG1.out with h | h <;> omega
      have HG1' := Aside0.mk hg1
      have HB1 := Aside0.mk (below_of_fr HB.out HF1.out (Nat.le_refl _) ha hg)
      clear eblk9 hg1
      go_wp2
      clear hc1
      go_loopw [13, 3] (fun v13 v3 wr => ∃ (i : Nat) (b : Bool) (L2 : List (List Int)) (g2 : Nat), i ≤ cons.length ∧ v13 = .int .i64 i ∧ v3 = .bool b ∧ Aside0 (Net wr a g2 (hv, .slice Ac cons.length cc) L2) ∧ Aside0 (Fr w1 wr a g1) ∧ Aside0 (g2 = g1 ∨ w1.heap.size ≤ g2) ∧ Aside0 (Red sound L1 L2 b) ∧
          Aside0 (b = false → ∀ j : Nat, j < i → (rd_T44 cons j).f0 = 1 → AllWay L2 (rd_T44 cons j).f1 (rd_T44 cons j).f1.length)) (fun v13 _ _ => cons.length - (intOf v13).toNat)
      case atStart => exact ⟨0, false, L1, g1, Nat.zero_le _, rfl, rfl, HN1, ⟨Fr.refl _ _ _⟩, ⟨.inl rfl⟩, ⟨Red.refl _ _⟩, ⟨fun _ j hj => absurd hj (Nat.not_lt_zero _)⟩⟩
      case round =>
        obtain ⟨i, b, L2, g2, hi, rfl, rfl, HN2, HF2, HG2, HR2, HW2⟩ := hrel
        obtain ⟨w2, rfl⟩ : ∃ w2 : World, w2 = wr := ⟨_, rfl⟩
        by_cases hlt : i < cons.length
        · have hB2 := below_of_fr HB1.out HF2.out (Nat.le_refl _) ha HG1'.out
          have HB2 := Aside0.mk hB2
          obtain ⟨adc, A1, c1, A2, c2, A3, c3, A5, c5, ec, hx0, hx1, hx2, hx3, hx4, hx5, l1, C1, l2, C2, l3, C3, l5, C5⟩ := at_T44 HCC.out (i : Int) (by omega) (by omega)
          cases ec
          simp only [Int.toNat_natCast] at hx0 hx1 hx2 hx3 hx4 hx5
          replace hx0 := (hB2.cell (World.block_lt_of_cell? w0 _ hx0)).trans hx0
          replace hx1 := (hB2.cell (World.block_lt_of_cell? w0 _ hx1)).trans hx1
          replace hx2 := (hB2.cell (World.block_lt_of_cell? w0 _ hx2)).trans hx2
          replace hx3 := (hB2.cell (World.block_lt_of_cell? w0 _ hx3)).trans hx3
          replace hx4 := (hB2.cell (World.block_lt_of_cell? w0 _ hx4)).trans hx4
          replace hx5 := (hB2.cell (World.block_lt_of_cell? w0 _ hx5)).trans hx5
          have HFi := Aside0.mk (HF.out i hlt)
          have HBLi := Aside0.mk (HBL.out i hlt)
          have HSi := Aside0.mk (show ∀ x, sound x → _ from fun x hx => HS.out x hx i hlt)
          obtain ⟨cn, ecn⟩ : ∃ cn, cn = rd_T44 cons i := ⟨_, rfl⟩
          rw [← ecn] at hx0 hx1 hx2 hx3 hx4 hx5 l1 C1 l2 C2 l3 C3 l5 C5 HFi HBLi HSi
          have ECN := Aside0.mk ecn
          have CC1 := Aside0.mk C1
          have CC2 := Aside0.mk C2
          have CC3 := Aside0.mk C3
          have CC5 := Aside0.mk C5
          have CL1 := Aside0.mk l1
          have CL5 := Aside0.mk l5
          have HLT := Aside0.mk hlt
          have HLen2 := Aside0.mk (show L2.length = L.length from HR2.out.len.trans HR1.out.len)
          have HNA := Aside0.mk (HN2.out.below (below_alloc (Below.refl _ w2) (.cells #[.int .i64 cn.f0, .slice A1 cn.f1.length c1, .slice A2 cn.f2.length c2, .slice A3 cn.f3.length c3, .int .i64 cn.f4, .slice A5 cn.f5.length c5] 44)))
          have HM2 := Aside0.mk (show L2.length ≤ 9223372036854775807 by have := HLen2.out; have := HLL.out; omega)
          have HWW := Aside0.mk (show wrap64 ((i : Int) + 1) = ((i + 1 : Nat) : Int) by have := HCL.out; unfold wrap64; omega)
          have hil : ((i : Int) < (cons.length : Int)) = True := eq_true (by omega)
          clear ecn C1 C2 C3 C5 l1 l2 l3 l5 hB2 hi
          cases hE : emptyB L2 with
          | true =>
            have HE := Aside0.mk hE
            have hee : (L2.any fun l => l.length == 0) = true := hE
            clear hE
            go_wp2_with (go_at_call 37; (with_reducible refine (empty_any HNA.out HM2.out).mono ?_); rintro e w' ⟨rfl, ⟨nd, rfl⟩⟩)
            go_ret
            have hb : Below w2.heap.size w2 ((w2.alloc (.cells #[.int .i64 cn.f0, .slice A1 cn.f1.length c1, .slice A2 cn.f2.length c2, .slice A3 cn.f3.length c3, .int .i64 cn.f4, .slice A5 cn.f5.length c5] 44)).drewN nd) := pw_below_drewN (below_alloc (Below.refl _ _) _) _
            have hff := HF1.out.trans (HF2.out.trans (Fr.of_below hb a g1) (.inl rfl)) HG1.out
            exact ⟨false, bb || b, L2, g2, rfl, HN2.out.below hb, hff, by have := HF1.out.size; have := HG1.out; have := HG2.out; omega, HR1.out.trans HR2.out, by rw [HE.out]; rfl, fun e => by cases e⟩
          | false =>
            have HE := Aside0.mk hE
            have hee : (L2.any fun l => l.length == 0) = false := hE
            have HRUL := Aside0.mk (show ∀ W : World, Below w2.heap.size w2 W → Calls Tryd.prog (methF cn.f0) #[.agg #[.int .i64 cn.f0, .slice A1 cn.f1.length c1, .slice A2 cn.f2.length c2, .slice A3 cn.f3.length c3, .int .i64 cn.f4, .slice A5 cn.f5.length c5], .pointer (some ⟨a, 0, none⟩)] W (RuleQ W a g2 (hv, .slice (some adc) cons.length cc) L2 sound (cn.f0 = 1 → AllWay L2 cn.f1 cn.f1.length)) from fun W hW =>
              rule_any (w0 := w0) (HN2.out.below hW) (HB2.out.trans (hW.mono HB2.out.size)) ha (by have := HG1'.out; have := HB1.out.size; rcases HG2.out with h | h <;> omega) cn.f0 A1 c1 cn.f1 A2 c2 cn.f2 A3 c3 cn.f3 cn.f4 A5 c5 cn.f5 CL1.out CC1.out CC2.out CC3.out CL5.out CC5.out (by rw [HLen2.out]; exact HFi.out) HBLi.out (HR2.out.good (HR1.out.good HG.out)) (by have := HLen2.out; have := HLL.out; omega) (emptyB_no hE) sound HSi.out)
            have hme := fun (vs : Array Value) (W : World) => meth_any cn.f0 vs W
            have hent := meth_enters cn.f0
            clear hE
            go_wp2_with (first
              | (go_at_call 37; (with_reducible refine (empty_any HNA.out HM2.out).mono ?_); rintro e w' ⟨rfl, ⟨nd, rfl⟩⟩)
              | (go_at_call 38; (with_reducible refine (ruleOf_any cn.f0 cn.f4 A1 _ c1 A2 _ c2 A3 _ c3 A5 _ c5 _).mono ?_); rintro e w3 ⟨rfl, hb3⟩; have HB3 := Aside0.mk (below_step (pw_below_drewN (below_alloc (Below.refl _ w2) _) _) hb3); clear hb3)
              | ((with_reducible refine (HRUL.out _ HB3.out).mono ?_); rintro e w4 ⟨b4, L4, g4, rfl, hn4, hf4, hg4, hr4, hx4⟩; have HN4 := Aside0.mk hn4; have HF4 := Aside0.mk hf4; have HG4 := Aside0.mk hg4; have HR4 := Aside0.mk hr4; have HX4 := Aside0.mk hx4; clear hn4 hf4 hg4 hr4 hx4))
            · have hb4 : b4 = true := by assumption
              subst hb4
              have hw := HWW.out
              refine ⟨⟨i + 1, true, L4, g4, by have := HLT.out; omega, by rw [hw], rfl, HN4, ⟨HF2.out.trans ((Fr.of_below HB3.out a g2).trans HF4.out (.inl rfl)) HG2.out⟩, ⟨by have := HG4.out; have := HG2.out; have := HF2.out.size; have := HB3.out.size; omega⟩, ⟨by have := HR2.out.trans HR4.out; rw [Bool.or_true] at this; exact this⟩, ⟨fun e => by cases e⟩⟩, ?_⟩
              rw [hw]; have := HLT.out; simp [intOf]; omega
            · have hb4 : b4 = false := by assumption
              subst hb4
              have hw := HWW.out
              refine ⟨⟨i + 1, b, L4, g4, by have := HLT.out; omega, by rw [hw], rfl, HN4, ⟨HF2.out.trans ((Fr.of_below HB3.out a g2).trans HF4.out (.inl rfl)) HG2.out⟩, ⟨by have := HG4.out; have := HG2.out; have := HF2.out.size; have := HB3.out.size; omega⟩, ⟨by have := HR2.out.trans HR4.out; rw [Bool.or_false] at this; exact this⟩, ⟨fun e j hj hk => ?_⟩⟩, ?_⟩
              · rw [HR4.out.same rfl]
                by_cases hji : j = i
                · rw [hji, ← ECN.out]
                  rw [hji, ← ECN.out] at hk
                  exact HX4.out rfl hk
                · exact HW2.out e j (by omega) hk
              · rw [hw]; have := HLT.out; simp [intOf]; omega
        · obtain rfl : i = cons.length := by omega
          go_wp2
          go_roundg (total L2 + if b then 1 else 0)
          case rel => exact ⟨b, bb || b, L2, g2, rfl, ⟨Nat.le_refl _⟩, HN2, ⟨HF1.out.trans HF2.out HG1.out⟩, ⟨by have := HG1.out; have := HG2.out; have := HF1.out.size; omega⟩, ⟨HR1.out.trans HR2.out⟩, HW2⟩
          case measure =>
            have h1 := HGK.out
            have h2 := HR2.out.le
            simp only [if_true] at h1
            cases b with
            | true => have := HR2.out.less rfl; simp only [if_true]; omega
            | false => simp only [Bool.false_eq_true, if_false]; omega
end Go.Proofs.YtehekppkicjimaaDoor.QFK
