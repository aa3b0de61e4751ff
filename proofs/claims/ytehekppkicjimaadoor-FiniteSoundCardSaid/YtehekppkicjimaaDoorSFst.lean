/- The walk of finite.first: the least sound row within the lists. Conditions: the puzzle is well formed. -/
import Derived.Test.YtehekppkicjimaaDoorSFsl
import Derived.WalkSpells
import Derived.StillTailTactics
namespace Go.Proofs.YtehekppkicjimaaDoor.QFK
open Go.RowKit Go.Proofs.YtehekppkicjimaaDoorW.PrintWords Go.Proofs.YtehekppkicjimaaDoorW.PrintLast Go.Proofs.YtehekppkicjimaaDoorW.PrintMore
open Go.Deep
set_option linter.unusedVariables false
set_option linter.unusedSimpArgs false
theorem some_of_R {w : World} {base : Nat} {ok : Nat → Prop} {v : Value} {xs : List Int} (h : Kd.R (Kd.int .i64) 3 w base ok v xs) (hx : xs ≠ []) : ∃ ad k c, v = .slice (some ad) k c := by
  obtain ⟨A, c, e, hl, hC⟩ := Kd.R_reads h
  obtain ⟨ad, e2, _⟩ := hC.2.2 (List.length_pos_iff.2 hx)
  exact ⟨ad, _, c, by rw [e, e2]⟩
set_option maxHeartbeats 16000000 in
set_option maxRecDepth 100000 in
theorem first_any {w0 : World} {n : Nat} {A0 : Option Addr} {n0 c0 : Nat} {Ac : Option Addr} {cons : List S44} {cc : Nat} (HC : Kd.C k44 w0 Ac cons.length cons) (hcl : cons.length ≤ 100)
    (F : ∀ i : Nat, i < cons.length → Fine n (rd_T44 cons i).f0 (rd_T44 cons i).f1 (rd_T44 cons i).f2 (rd_T44 cons i).f3 (rd_T44 cons i).f4 (rd_T44 cons i).f5) (bl : ∀ i : Nat, i < cons.length → -100000000 ≤ (rd_T44 cons i).f4 ∧ (rd_T44 cons i).f4 ≤ 100000000)
    (hn : n ≤ 60) (ks : List Int → Bool) (hs : ∀ x, x.length = n → ks x = true → ∀ i : Nat, i < cons.length → keepsB (rd_T44 cons i).f0 (rd_T44 cons i).f2 (rd_T44 cons i).f3 (rd_T44 cons i).f4 (rd_T44 cons i).f5 ((rd_T44 cons i).f1.map fun j => rd x j) = true)
    (hK : ∀ (W : World) (A : Option Addr) (c : Nat) (x : List Int), Below w0.heap.size w0 W → x.length = n → Kd.C (Kd.int .i64) W A x.length x → x.length ≤ c → Calls Tryd.prog 5 #[.agg #[.slice A0 n0 c0, .slice Ac cons.length cc], .slice A x.length c] W fun e w' => ∃ v, e = .returned (.tuple #[.bool (ks x), v]) ∧ Below W.heap.size W w')
    (m : Nat) : ∀ (w : World) (a g : Nat) (L : List (List Int)), Net w a g (.slice A0 n0 c0, .slice Ac cons.length cc) L → Below w0.heap.size w0 w → w0.heap.size ≤ a → w0.heap.size ≤ g → Good1 L → L.length = n → total L < m →
    Calls Tryd.prog 25 #[.pointer (some ⟨a, 0, none⟩)] w (FirstQ w a g L (fun x => x.length = n ∧ ks x = true)) := by
  have HCC := Aside0.mk HC
  have HCL := Aside0.mk hcl
  have HF := Aside0.mk F
  have HBL := Aside0.mk bl
  have HNN := Aside0.mk hn
  have HS := Aside0.mk hs
  have HK := Aside0.mk hK
  clear HC hcl F bl hn hs hK
  induction m with
  | zero => intro w a g L N hB ha hg G hL hm; omega
  | succ m IH =>
    intro w a g L N hB ha hg G hL hm
    obtain ⟨S, eS⟩ : ∃ S : List Int → Prop, S = fun x => x.length = n ∧ ks x = true := ⟨_, rfl⟩
    rw [← eS]
    rw [← eS] at IH
    have HIH := Aside0.mk IH
    have ES := Aside0.mk eS
    have HN := Aside0.mk N
    have HB := Aside0.mk hB
    have HG := Aside0.mk G
    have HL := Aside0.mk hL
    have HM := Aside0.mk hm
    have HA := Aside0.mk ha
    have HGG := Aside0.mk hg
    have NAR := Aside0.mk (narrow_any N hB ha hg HCC.out HCL.out (by rw [hL]; exact HF.out) HBL.out G (by rw [hL]; exact HNN.out) S (by rw [eS]; exact fun x hx => HS.out x hx.1 hx.2))
    have hu54 := Tryd.underlying54
    have hu26 := Tryd.underlying26
    have hu22 := Tryd.underlying22
    have hu25 := Tryd.underlying25
    have q26 : ∀ (w : World) (a : Option Addr) (n c n' c' : Nat), (binOp .neq 26 (.slice a n c) (.slice none n' c')).run Tryd.prog w = .ok (.bool (!a.isNone)) w := fun w a n c n' c' => run_neq_slice_nil_any w _ _ a n c n' c' Tryd.underlying26
    clear IH eS N hB G hL hm ha hg
    go_enter Tryd.func25, Tryd.ntmps25
    go_wp2_with (go_at_call 24; (with_reducible refine NAR.out.mono ?_); rintro e w1 ⟨b, b', L1, g1, rfl, hn1, hf1, hg1, hr1, hb1, _⟩; obtain ⟨Ar, cr, erb, hlr, hAr⟩ := hn1.blk; have hc2 : w1.cell? ⟨a, 2, none⟩ = some (.slice Ar L1.length cr) := (by simpa using blk_cell erb 2); have HN1 := Aside0.mk hn1; have HF1 := Aside0.mk hf1; have HG1 := Aside0.mk hg1; have HR1 := Aside0.mk hr1; have HB1 := Aside0.mk hb1; have HAR := Aside0.mk hAr; have HRB := Aside0.mk erb; clear hn1 hf1 hg1 hr1 hb1 erb hlr hAr; cases b)
    · go_ret
      refine ⟨HF1.out, .inl ⟨rfl, fun x hx hin => ?_⟩⟩
      have h1 := HR1.out.sol x hx hin
      have h2 : emptyB L1 = true := by have := HB1.out; revert this; cases emptyB L1 <;> decide
      obtain ⟨l, hl, h3⟩ := List.any_eq_true.1 h2
      obtain ⟨i, hi, rfl⟩ := List.mem_iff_getElem.1 hl
      have h4 := h1 i (by have := HR1.out.len; omega)
      have h5 : L1[i] = [] := List.eq_nil_of_length_eq_zero (by simpa using h3)
      rw [rdL1_get L1 i hi, h5] at h4
      cases h4
    · have HSB := Aside0.mk (show Red S L L1 b' ∧ emptyB L1 = false from ⟨HR1.out, by have := HB1.out; revert this; cases emptyB L1 <;> decide⟩)
      have HLN := Aside0.mk (show L1.length = n from HR1.out.len.trans HL.out)
      have HGD := Aside0.mk (HR1.out.good HG.out)
      have HBW := Aside0.mk (below_of_fr HB.out HF1.out (Nat.le_refl _) HA.out HGG.out)
      have HG1' := Aside0.mk (show w0.heap.size ≤ g1 by have := HB.out.size; have := HGG.out; rcases HG1.out with h | h <;> omega)
      go_loopw [22] (fun v22 wr => ∃ i : Nat, i ≤ L1.length ∧ v22 = .int .i64 i ∧ Aside0 (∀ j : Nat, j < i → (rd_L1 L1 j).length = 1) ∧ wr = w1) (fun v22 _ => L1.length - (intOf v22).toNat)
      case atStart => exact ⟨0, Nat.zero_le _, rfl, ⟨fun j hj => absurd hj (Nat.not_lt_zero _)⟩, rfl⟩
      case round =>
        obtain ⟨i, hi, rfl, HONE, rfl⟩ := hrel
        obtain ⟨wn, rfl⟩ : ∃ x : World, x = wr := ⟨_, rfl⟩
        by_cases hlt : i < L1.length
        · have hA := HAR.out (by intro e; rw [e] at hlt; exact absurd hlt (Nat.not_lt_zero _))
          subst hA
          obtain ⟨_, _, A1, c1, _, _, hck, hl1, hC1⟩ := HN1.out.at (i : Int) (by omega) (by omega)
          simp only [Int.toNat_natCast] at hck
          obtain ⟨l, el⟩ : ∃ l, l = rd_L1 L1 i := ⟨_, rfl⟩
          rw [← el] at hck hl1 hC1
          have EL := Aside0.mk el
          have HLT := Aside0.mk hlt
          have HC1 := Aside0.mk hC1
          have HWW := Aside0.mk (show wrap64 ((i : Int) + 1) = ((i + 1 : Nat) : Int) by have := HLN.out; have := HNN.out; unfold wrap64; omega)
          clear el hl1 hC1 hi
          by_cases hone : l.length = 1
          · have h1i : ((l.length : Int) == 1) = true := by rw [hone]; rfl
            have HON := Aside0.mk hone
            clear hone
            go_wp2
            have hw := HWW.out
            go_roundw
            case rel => exact ⟨i + 1, HLT.out, by rw [hw], ⟨fun j hj => by
              by_cases h : j = i
              · rw [h, ← EL.out]; exact HON.out
              · exact HONE.out j (by omega)⟩, trivial⟩
            case measure => rw [hw]; have := HLT.out; simp [intOf]; omega
          · have h1i : ((l.length : Int) == 1) = false := by rw [beq_eq_false_iff_ne]; omega
            have HON := Aside0.mk hone
            have HL200 := Aside0.mk (show l.length ≤ 200 by rw [EL.out]; exact HGD.out.len i)
            have HN0 := Aside0.mk (show L1 ≠ [] by intro e; rw [e] at hlt; exact absurd hlt (Nat.not_lt_zero _))
            clear hone
            go_wp2
            go_loopw [32] (fun v32 W => ∃ j : Nat, j ≤ l.length ∧ v32 = .int .i64 j ∧ Aside0 (∀ p : Nat, p < j → ∀ x, S x → ¬ inL (L1.set i [rd l p]) x) ∧ Aside0 (Below wn.heap.size wn W)) (fun v32 _ => l.length - (intOf v32).toNat)
            case atStart => exact ⟨0, Nat.zero_le _, rfl, ⟨fun p hp => absurd hp (Nat.not_lt_zero _)⟩, ⟨Below.refl _ _⟩⟩
            case round =>
              obtain ⟨j, hj, rfl, HNO, HBW2⟩ := hrel
              obtain ⟨W1, rfl⟩ : ∃ W1 : World, W1 = wr := ⟨_, rfl⟩
              by_cases hjl : j < l.length
              · obtain ⟨adl, el, hcv⟩ := Kd.at_int HC1.out (j : Int) (by omega) (by omega)
                cases el
                simp only [Int.toNat_natCast] at hcv
                replace hcv := (HBW2.out.cell (World.block_lt_of_cell? _ _ hcv)).trans hcv
                obtain ⟨v, ev⟩ : ∃ v, v = rd l j := ⟨_, rfl⟩
                rw [← ev] at hcv
                have EV := Aside0.mk ev
                have HVM := Aside0.mk (show v ∈ rd_L1 L1 i by rw [← EL.out, ev, rd_in hjl]; exact List.getElem_mem _)
                have HJL := Aside0.mk hjl
                have HW2 := Aside0.mk (show wrap64 ((j : Int) + 1) = ((j + 1 : Nat) : Int) by have := HL200.out; unfold wrap64; omega)
                have erb := (HBW2.out.block a HN1.out.lt).trans HRB.out
                have hc0 : W1.cell? ⟨a, 0, none⟩ = some (.slice A0 n0 c0) := by simpa using blk_cell erb 0
                have hc1 : W1.cell? ⟨a, 1, none⟩ = some (.slice Ac cons.length cc) := by simpa using blk_cell erb 1
                have hc2 : W1.cell? ⟨a, 2, none⟩ = some (.slice (some ⟨g1, 0, none⟩) L1.length cr) := by simpa using blk_cell erb 2
                have hf0 := blk_frozen erb 0
                have hf1 := blk_frozen erb 1
                have hf2 := blk_frozen erb 2
                have HERB := Aside0.mk erb
                have HLE := Aside0.mk (show L1.length ≤ 60 by have := HLN.out; have := HNN.out; omega)
                clear ev erb hj
                go_wp2_with fail
                go_region_law ((go_simp; go_at_call 39; (with_reducible refine (clone_net HN1.out HN0.out HLE.out ?hW cr).mono ?_); (case hW => exact (by repeat (first | exact HBW2.out | apply below_drew | apply pw_below_drewN))); rintro e w2 ⟨g2, c2, rfl, hg2, hn2, hb2⟩; have HG2 := Aside0.mk hg2; have HN2 := Aside0.mk hn2; have HB2 := Aside0.mk (below_step (below_drew (Below.refl _ W1)) hb2); have erb2 := (HB2.out.block a (blk_lt HERB.out)).trans HERB.out; have hd0 : w2.cell? ⟨a, 0, none⟩ = some (.slice A0 n0 c0) := (by simpa using blk_cell erb2 0); have hd1 : w2.cell? ⟨a, 1, none⟩ = some (.slice Ac cons.length cc) := (by simpa using blk_cell erb2 1); have hd2 := blk_frozen erb2 0; have hd3 := blk_frozen erb2 1; clear hg2 hn2 hb2 erb2))
                all_goals
                  have HN3 := Aside0.mk (show Net (w2.alloc (.cells #[.slice A0 n0 c0, .slice Ac cons.length cc, .slice (some ⟨g2, 0, none⟩) L1.length c2] 54)) w2.heap.size g2 (.slice A0 n0 c0, .slice Ac cons.length cc) L1 from HN2.out)
                  have HAB := Aside0.mk (below_alloc (Below.refl w2.heap.size w2) (.cells #[.slice A0 n0 c0, .slice Ac cons.length cc, .slice (some ⟨g2, 0, none⟩) L1.length c2] 54))
                  have h3c : (w2.alloc (.cells #[.slice A0 n0 c0, .slice Ac cons.length cc, .slice (some ⟨g2, 0, none⟩) L1.length c2] 54)).cell? ⟨w2.heap.size, 2, none⟩ = some (.slice (some ⟨g2, 0, none⟩) L1.length c2) := by
                    have := blk_cell (blk_new w2 (.cells #[.slice A0 n0 c0, .slice Ac cons.length cc, .slice (some ⟨g2, 0, none⟩) L1.length c2] 54)) 2
                    exact this
                  have HG2' := Aside0.mk (show W1.heap.size ≤ g2 from HG2.out)
                  obtain ⟨w3, e3⟩ : ∃ w3, w3 = w2.alloc (.cells #[.slice A0 n0 c0, .slice Ac cons.length cc, .slice (some ⟨g2, 0, none⟩) L1.length c2] 54) := ⟨_, rfl⟩
                  rw [← e3] at HN3 HAB h3c
                  rw [← e3]
                  obtain ⟨a2, ea2⟩ : ∃ a2, a2 = w2.heap.size := ⟨_, rfl⟩
                  have EA2 := Aside0.mk ea2
                  rw [← ea2] at HN3 h3c
                  rw [← ea2]
                  have hN4 := HN3.out.below (below_alloc (Below.refl _ w3) (.cells #[.int .i64 v] 3))
                  obtain ⟨_, _, A4, c4, _, _, h4c, _, _⟩ := hN4.at (i : Int) (by omega) (by omega)
                  simp only [Int.toNat_natCast] at h4c
                  obtain ⟨cells4, er4, _⟩ := hN4.row HN0.out
                  have h4f := blk_frozen er4 i
                  have HPUT := Aside0.mk (HN3.out.put (below_alloc (Below.refl _ w3) (.cells #[.int .i64 v] 3)) i HLT.out (lit1 w3 v))
                  have HBX := Aside0.mk (show Below wn.heap.size wn ((w3.alloc (.cells #[.int .i64 v] 3)).setCell ⟨g2, i, none⟩ (.slice (some ⟨w3.heap.size, 0, none⟩) 1 1)) from HBW2.out.trans ((HB2.out.trans ((HAB.out.mono HB2.out.size).trans ((below_alloc (Below.refl _ w3) _).mono (Nat.le_trans HB2.out.size HAB.out.size)))).mono HBW2.out.size |>.setCell (p := ⟨g2, i, none⟩) (by show wn.heap.size ≤ g2; have := HBW2.out.size; have := HG2'.out; omega) _))
                  clear e3 ea2 hN4 er4 hd0 hd1 hd2 hd3 hc0 hc1 hc2 hf0 hf1 hf2 HN2
                  have HTOT : total (L1.set i [v]) < m := by
                    have h1 := total_set L1 i HLT.out [v]
                    have h2 := HR1.out.le
                    have h3 := HM.out
                    have h4 := emptyB_no HSB.out.2 i (by omega) (by have := HLT.out; omega)
                    rw [← EL.out] at h1 h4
                    have h5 := HON.out
                    simp only [List.length_singleton] at h1
                    omega
                  have hsz1 := HB.out.size
                  have hsz2 := HF1.out.size
                  have hsz3 := HBW2.out.size
                  have hsz4 := HB2.out.size
                  have REC := Aside0.mk (HIH.out _ a2 g2 (L1.set i [v]) HPUT.out.1 (HBW.out.trans (HBX.out.mono HBW.out.size)) (by rw [EA2.out]; omega) (by have := HG2'.out; omega) (good_set HGD.out HLT.out HVM.out) (by rw [List.length_set]; exact HLN.out) HTOT)
                  have HA2 := Aside0.mk (show wn.heap.size ≤ a2 by rw [EA2.out]; omega)
                  have HG2w := Aside0.mk (show wn.heap.size ≤ g2 by have := HG2'.out; omega)
                  clear HTOT hsz1 hsz2 hsz3 hsz4
                  go_wp2_with (go_at_call 25; (with_reducible refine REC.out.mono ?_); rintro e w5 ⟨hf5, hx⟩; have HF5 := Aside0.mk (hf5.below HBX.out.size HA2.out HG2w.out); clear hf5; (rcases hx with ⟨rfl, hno⟩ | ⟨adx, cx, x, rfl, hx1, hx2, hx3⟩) <;> (first | have HNO2 := Aside0.mk hno | (have HX1 := Aside0.mk hx1; have HX2 := Aside0.mk hx2; have HX3 := Aside0.mk hx3; clear hx1 hx2 hx3)))
                  · have hw := HW2.out
                    go_roundw
                    case rel =>
                      refine ⟨j + 1, HJL.out, by rw [hw], ⟨fun p hp => ?_⟩, ⟨HBX.out.trans HF5.out⟩⟩
                      by_cases h : p = j
                      · rw [h, ← EV.out]; exact HNO2.out
                      · exact HNO.out p (by omega)
                    case measure => rw [hw]; have := HJL.out; simp [intOf]; omega
                  · go_ret
                    refine ⟨HF1.out.trans (Fr.of_below (HBX.out.trans HF5.out) a g1) HG1.out, .inr ⟨adx, cx, x, rfl, HX1.out, HX2.out, best_red HR1.out (best_branch (j := j) (fun x hx => ?_) HLT.out HONE.out (HGD.out.asc i) ?_ ?_ ?_)⟩⟩
                    · rw [ES.out] at hx; rw [HLN.out]; exact hx.1
                    · rw [← EL.out]; exact HJL.out
                    · rw [← EL.out]; exact HNO.out
                    · rw [← EL.out, ← EV.out]; exact HX3.out
              · obtain rfl : j = l.length := by omega
                go_wp2
                go_ret
                refine ⟨HF1.out.trans (Fr.of_below HBW2.out a g1) HG1.out, .inl ⟨rfl, none_red HR1.out (none_branch HLT.out ?_)⟩⟩
                rw [← EL.out]; exact HNO.out
        · obtain rfl : i = L1.length := by omega
          have hlb : wn.heap[a]? = some (.cells #[.slice A0 n0 c0, .slice Ac cons.length cc, .slice Ar L1.length cr] 54 (0, 0)) := HRB.out
          have HLE := Aside0.mk (show L1.length ≤ 60 by have := HLN.out; have := HNN.out; omega)
          replace hc2 := Lib.cell?_alloc_some (.cells #[] 3) hc2
          go_wp2
          clear hc2
          go_loopw [68, 9] (fun v68 v9 W => ∃ j : Nat, j ≤ L1.length ∧ v68 = .int .i64 j ∧ Aside0 (Kd.R (Kd.int .i64) 3 W wn.heap.size (fun _ => True) v9 ((heads L1).take j)) ∧ Aside0 (∃ ad k c, v9 = .slice (some ad) k c) ∧ Aside0 (Below wn.heap.size wn W)) (fun v68 _ _ => L1.length - (intOf v68).toNat)
          case atStart =>
            refine ⟨0, Nat.zero_le _, rfl, ⟨?_⟩, ⟨_, _, _, rfl⟩, ⟨below_alloc (Below.refl _ _) _⟩⟩
            have := World.ownsRow_lit (base := wn.heap.size) (e := 3) (size := 1) wn #[] 0 (Nat.le_refl _) (by decide) rfl
            exact Kd.R_of_own (by simpa [encs] using this) (fun _ _ => trivial)
          case round =>
            obtain ⟨j, hj, rfl, HR, HSO, HBW2⟩ := hrel
            obtain ⟨W1, rfl⟩ : ∃ W1 : World, W1 = wr := ⟨_, rfl⟩
            obtain ⟨ms, ems⟩ : ∃ ms, ms = (heads L1).take j := ⟨_, rfl⟩
            rw [← ems] at HR
            have EMS := Aside0.mk ems
            have HML := Aside0.mk (show ms.length ≤ j by rw [ems, List.length_take]; omega)
            obtain ⟨Av, cv, rfl⟩ := Kd.R_slice HR.out
            obtain ⟨adv, _, _, hsv⟩ := HSO.out
            have hAv : Av = some adv := by injection hsv
            subst hAv
            clear hsv
            by_cases hlt : j < L1.length
            · have hA := HAR.out (by intro e; rw [e] at hlt; exact absurd hlt (Nat.not_lt_zero _))
              subst hA
              obtain ⟨_, _, A1, c1, _, _, hck, hl1, hC1⟩ := HN1.out.at (j : Int) (by omega) (by omega)
              simp only [Int.toNat_natCast] at hck
              have hone := HONE.out j hlt
              obtain ⟨ad1, e1, hcv⟩ := Kd.at_int hC1 (0 : Int) (by omega) (by omega)
              cases e1
              obtain ⟨l, el⟩ : ∃ l, l = rd_L1 L1 j := ⟨_, rfl⟩
              rw [← el] at hck hcv hone
              have EL := Aside0.mk el
              replace hck := (HBW2.out.cell (World.block_lt_of_cell? _ _ hck)).trans hck
              replace hcv := (HBW2.out.cell (World.block_lt_of_cell? _ _ hcv)).trans hcv
              obtain ⟨v, ev⟩ : ∃ v, v = rd l 0 := ⟨_, rfl⟩
              rw [← ev] at hcv
              have EV := Aside0.mk ev
              have HLT := Aside0.mk hlt
              have HWW := Aside0.mk (show wrap64 ((j : Int) + 1) = ((j + 1 : Nat) : Int) by have := HLE.out; unfold wrap64; omega)
              simp only [Int.toNat_zero] at hcv
              have hcv0 : W1.cell? ad1 = some (.int .i64 v) := by simpa [Addr.add] using hcv
              rw [hone] at hck
              clear el hl1 hC1 ev ems hone hj
              go_wp2_with ((with_reducible refine gate_builtin (b := .append) (xs := #[.tmp 72, .tmp 76]) rfl ?_); at_builtin; refine Kd.R_append (Kd.int .i64) (w0 := wn) wn.heap.size rfl (.tmp 72) (.tmp 76) 26 3 (.int .i64 0) 8 rfl Tryd.underlying26 info3 rfl (by decide) (by omega) (.slice (some adv) ms.length cv) ms v [.int .i64 v] (fun _ => True) (fun _ => False) rfl rfl ?aP (fun _ hk => hk.elim) ?aF ?aO ?aB ?aS ?aL ?_; (case aP => exact rfl); (case aB => exact (by repeat (first | exact HBW2.out | apply below_alloc | apply below_drew | apply pw_below_drewN))); (case aF => exact (fun _ _ => trivial)); (case aO => exact (by (with_reducible repeat (first | apply Kd.R_alloc | apply Kd.R_drewN | apply Kd.R_drew)); exact HR.out)); (case aS => exact (below_size (by repeat (first | exact HBW2.out | apply below_alloc | apply below_drew | apply pw_below_drewN)))); (case aL => have := HML.out; have := HLT.out; have := HLE.out; omega); intro v1 w3 ho hb hg hat; have HR3 := Aside0.mk ho; have HB3 := Aside0.mk hb; clear ho hb hg hat)
              have hw := HWW.out
              go_roundw
              case rel =>
                refine ⟨j + 1, HLT.out, by rw [hw], ⟨?_⟩, ⟨some_of_R HR3.out (by simp)⟩, ⟨HB3.out⟩⟩
                rw [heads_took HLT.out, ← EMS.out, ← EL.out, ← EV.out]; exact HR3.out
              case measure => rw [hw]; have := HLT.out; simp [intOf]; omega
            · obtain rfl : j = L1.length := by omega
              have hlb : W1.heap[a]? = some (.cells #[.slice A0 n0 c0, .slice Ac cons.length cc, .slice Ar L1.length cr] 54 (0, 0)) := (HBW2.out.block a HN1.out.lt).trans HRB.out
              have hc0 : W1.cell? ⟨a, 0, none⟩ = some (.slice A0 n0 c0) := by simpa using blk_cell hlb 0
              have hc1 : W1.cell? ⟨a, 1, none⟩ = some (.slice Ac cons.length cc) := by simpa using blk_cell hlb 1
              have hxx : ms = heads L1 := by rw [ems]; exact List.take_of_length_le (by simp [heads])
              have hml : ms.length = n := by rw [hxx]; simp [heads]; exact HLN.out
              have HXX := Aside0.mk hxx
              have HMN := Aside0.mk hml
              obtain ⟨Ad, cd, ed, hl5, hC5⟩ := Kd.R_reads HR.out
              cases ed
              have HC5 := Aside0.mk hC5
              have HL5 := Aside0.mk hl5
              have CK := Aside0.mk (HK.out W1 (some adv) cv ms (HBW.out.trans (HBW2.out.mono HBW.out.size)) hml hC5 hl5)
              clear hlb hj hxx hml hC5 hl5 ems
              cases hks : ks ms with
              | true =>
                rw [hks] at CK
                have HKS := Aside0.mk hks
                clear hks
                go_wp2_with (go_at_call 5; (with_reducible refine CK.out.mono ?_); rintro e w5 ⟨v5, rfl, hb5⟩; have HB5 := Aside0.mk hb5; clear hb5)
                go_ret
                refine ⟨HF1.out.trans (Fr.of_below (HBW2.out.trans (HB5.out.mono HBW2.out.size)) a g1) HG1.out, .inr ⟨adv, cv, ms, rfl, HL5.out, Kd.C_below HC5.out HB5.out, best_red HR1.out ⟨?_, ?_, fun y hy hin => .inl ?_⟩⟩⟩
                · rw [ES.out]; exact ⟨HMN.out, HKS.out⟩
                · rw [HXX.out]; exact heads_in HONE.out
                · rw [ES.out] at hy; rw [HXX.out]; exact (heads_only HONE.out (by rw [hy.1, HLN.out]) hin).symm
              | false =>
                rw [hks] at CK
                have HKS := Aside0.mk hks
                clear hks
                go_wp2_with (go_at_call 5; (with_reducible refine CK.out.mono ?_); rintro e w5 ⟨v5, rfl, hb5⟩; have HB5 := Aside0.mk hb5; clear hb5)
                go_ret
                refine ⟨HF1.out.trans (Fr.of_below (HBW2.out.trans (HB5.out.mono HBW2.out.size)) a g1) HG1.out, .inl ⟨rfl, none_red HR1.out fun y hy hin => ?_⟩⟩
                rw [ES.out] at hy
                have := heads_only HONE.out (by rw [hy.1, HLN.out]) hin
                rw [this, ← HXX.out, HKS.out] at hy
                exact absurd hy.2 (by decide)
end Go.Proofs.YtehekppkicjimaaDoor.QFK
