/- The walk of the function value of (*net).share. Conditions: the constraint is well formed, no list is empty. -/
import Derived.Test.YtehekppkicjimaaDoorSStep
namespace Go.Proofs.YtehekppkicjimaaDoor.QFK
open Go.RowKit Go.Proofs.YtehekppkicjimaaDoorW.PrintWords Go.Proofs.YtehekppkicjimaaDoorW.PrintLast Go.Proofs.YtehekppkicjimaaDoorW.PrintMore
open Go.Deep
set_option linter.unusedVariables false
set_option linter.unusedSimpArgs false
def lo (L : List (List Int)) (k : Int) : Int := rd (rd_L1 L k) 0
def hi_ (L : List (List Int)) (k : Int) : Int := rd (rd_L1 L k) (((rd_L1 L k).length - 1 : Nat) : Int)
/-- who must run at a moment, of the first j -/
def mustTo (L : List (List Int)) (vars nums uses : List Int) (i : Nat) (m : Int) : Nat → Int
  | 0 => rd uses i
  | j + 1 => if ¬ j = i ∧ hi_ L (rd vars j) ≤ m ∧ m < lo L (rd vars j) + rd nums j then mustTo L vars nums uses i m j + rd uses j else mustTo L vars nums uses i m j
/-- the moments that are asked: v and what comes behind -/
def momTo (L : List (List Int)) (vars nums : List Int) (i : Nat) (v : Int) : Nat → List Int
  | 0 => [v]
  | j + 1 => if ¬ j = i ∧ v ≤ hi_ L (rd vars j) ∧ hi_ L (rd vars j) < v + rd nums i then momTo L vars nums i v j ++ [hi_ L (rd vars j)] else momTo L vars nums i v j
theorem momTo_len (L : List (List Int)) (vars nums : List Int) (i : Nat) (v : Int) (j : Nat) : (momTo L vars nums i v j).length ≤ j + 1 := by
  induction j with
  | zero => simp [momTo]
  | succ j ih => simp only [momTo]; split <;> (try simp) <;> omega
def shareP (L : List (List Int)) (vars nums uses : List Int) (lim : Int) (i : Nat) (v : Int) : Bool := (momTo L vars nums i v vars.length).all fun m => decide (mustTo L vars nums uses i m vars.length ≤ lim)
theorem mustTo_bd (L : List (List Int)) (vars nums uses : List Int) (i : Nat) (m : Int) (bu : ∀ x ∈ uses, -100000000 ≤ x ∧ x ≤ 100000000) (j : Nat) : -((j + 1) * 100000000 : Int) ≤ mustTo L vars nums uses i m j ∧ mustTo L vars nums uses i m j ≤ (j + 1) * 100000000 := by
  induction j with
  | zero => have := rd_bd (B := 100000000) (by decide) bu i; unfold mustTo; omega
  | succ j ih =>
    have := rd_bd (B := 100000000) (by decide) bu j
    simp only [mustTo]
    split <;> omega
set_option maxHeartbeats 16000000 in
set_option maxRecDepth 100000 in
/-- share's function value: true for every value that some sound values have -/
theorem share1_any {w : World} {a g : Nat} {h : Value × Value} {L : List (List Int)} (N : Net w a g h L) (gc gn gi : Nat) (v : Int) (i : Nat) (kd lim : Int) (A1 : Option Addr) (c1 : Nat) (vars : List Int) (A2 : Option Addr) (c2 : Nat) (nums : List Int) (A3 : Option Addr) (c3 : Nat) (uses : List Int) (v5_ : Value)
    (hcon : w.heap[gc]? = some (.cells #[.int .i64 kd, .slice A1 vars.length c1, .slice A2 nums.length c2, .slice A3 uses.length c3, .int .i64 lim, v5_] 44 (0, 0))) (hn : w.cell? ⟨gn, 0, none⟩ = some (.pointer (some ⟨a, 0, none⟩))) (hi : w.cell? ⟨gi, 0, none⟩ = some (.int .i64 i))
    (hC1 : Kd.C (Kd.int .i64) w A1 vars.length vars) (hC2 : Kd.C (Kd.int .i64) w A2 nums.length nums) (hC3 : Kd.C (Kd.int .i64) w A3 uses.length uses)
    (hv : vars.length ≤ 60) (hnn : nums.length = vars.length) (hun : uses.length = vars.length) (hil : i < vars.length) (hin : ∀ v ∈ vars, 0 ≤ v ∧ v < L.length) (G : Good1 L) (hne : ∀ k : Int, 0 ≤ k → k < L.length → 0 < (rd_L1 L k).length)
    (bn : ∀ x ∈ nums, -100000000 ≤ x ∧ x ≤ 100000000) (bu : ∀ x ∈ uses, -100000000 ≤ x ∧ x ≤ 100000000) (bv : -100000000 ≤ v ∧ v ≤ 100000000) (bl : -100000000 ≤ lim ∧ lim ≤ 100000000) :
    Calls Tryd.prog 120 #[.int .i64 v, .pointer (some ⟨gc, 0, none⟩), .pointer (some ⟨gn, 0, none⟩), .pointer (some ⟨gi, 0, none⟩)] w fun e w' => e = .returned (.bool (shareP L vars nums uses lim i v)) ∧ Below w.heap.size w w' := by
  have hu44 := Tryd.underlying44
  have HN := Aside0.mk N
  have HCON := Aside0.mk hcon
  have HCN := Aside0.mk hn
  have HCI := Aside0.mk hi
  have HC1 := Aside0.mk hC1
  have HC2 := Aside0.mk hC2
  have HC3 := Aside0.mk hC3
  have HV := Aside0.mk hv
  have HNN := Aside0.mk hnn
  have HUN := Aside0.mk hun
  have HIL := Aside0.mk hil
  have HIN := Aside0.mk hin
  have HG := Aside0.mk G
  have HNE := Aside0.mk hne
  have BN := Aside0.mk bn
  have BU := Aside0.mk bu
  have BV := Aside0.mk bv
  have BL := Aside0.mk bl
  have hgc1 : w.cell? ⟨gc, 1, none⟩ = some (.slice A1 vars.length c1) := by simpa using blk_cell hcon 1
  have hgc2 : w.cell? ⟨gc, 2, none⟩ = some (.slice A2 nums.length c2) := by simpa using blk_cell hcon 2
  have hgc3 : w.cell? ⟨gc, 3, none⟩ = some (.slice A3 uses.length c3) := by simpa using blk_cell hcon 3
  have hgc4 : w.cell? ⟨gc, 4, none⟩ = some (.int .i64 lim) := by simpa using blk_cell hcon 4
  have K1 := Aside0.mk hgc1
  have K2 := Aside0.mk hgc2
  have K3 := Aside0.mk hgc3
  have K4 := Aside0.mk hgc4
  have HHI : Aside0 (∀ (j : Nat) (W : World), j < vars.length → Below w.heap.size w W → Calls Tryd.prog 103 #[.pointer (some ⟨a, 0, none⟩), .int .i64 (rd vars j)] W fun e w' => e = .returned (.int .i64 (hi_ L (rd vars j))) ∧ Drawn0 W w') :=
    ⟨fun j W hj hW => by
      have hk := hin (rd vars j) (by rw [rd_in hj]; exact List.getElem_mem hj)
      exact high_any (N.below hW) (rd vars j) hk.1 hk.2 (hne _ hk.1 hk.2) (by have := G.len (rd vars j); omega)⟩
  have HLO : Aside0 (∀ (j : Nat) (W : World), j < vars.length → Below w.heap.size w W → Calls Tryd.prog 102 #[.pointer (some ⟨a, 0, none⟩), .int .i64 (rd vars j)] W fun e w' => e = .returned (.int .i64 (lo L (rd vars j))) ∧ Drawn0 W w') :=
    ⟨fun j W hj hW => by
      have hk := hin (rd vars j) (by rw [rd_in hj]; exact List.getElem_mem hj)
      exact low_any (N.below hW) (rd vars j) hk.1 hk.2 (hne _ hk.1 hk.2)⟩
  have BHI : Aside0 (∀ k : Int, -100000000 ≤ hi_ L k ∧ hi_ L k ≤ 100000000) := ⟨fun k => rd_bd (B := 100000000) (by decide) (G.bd k) _⟩
  have BLO : Aside0 (∀ k : Int, -100000000 ≤ lo L k ∧ lo L k ≤ 100000000) := ⟨fun k => by have := rd_bd (B := 100000000) (by decide) (G.bd k) 0; simpa [lo] using this⟩
  clear N hcon hn hi hC1 hC2 hC3 hv hnn hun hil hin G hne bn bu bv bl hgc2 hgc3 hgc4
  replace hgc1 := Lib.cell?_alloc_some (.cells #[.int .i64 v] 3) hgc1
  go_enter Tryd.func120, Tryd.ntmps120
  go_wp2
  clear hgc1
  go_loopw [20, 6] (fun v20 v6 wr => ∃ (j : Nat), j ≤ vars.length ∧ v20 = .int .i64 j ∧ Aside0 (Kd.R (Kd.int .i64) 3 wr w.heap.size (fun _ => True) v6 (momTo L vars nums i v j)) ∧ Aside0 (Below w.heap.size w wr)) (fun v20 _ _ => vars.length - (intOf v20).toNat)
  case atStart =>
    refine ⟨0, Nat.zero_le _, rfl, ⟨?_⟩, ⟨below_alloc (Below.refl _ _) _⟩⟩
    have := World.ownsRow_lit (base := w.heap.size) (e := 3) (size := 1) w #[.int .i64 v] 1 (Nat.le_refl _) (by decide) rfl
    exact Kd.R_of_own (by simpa [encs, momTo] using this) (fun _ _ => trivial)
  case round =>
    obtain ⟨j, hj, rfl, HR, HB⟩ := hrel
    obtain ⟨w1, rfl⟩ : ∃ w1 : World, w1 = wr := ⟨_, rfl⟩
    obtain ⟨ms, ems⟩ : ∃ ms, ms = momTo L vars nums i v j := ⟨_, rfl⟩
    rw [← ems] at HR
    have EMS := Aside0.mk ems
    have HML := Aside0.mk (show ms.length ≤ j + 1 by rw [ems]; exact momTo_len ..)
    clear ems
    obtain ⟨Av, cv, rfl⟩ := Kd.R_slice HR.out
    have BB := fun {p : Addr} {u : Value} (hc : w.cell? p = some u) => (HB.out.cell (World.block_lt_of_cell? w _ hc)).trans hc
    by_cases hlt : j < vars.length
    · obtain ⟨ad1, e1, hcv⟩ := Kd.at_int HC1.out (j : Int) (by omega) (by omega)
      cases e1
      simp only [Int.toNat_natCast] at hcv
      replace hcv := BB hcv
      have hcn := BB HCN.out
      have hci := BB HCI.out
      have hk2 := BB K2.out
      obtain ⟨ad2, e2, hcm⟩ := Kd.at_int HC2.out (i : Int) (by omega) (by have := HNN.out; have := HIL.out; omega)
      cases e2
      simp only [Int.toNat_natCast] at hcm
      replace hcm := BB hcm
      have hni : ((i : Int) < (nums.length : Int)) = True := eq_true (by have := HNN.out; have := HIL.out; omega)
      have hnin : (i < nums.length) = True := eq_true (by have := HNN.out; have := HIL.out; omega)
      obtain ⟨H, eH⟩ : ∃ H, H = hi_ L (rd vars j) := ⟨_, rfl⟩
      have HH := Aside0.mk (HHI.out j · hlt)
      rw [← eH] at HH
      have bH := BHI.out (rd vars j)
      rw [← eH] at bH
      have EH := Aside0.mk eH
      have bni := rd_bd (B := 100000000) (by decide) BN.out i
      have bv' := BV.out
      have HW := Aside0.mk (show wrap64 ((j : Int) + 1) = ((j + 1 : Nat) : Int) by have := HV.out; unfold wrap64; omega)
      have HLT := Aside0.mk hlt
      have hww : IntKind.i64.wrap (v + rd nums i) = v + rd nums i := i64_mid (by omega) (by omega)
      clear BB eH
      by_cases hji : j = i
      · subst hji
        have hjb : ((j : Int) != (j : Int)) = false := by simp
        clear bH bni bv'
        go_wp2_with (go_at_call 103; (with_reducible refine (HH.out _ HB.out).mono ?_); rintro e w' ⟨rfl, ⟨nd, rfl⟩⟩)
        have hw := HW.out
        go_roundw
        case rel =>
          refine ⟨j + 1, by have := HLT.out; omega, by rw [hw], ⟨?_⟩, ⟨pw_below_drewN HB.out _⟩⟩
          have e1 : momTo L vars nums j v (j + 1) = ms := by rw [EMS.out]; simp [momTo]
          rw [e1]; exact Kd.R_drewN HR.out _
        case measure => rw [hw]; have := HLT.out; simp [intOf]; omega
      · have hjb : ((j : Int) != (i : Int)) = true := by simp; omega
        have HJI := Aside0.mk hji
        clear hji
        by_cases hc2 : v ≤ H
        · have hd2 : (H ≥ v) = True := eq_true hc2
          have HC2' := Aside0.mk hc2
          by_cases hc3 : H < v + rd nums i
          · have hd3 := eq_true hc3
            have HC3' := Aside0.mk hc3
            clear hc2 hc3
            go_wp2_with (first | (go_at_call 103; (with_reducible refine (HH.out _ HB.out).mono ?_); rintro e w' ⟨rfl, ⟨nd, rfl⟩⟩) | ((with_reducible refine gate_builtin (b := .append) (xs := #[.tmp 47, .tmp 49]) rfl ?_); at_builtin; refine Kd.R_append (Kd.int .i64) (w0 := w) w.heap.size rfl (.tmp 47) (.tmp 49) 26 3 (.int .i64 0) 8 rfl Tryd.underlying26 info3 rfl (by decide) (by omega) (.slice Av ms.length cv) ms H [.int .i64 H] (fun _ => True) (fun _ => False) rfl rfl ?aP (fun _ hk => hk.elim) ?aF ?aO ?aB ?aS ?aL ?_; (case aP => exact rfl); (case aB => exact (by repeat (first | exact HB.out | apply below_alloc | apply below_drew | apply pw_below_drewN))); (case aF => exact (fun _ _ => trivial)); (case aO => exact (by (with_reducible repeat (first | apply Kd.R_alloc | apply Kd.R_drewN | apply Kd.R_drew)); exact HR.out)); (case aS => exact (below_size (by repeat (first | exact HB.out | apply below_alloc | apply below_drew | apply pw_below_drewN)))); (case aL => have := HML.out; have := HV.out; have := HLT.out; omega); intro v1 w3 ho hb hg hat; have HR3 := Aside0.mk ho; have HB3 := Aside0.mk hb; clear ho hb hg hat))
            have hw := HW.out
            go_roundw
            case rel =>
              refine ⟨j + 1, by have := HLT.out; omega, by rw [hw], ⟨?_⟩, ⟨HB3.out⟩⟩
              have e1 : momTo L vars nums i v (j + 1) = ms ++ [H] := by rw [EMS.out, EH.out]; simp only [momTo]; rw [if_pos (by rw [← EH.out]; exact ⟨HJI.out, HC2'.out, HC3'.out⟩)]
              rw [e1]; exact HR3.out
            case measure => rw [hw]; have := HLT.out; simp [intOf]; omega
          · have hd3 := eq_false hc3
            have HC3' := Aside0.mk hc3
            clear hc2 hc3
            go_wp2_with (go_at_call 103; (with_reducible refine (HH.out _ HB.out).mono ?_); rintro e w' ⟨rfl, ⟨nd, rfl⟩⟩)
            have hw := HW.out
            go_roundw
            case rel =>
              refine ⟨j + 1, by have := HLT.out; omega, by rw [hw], ⟨?_⟩, ⟨pw_below_drewN HB.out _⟩⟩
              have e1 : momTo L vars nums i v (j + 1) = ms := by rw [EMS.out]; simp only [momTo]; rw [if_neg (by rw [← EH.out]; have := HC3'.out; omega)]
              rw [e1]; exact Kd.R_drewN HR.out _
            case measure => rw [hw]; have := HLT.out; simp [intOf]; omega
        · have hd2 : (H ≥ v) = False := eq_false hc2
          have HC2' := Aside0.mk hc2
          clear hc2
          go_wp2_with (go_at_call 103; (with_reducible refine (HH.out _ HB.out).mono ?_); rintro e w' ⟨rfl, ⟨nd, rfl⟩⟩)
          have hw := HW.out
          go_roundw
          case rel =>
            refine ⟨j + 1, by have := HLT.out; omega, by rw [hw], ⟨?_⟩, ⟨pw_below_drewN HB.out _⟩⟩
            have e1 : momTo L vars nums i v (j + 1) = ms := by rw [EMS.out]; simp only [momTo]; rw [if_neg (by rw [← EH.out]; have := HC2'.out; omega)]
            rw [e1]; exact Kd.R_drewN HR.out _
          case measure => rw [hw]; have := HLT.out; simp [intOf]; omega
    · obtain rfl : j = vars.length := by omega
      clear hlt hj
      have hll := (Kd.R_reads' HR.out).2
      have HCM := Aside0.mk hll.2
      clear hll
      have BB : Aside0 (∀ {p : Addr} {u : Value}, w.cell? p = some u → w1.cell? p = some u) := ⟨fun {p u} hc => (HB.out.cell (World.block_lt_of_cell? w _ hc)).trans hc⟩
      go_wp2
      go_loopw [54] (fun v54 wr => ∃ (q : Nat), q ≤ ms.length ∧ v54 = .int .i64 q ∧ Aside0 (∀ m ∈ ms.take q, decide (mustTo L vars nums uses i m vars.length ≤ lim) = true) ∧ Drawn0 w1 wr) (fun v54 _ => ms.length - (intOf v54).toNat)
      case atStart => exact ⟨0, Nat.zero_le _, rfl, ⟨fun m hm => by simp at hm⟩, Drawn0.refl _⟩
      case round =>
        obtain ⟨q, hq, rfl, HALL, ⟨nq, rfl⟩⟩ := hrel
        by_cases hql : q < ms.length
        · obtain ⟨adm, em, hmc⟩ := Kd.at_int HCM.out (q : Int) (by omega) (by omega)
          cases em
          simp only [Int.toNat_natCast] at hmc
          obtain ⟨M, eM⟩ : ∃ M, M = rd ms q := ⟨_, rfl⟩
          rw [← eM] at hmc
          have EM := Aside0.mk eM
          have HQL := Aside0.mk hql
          obtain ⟨ad3, e3, hcu⟩ := Kd.at_int HC3.out (i : Int) (by omega) (by have := HUN.out; have := HIL.out; omega)
          cases e3
          simp only [Int.toNat_natCast] at hcu
          replace hcu := BB.out hcu
          have hui : ((i : Int) < (uses.length : Int)) = True := eq_true (by have := HUN.out; have := HIL.out; omega)
          have huin : (i < uses.length) = True := eq_true (by have := HUN.out; have := HIL.out; omega)
          have hk1 := BB.out K1.out
          have hk3 := BB.out K3.out
          have hci := BB.out HCI.out
          clear eM
          go_wp2
          clear hk1 hk3 hci hcu hmc hui huin
          go_loopw [66, 12] (fun v66 v12 wr => ∃ (j : Nat), j ≤ vars.length ∧ v66 = .int .i64 j ∧ v12 = .int .i64 (mustTo L vars nums uses i M j) ∧ Drawn0 w1 wr) (fun v66 _ _ => vars.length - (intOf v66).toNat)
          case atStart => exact ⟨0, Nat.zero_le _, rfl, rfl, ⟨_, rfl⟩⟩
          case round =>
            obtain ⟨j, hj, rfl, rfl, ⟨nj, rfl⟩⟩ := hrel
            obtain ⟨S, eS⟩ : ∃ S, S = mustTo L vars nums uses i M j := ⟨_, rfl⟩
            have bS := mustTo_bd L vars nums uses i M BU.out j
            rw [← eS] at bS ⊢
            have ES := Aside0.mk eS
            clear eS
            by_cases hlt : j < vars.length
            · obtain ⟨ad1, e1, hcv⟩ := Kd.at_int HC1.out (j : Int) (by omega) (by omega)
              cases e1
              simp only [Int.toNat_natCast] at hcv
              replace hcv := BB.out hcv
              have hcn := BB.out HCN.out
              have hci := BB.out HCI.out
              have hk2 := BB.out K2.out
              have hk3 := BB.out K3.out
              obtain ⟨ad2, e2, hcm⟩ := Kd.at_int HC2.out (j : Int) (by omega) (by have := HNN.out; omega)
              cases e2
              simp only [Int.toNat_natCast] at hcm
              replace hcm := BB.out hcm
              obtain ⟨_, e3, hcu⟩ := Kd.at_int HC3.out (j : Int) (by omega) (by have := HUN.out; omega)
              cases e3
              simp only [Int.toNat_natCast] at hcu
              replace hcu := BB.out hcu
              have hni : ((j : Int) < (nums.length : Int)) = True := eq_true (by have := HNN.out; omega)
              have hui : ((j : Int) < (uses.length : Int)) = True := eq_true (by have := HUN.out; omega)
              obtain ⟨H, eH⟩ : ∃ H, H = hi_ L (rd vars j) := ⟨_, rfl⟩
              have HH := Aside0.mk (HHI.out j · hlt)
              rw [← eH] at HH
              have EH := Aside0.mk eH
              obtain ⟨O, eO⟩ : ∃ O, O = lo L (rd vars j) := ⟨_, rfl⟩
              have HL := Aside0.mk (HLO.out j · hlt)
              rw [← eO] at HL
              have EO := Aside0.mk eO
              have bO := BLO.out (rd vars j)
              rw [← eO] at bO
              have bnj := rd_bd (B := 100000000) (by decide) BN.out j
              have buj := rd_bd (B := 100000000) (by decide) BU.out j
              have HW := Aside0.mk (show wrap64 ((j : Int) + 1) = ((j + 1 : Nat) : Int) by have := HV.out; unfold wrap64; omega)
              have HLT := Aside0.mk hlt
              have hww : IntKind.i64.wrap (O + rd nums j) = O + rd nums j := i64_mid (by omega) (by omega)
              have hws : wrap64 (S + rd uses j) = S + rd uses j := by have := HV.out; unfold wrap64; omega
              have HWS := Aside0.mk hws
              clear eH eO bO bnj buj bS hws
              by_cases hji : j = i
              · subst hji
                have hjb : ((j : Int) != (j : Int)) = false := by simp
                go_wp2
                go_quiet (fail)
                go_wp2
                have hw := HW.out
                go_roundw
                case rel =>
                  refine ⟨j + 1, by have := HLT.out; omega, by rw [hw], ?_, by repeat (first | exact ⟨_, rfl⟩ | exact ⟨_, World.drewN_drewN _ _ _⟩ | apply Drawn0.step)⟩
                  have e1 : mustTo L vars nums uses j M (j + 1) = mustTo L vars nums uses j M j := by simp [mustTo]
                  rw [e1, ES.out]
                case measure => rw [hw]; have := HLT.out; simp [intOf]; omega
              · have hjb : ((j : Int) != (i : Int)) = true := by simp; omega
                have HJI := Aside0.mk hji
                clear hji
                by_cases hc2 : H ≤ M
                · have hd2 := eq_true hc2
                  have HC2' := Aside0.mk hc2
                  by_cases hc3 : M < O + rd nums j
                  · have hd3 := eq_true hc3
                    have HC3' := Aside0.mk hc3
                    clear hc2 hc3
                    go_wp2
                    go_quiet (first | (go_at_call 103; (with_reducible refine (HH.out _ ?hb).mono ?_); (case hb => repeat (first | exact HB.out | apply below_drew | apply pw_below_drewN)); rintro e w' ⟨rfl, ⟨nd, rfl⟩⟩; first | exact ⟨rfl, _, World.drewN_drewN _ _ _⟩ | exact ⟨rfl, _, Eq.trans (World.drewN_drewN _ _ _) (congrArg (World.drewN _) (Nat.add_assoc _ _ _))⟩) | (go_at_call 102; (with_reducible refine (HL.out _ ?hb).mono ?_); (case hb => repeat (first | exact HB.out | apply below_drew | apply pw_below_drewN)); rintro e w' ⟨rfl, ⟨nd, rfl⟩⟩; first | exact ⟨rfl, _, World.drewN_drewN _ _ _⟩ | exact ⟨rfl, _, Eq.trans (World.drewN_drewN _ _ _) (congrArg (World.drewN _) (Nat.add_assoc _ _ _))⟩))
                    clear hww
                    have hws := HWS.out
                    go_wp2
                    have hw := HW.out
                    go_roundw
                    case rel =>
                      refine ⟨j + 1, by have := HLT.out; omega, by rw [hw], ?_, by repeat (first | exact ⟨_, rfl⟩ | exact ⟨_, World.drewN_drewN _ _ _⟩ | apply Drawn0.step)⟩
                      have e1 : mustTo L vars nums uses i M (j + 1) = S + rd uses j := by rw [ES.out]; simp only [mustTo]; rw [if_pos (by rw [← EH.out, ← EO.out]; exact ⟨HJI.out, HC2'.out, HC3'.out⟩)]
                      rw [e1, hws]
                    case measure => rw [hw]; have := HLT.out; simp [intOf]; omega
                  · have hd3 := eq_false hc3
                    have HC3' := Aside0.mk hc3
                    clear hc2 hc3
                    go_wp2
                    go_quiet (first | (go_at_call 103; (with_reducible refine (HH.out _ ?hb).mono ?_); (case hb => repeat (first | exact HB.out | apply below_drew | apply pw_below_drewN)); rintro e w' ⟨rfl, ⟨nd, rfl⟩⟩; first | exact ⟨rfl, _, World.drewN_drewN _ _ _⟩ | exact ⟨rfl, _, Eq.trans (World.drewN_drewN _ _ _) (congrArg (World.drewN _) (Nat.add_assoc _ _ _))⟩) | (go_at_call 102; (with_reducible refine (HL.out _ ?hb).mono ?_); (case hb => repeat (first | exact HB.out | apply below_drew | apply pw_below_drewN)); rintro e w' ⟨rfl, ⟨nd, rfl⟩⟩; first | exact ⟨rfl, _, World.drewN_drewN _ _ _⟩ | exact ⟨rfl, _, Eq.trans (World.drewN_drewN _ _ _) (congrArg (World.drewN _) (Nat.add_assoc _ _ _))⟩))
                    go_wp2
                    have hw := HW.out
                    go_roundw
                    case rel =>
                      refine ⟨j + 1, by have := HLT.out; omega, by rw [hw], ?_, by repeat (first | exact ⟨_, rfl⟩ | exact ⟨_, World.drewN_drewN _ _ _⟩ | apply Drawn0.step)⟩
                      have e1 : mustTo L vars nums uses i M (j + 1) = mustTo L vars nums uses i M j := by simp only [mustTo]; rw [if_neg (by rw [← EH.out, ← EO.out]; have := HC3'.out; omega)]
                      rw [e1, ES.out]
                    case measure => rw [hw]; have := HLT.out; simp [intOf]; omega
                · have hd2 := eq_false hc2
                  have HC2' := Aside0.mk hc2
                  clear hc2
                  go_wp2
                  go_quiet (((go_at_call 103; (with_reducible refine (HH.out _ ?hb).mono ?_); (case hb => repeat (first | exact HB.out | apply below_drew | apply pw_below_drewN)); rintro e w' ⟨rfl, ⟨nd, rfl⟩⟩; first | exact ⟨rfl, _, World.drewN_drewN _ _ _⟩ | exact ⟨rfl, _, Eq.trans (World.drewN_drewN _ _ _) (congrArg (World.drewN _) (Nat.add_assoc _ _ _))⟩)))
                  go_wp2
                  have hw := HW.out
                  go_roundw
                  case rel =>
                    refine ⟨j + 1, by have := HLT.out; omega, by rw [hw], ?_, by repeat (first | exact ⟨_, rfl⟩ | exact ⟨_, World.drewN_drewN _ _ _⟩ | apply Drawn0.step)⟩
                    have e1 : mustTo L vars nums uses i M (j + 1) = mustTo L vars nums uses i M j := by simp only [mustTo]; rw [if_neg (by rw [← EH.out]; have := HC2'.out; omega)]
                    rw [e1, ES.out]
                  case measure => rw [hw]; have := HLT.out; simp [intOf]; omega
            · obtain rfl : j = vars.length := by omega
              clear hlt hj bS
              have hk4 := BB.out K4.out
              have HW := Aside0.mk (show wrap64 ((q : Int) + 1) = ((q + 1 : Nat) : Int) by have := HV.out; have := HML.out; have := HQL.out; unfold wrap64; omega)
              by_cases hs : lim < S
              · have hd := eq_true hs
                have HSS := Aside0.mk hs
                clear hs
                go_wp2
                go_ret
                refine ⟨ret_bool ?_, by repeat (first | exact HB.out | apply below_drew | apply pw_below_drewN)⟩
                symm
                unfold shareP
                rw [← EMS.out, List.all_eq_false]
                refine ⟨M, by rw [EM.out, rd_in HQL.out]; exact List.getElem_mem _, ?_⟩
                rw [← ES.out]; have := HSS.out; simp; omega
              · have hd := eq_false hs
                have HSS := Aside0.mk hs
                clear hs
                go_wp2
                have hw := HW.out
                go_roundw
                case rel =>
                  refine ⟨q + 1, by have := HQL.out; omega, by rw [hw], ⟨fun m hm => ?_⟩, by repeat (first | exact ⟨_, rfl⟩ | exact ⟨_, World.drewN_drewN _ _ _⟩ | apply Drawn0.step)⟩
                  rw [List.take_succ_eq_append_getElem HQL.out, List.mem_append, List.mem_singleton] at hm
                  rcases hm with hm | rfl
                  · exact HALL.out m hm
                  · rw [← rd_in HQL.out, ← EM.out, ← ES.out]; have := HSS.out; simp; omega
                case measure => rw [hw]; have := HQL.out; simp [intOf]; omega
        · obtain rfl : q = ms.length := by omega
          go_wp2
          go_ret
          refine ⟨ret_bool ?_, by repeat (first | exact HB.out | apply below_drew | apply pw_below_drewN)⟩
          symm
          unfold shareP
          rw [← EMS.out, List.all_eq_true]
          have := HALL.out
          rwa [List.take_length] at this
end Go.Proofs.YtehekppkicjimaaDoor.QFK
