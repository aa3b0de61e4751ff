/- The walk of finite.keeps: whether values keep a constraint, for every constraint that is well formed. Conditions: 'KeepsOk'. -/
import Derived.Test.YtehekppkicjimaaDoorSSl
import Derived.Test.YtehekppkicjimaaDoorSHof
import Derived.Deep.RegionLaw
import Derived.Deep.RegionWith
namespace Go.Proofs.YtehekppkicjimaaDoor.QFK
open Go.RowKit Go.Proofs.YtehekppkicjimaaDoorW.PrintWords Go.Proofs.YtehekppkicjimaaDoorW.PrintLast Go.Proofs.YtehekppkicjimaaDoorW.PrintMore
open Go.Deep
set_option linter.unusedVariables false
set_option linter.unusedSimpArgs false

def useAt (nums uses v : List Int) (i : Nat) : Int := ((List.range v.length).map fun (k : Nat) => if rd v k ≤ rd v i ∧ rd v i < rd v k + rd nums k then rd uses k else 0).sum
def useTo (nums uses v : List Int) (i j : Nat) : Int := ((List.range j).map fun (k : Nat) => if rd v k ≤ rd v i ∧ rd v i < rd v k + rd nums k then rd uses k else 0).sum
theorem useTo_succ (nums uses v : List Int) (i j : Nat) : useTo nums uses v i (j + 1) = useTo nums uses v i j + if rd v j ≤ rd v i ∧ rd v i < rd v j + rd nums j then rd uses j else 0 := by
  unfold useTo; rw [List.range_succ, List.map_append, List.sum_append]; simp
def shareB (nums uses v : List Int) (lim : Int) (i : Nat) : Bool := rd nums i == 0 || rd uses i == 0 || decide (useAt nums uses v i ≤ lim)
theorem share_step {nums uses v : List Int} {lim : Int} {i : Nat} (h : ∀ j : Nat, j < i → shareB nums uses v lim j = true) (hi : shareB nums uses v lim i = true) : ∀ j : Nat, j < i + 1 → shareB nums uses v lim j = true := by
  intro j hj
  rcases Nat.lt_or_ge j i with h1 | h1
  · exact h j h1
  · rw [show j = i by omega]; exact hi
def keepsB (kd : Int) (nums uses : List Int) (lim : Int) (rows : List (List Int)) (v : List Int) : Bool :=
  if kd = 1 then (Lib.compact (v.mergeSort fun x y => decide (x ≤ y))).length == v.length
  else if kd = 2 then (List.zipWith (· * ·) nums v).sum == lim
  else if kd = 3 then rows.any (fun r => r == v)
  else if kd = 4 then decide (0 ≤ rd v 0) && decide (rd v 0 < (v.length : Int) - 2) && (rd v (2 + rd v 0) == rd v 1)
  else (List.range v.length).all fun (i : Nat) => shareB nums uses v lim i
def sumTo (nums v : List Int) (k : Nat) : Int := ((List.zipWith (· * ·) nums v).take k).sum
theorem mul_bd (a b : Int) (h1 : -100000000 ≤ a ∧ a ≤ 100000000) (h2 : -100000000 ≤ b ∧ b ≤ 100000000) : -10000000000000000 ≤ a * b ∧ a * b ≤ 10000000000000000 := by
  have h3 : a.natAbs ≤ 100000000 := by omega
  have h4 : b.natAbs ≤ 100000000 := by omega
  have h5 : (a * b).natAbs ≤ 100000000 * 100000000 := by rw [Int.natAbs_mul]; exact Nat.mul_le_mul h3 h4
  omega
theorem rd_bd {l : List Int} {B : Int} (hB : 0 ≤ B) (h : ∀ v ∈ l, -B ≤ v ∧ v ≤ B) (k : Nat) : -B ≤ rd l k ∧ rd l k ≤ B := by
  unfold rd
  by_cases hk : k < l.length
  · simp only [Int.toNat_natCast, List.getD_eq_getElem?_getD, List.getElem?_eq_getElem hk, Option.getD_some]
    exact h _ (List.getElem_mem hk)
  · simp [List.getD_eq_getElem?_getD, List.getElem?_eq_none (Nat.le_of_not_lt hk)]; omega
theorem sumTo_all (nums v : List Int) (h : nums.length = v.length) : sumTo nums v nums.length = (List.zipWith (· * ·) nums v).sum := by
  unfold sumTo
  rw [List.take_of_length_le (by simp; omega)]
theorem useTo_bd (nums uses v : List Int) (i j : Nat) (bu : ∀ x ∈ uses, -100000000 ≤ x ∧ x ≤ 100000000) : -(j * 100000000 : Int) ≤ useTo nums uses v i j ∧ useTo nums uses v i j ≤ j * 100000000 := by
  induction j with
  | zero => simp [useTo]
  | succ j ih =>
    have h3 := rd_bd (B := 100000000) (by decide) bu j
    rw [useTo_succ]
    split <;> omega
theorem sumTo_succ (nums v : List Int) (k : Nat) (h1 : k < nums.length) (h2 : k < v.length) : sumTo nums v (k + 1) = sumTo nums v k + rd nums k * rd v k := by
  unfold sumTo
  rw [List.take_succ_eq_append_getElem (by simp; omega)]
  simp [rd, h1, h2]
theorem sumTo_bd (nums v : List Int) (k : Nat) (bn : ∀ x ∈ nums, -100000000 ≤ x ∧ x ≤ 100000000) (bv : ∀ x ∈ v, -100000000 ≤ x ∧ x ≤ 100000000) (h1 : k ≤ nums.length) (h2 : k ≤ v.length) :
    -(k * 10000000000000000 : Int) ≤ sumTo nums v k ∧ sumTo nums v k ≤ k * 10000000000000000 := by
  induction k with
  | zero => simp [sumTo]
  | succ k ih =>
    have := ih (by omega) (by omega)
    have h3 := mul_bd _ _ (rd_bd (B := 100000000) (by decide) bn k) (rd_bd (B := 100000000) (by decide) bv k)
    rw [sumTo_succ nums v k (by omega) (by omega)]
    omega
theorem vals_bd {x vars : List Int} (bx : ∀ v ∈ x, -100000000 ≤ v ∧ v ≤ 100000000) : ∀ v ∈ vars.map (fun i => rd x i), -100000000 ≤ v ∧ v ≤ 100000000 := by
  intro v hv
  obtain ⟨i, _, rfl⟩ := List.mem_map.1 hv
  unfold rd
  by_cases hk : i.toNat < x.length
  · rw [List.getD_eq_getElem?_getD, List.getElem?_eq_getElem hk]; exact bx _ (List.getElem_mem hk)
  · rw [List.getD_eq_getElem?_getD, List.getElem?_eq_none (Nat.le_of_not_lt hk)]; decide
theorem kR_readsInt {w : World} {base : Nat} {ok : Nat → Prop} {A : Option Addr} {n c : Nat} {xs : List Int} (h : Kd.R (Kd.int .i64) 3 w base ok (.slice A n c) xs) : Kd.C (Kd.int .i64) w A xs.length xs := by
  obtain ⟨A', c', e, _, hC⟩ := Kd.R_reads h
  cases e
  exact hC
theorem kR_at {w : World} {base : Nat} {ok : Nat → Prop} {A : Option Addr} {n c : Nat} {xs : List Int} (h : Kd.R (Kd.int .i64) 3 w base ok (.slice A n c) xs) (h0 : 0 < xs.length) : ∃ g, A = some ⟨g, 0, none⟩ := by
  obtain ⟨g, cap, e, _, _⟩ := (Kd.own_of_R h).form h0
  cases e
  exact ⟨g, rfl⟩
theorem kR_cap {w : World} {base : Nat} {ok : Nat → Prop} {A : Option Addr} {n c : Nat} {xs : List Int} (h : Kd.R (Kd.int .i64) 3 w base ok (.slice A n c) xs) : xs.length ≤ c := by
  obtain ⟨A', c', e, hl, hC⟩ := Kd.R_reads h
  cases e
  exact hl
theorem rdL1_mem (xs : List (List Int)) (i : Nat) (h : i < xs.length) : rd_L1 xs (i : Int) ∈ xs := by rw [rdL1_get xs i h]; exact List.getElem_mem h
theorem take_map_snoc (vars x : List Int) (k : Nat) (h : k < vars.length) : (vars.take (k + 1)).map (fun i => rd x i) = (vars.take k).map (fun i => rd x i) ++ [rd x (rd vars k)] := by
  rw [List.take_succ_eq_append_getElem h, List.map_append]; simp [rd, h]
set_option maxHeartbeats 8000000 in
set_option maxRecDepth 100000 in
theorem keeps_any (kd : Int) (A1 : Option Addr) (c1 : Nat) (vars : List Int) (A2 : Option Addr) (c2 : Nat) (nums : List Int) (A3 : Option Addr) (c3 : Nat) (uses : List Int) (lim : Int) (A5 : Option Addr) (c5 : Nat) (rows : List (List Int)) (A : Option Addr) (c : Nat) (x : List Int) (w : World)
    (h1 : Kd.C (Kd.int .i64) w A1 vars.length vars) (hc1 : vars.length ≤ c1) (h2 : Kd.C (Kd.int .i64) w A2 nums.length nums) (hc2 : nums.length ≤ c2) (h3 : Kd.C (Kd.int .i64) w A3 uses.length uses) (hc3 : uses.length ≤ c3)
    (h5 : Kd.C (Kd.slice 3 (Kd.int .i64)) w A5 rows.length rows) (hc5 : rows.length ≤ c5) (hx : Kd.C (Kd.int .i64) w A x.length x) (hcx : x.length ≤ c)
    (hv : vars.length ≤ 60) (hin : ∀ v ∈ vars, 0 ≤ v ∧ v < x.length) (hr5 : rows.length ≤ 200) (hr6 : ∀ r ∈ rows, r.length ≤ 60) (hn2 : kd = 2 → nums.length = vars.length) (hn4 : kd = 4 → 2 ≤ vars.length) (hn5 : ¬ kd = 1 → ¬ kd = 2 → ¬ kd = 3 → ¬ kd = 4 → nums.length = vars.length ∧ uses.length = vars.length)
    (bx : ∀ v ∈ x, -100000000 ≤ v ∧ v ≤ 100000000) (bn : ∀ v ∈ nums, -100000000 ≤ v ∧ v ≤ 100000000) (bu : ∀ v ∈ uses, -100000000 ≤ v ∧ v ≤ 100000000) :
    Calls Tryd.prog 16 #[.agg #[.int .i64 kd, .slice A1 vars.length c1, .slice A2 nums.length c2, .slice A3 uses.length c3, .int .i64 lim, .slice A5 rows.length c5], .slice A x.length c] w fun e w' => e = .returned (.bool (keepsB kd nums uses lim rows (vars.map fun i => rd x i))) ∧ Below w.heap.size w w' := by
  have hu44 := Tryd.underlying44
  have H1 := Aside0.mk h1
  have HX := Aside0.mk hx
  have HIN := Aside0.mk hin
  have BX := Aside0.mk bx
  have BN := Aside0.mk bn
  have BU := Aside0.mk bu
  have HB5 := Aside0.mk hr5
  have HB6 := Aside0.mk hr6
  have HN2 := Aside0.mk hn2
  have HN4 := Aside0.mk hn4
  have HN5 := Aside0.mk hn5
  have H2 := Aside0.mk h2
  have H3 := Aside0.mk h3
  have H5 := Aside0.mk h5
  have HC5 := Aside0.mk hc5
  clear h1 hx hin hc1 hc2 hc3 hc5 hcx bx bn bu hn2 hn4 hn5 h2 h3 h5 hr5 hr6
  go_enter Tryd.func16, Tryd.ntmps16
  go_wp2
  go_loopw [21, 7] (fun v21 v7 wr => ∃ (k : Nat) (vv : Value), k ≤ vars.length ∧ v21 = .int .i64 k ∧
      Aside0 (wr.heap[w.heap.size + 1]? = some (.cells #[vv] 26 (0, 0))) ∧
      Aside0 (wr.heap[w.heap.size]? = some (.cells #[.int .i64 kd, .slice A1 vars.length c1, .slice A2 nums.length c2, .slice A3 uses.length c3, .int .i64 lim, .slice A5 rows.length c5] 44 (0, 0))) ∧
      Aside0 (Kd.R (Kd.int .i64) 3 wr w.heap.size (fun _ => True) vv ((vars.take k).map (fun i => rd x i))) ∧ Aside0 (Below w.heap.size w wr))
    (fun v21 _ _ => vars.length - (intOf v21).toNat)
  case atStart =>
    refine ⟨0, .slice none 0 0, Nat.zero_le _, rfl, ⟨?_⟩, ⟨?_⟩, ⟨?_⟩, ⟨?_⟩⟩
    · simpa using blk_new (w.alloc (.cells #[.int .i64 kd, .slice A1 vars.length c1, .slice A2 nums.length c2, .slice A3 uses.length c3, .int .i64 lim, .slice A5 rows.length c5] 44)) (.cells #[.slice none 0 0] 26)
    · exact blk_alloc (blk_new _ _) _
    · exact Kd.R_nil _ _ _ _ _
    · exact below_alloc (below_alloc (Below.refl _ _) _) _
  case round =>
    obtain ⟨k, vv, hk, rfl, HV, HC, HR, HB⟩ := hrel
    by_cases hlt : k < vars.length
    · have hi := HIN.out (rd vars k) (by simp [rd, hlt])
      obtain ⟨ad, e, hc1⟩ := Kd.at_int H1.out (k : Int) (by omega) (by omega)
      cases e
      obtain ⟨ax, e, hcx⟩ := Kd.at_int HX.out (rd vars k) hi.1 hi.2
      cases e
      replace hc1 := (HB.out.cell (World.block_lt_of_cell? w _ hc1)).trans hc1
      replace hcx := (HB.out.cell (World.block_lt_of_cell? w _ hcx)).trans hcx
      simp only [Int.toNat_natCast] at hc1
      have hv5 : wr.cell? ⟨w.heap.size + 1, 0, none⟩ = some vv := by simpa using blk_cell HV.out 0
      have hf5 := blk_frozen HV.out 0
      obtain ⟨hi0, hi1⟩ := hi
      replace hi0 := eq_true hi0
      replace hi1 := eq_true hi1
      have hsz5 := blk_lt HV.out
      have hne := Kd.R_ne HR.out HV.out (by decide)
      have HNE := Aside0.mk hne
      clear hne
      go_wp2_with fail
      go_region_law (refine Kd.R_append_step (P := Tryd.prog) (Kd.int .i64) (w0 := w) (W := wr.drew) w.heap.size rfl (.tmp 25) (.tmp 30) 26 3 (.int .i64 0) 8 rfl Tryd.underlying26 info3 rfl (by decide) (by decide) vv ((vars.take k).map (fun i => rd x i)) (rd x (rd vars k)) [.int .i64 (rd x (rd vars k))] (fun _ => True) (fun _ => False) (by simp [Act.eval, Act.put]) (by simp [Act.eval, Act.put]) rfl (fun _ h => h.elim) (fun _ _ => trivial) (Kd.R_drew HR.out) (below_drew HB.out) (by have := HB.out.size; simpa using this) (by simp; omega) ?_; intro v1 w1 hR1 hB1 hG1 hAt1; obtain ⟨Av, cv, rfl⟩ := Kd.R_slice hR1; have HR1 := Aside0.mk hR1; have HB1 := Aside0.mk hB1; have HG1 := Aside0.mk hG1; clear hR1 hB1 hG1 hAt1; have hv5b : w1.cell? ⟨w.heap.size + 1, 0, none⟩ = some vv := (by have := blk_cell (blk_grown (blk_drew HV.out) HG1.out HNE.out) 0; simpa using this); have hf5b := blk_frozen (blk_grown (blk_drew HV.out) HG1.out HNE.out) 0)
      all_goals
        go_wp2
        go_roundw
        case rel =>
          have hV1 := blk_grown (blk_drew HV.out) HG1.out HNE.out
          have hC1 := blk_grown (blk_drew HC.out) HG1.out (Kd.R_ne HR.out HC.out (by decide))
          refine ⟨k + 1, .slice Av (k + 1) cv, by omega, by go_num, ⟨blk_put hV1 0 _ rfl⟩, ⟨blk_far hC1 (by simp) _⟩, ⟨?_⟩, ⟨below_set HB1.out (by omega)⟩⟩
          rw [take_map_snoc vars x k hlt]
          have h9 := Kd.R_set HR1.out hV1 (by simp [Kd.int, Kd.scalar]) 0 (.slice Av (k + 1) cv)
          simpa [Nat.min_eq_left (show k ≤ vars.length by omega)] using h9
        case measure => simp [intOf]; omega
    · obtain rfl : k = vars.length := by omega
      have HRx := HR.out
      rw [List.take_of_length_le (Nat.le_refl _)] at HRx
      obtain ⟨xs, hxs⟩ : ∃ xs, xs = vars.map (fun i => rd x i) := ⟨_, rfl⟩
      rw [← hxs] at HRx
      have hxl : xs.length = vars.length := by rw [hxs]; simp
      have HXS := Aside0.mk hxs
      have HXL := Aside0.mk hxl
      clear HR hxs hxl
      obtain ⟨Av, cv, rfl⟩ := Kd.R_slice HRx
      have HR := Aside0.mk HRx
      clear HRx
      have hsz5 := blk_lt HV.out
      have hv5 : wr.cell? ⟨w.heap.size + 1, 0, none⟩ = some (.slice Av xs.length cv) := by simpa using blk_cell HV.out 0
      have hf0 : wr.cell? ⟨w.heap.size, 0, none⟩ = some (.int .i64 kd) := by simpa using blk_cell HC.out 0
      have hf2 : wr.cell? ⟨w.heap.size, 2, none⟩ = some (.slice A2 nums.length c2) := by simpa using blk_cell HC.out 2
      have hf3 : wr.cell? ⟨w.heap.size, 3, none⟩ = some (.slice A3 uses.length c3) := by simpa using blk_cell HC.out 3
      have hf4 : wr.cell? ⟨w.heap.size, 4, none⟩ = some (.int .i64 lim) := by simpa using blk_cell HC.out 4
      have hf5 : wr.cell? ⟨w.heap.size, 5, none⟩ = some (.slice A5 rows.length c5) := by simpa using blk_cell HC.out 5
      by_cases hk1 : kd = 1
      · have hk1b : (kd == 1) = true := beq_iff_eq.2 hk1
        clear hk1
        go_wp2_with (first
          | (go_at_call 27; refine (clone_any _ xs _ w.heap.size (fun _ => True) HR.out (by have := HXL.out; omega)).mono ?_; rintro e w2 ⟨v2, rfl, hR2, hB2⟩; obtain ⟨A2', c2', rfl⟩ := Kd.R_slice hR2; have HR2 := Aside0.mk hR2; have HB2 := Aside0.mk hB2; clear hR2 hB2; have hv5c := pw_cell_below HB2.out hv5)
          | (go_at_call 28; refine (sort_any _ xs _ wr.heap.size (fun _ => True) HR2.out (by have := HXL.out; omega)).mono ?_; rintro e w3 ⟨rfl, hR3, hG3⟩; have HR3 := Aside0.mk hR3; have HG3 := Aside0.mk hG3; clear hR3 hG3))
        have hV3 := blk_grown (blk_below HV.out HB2.out) HG3.out (fun e => by have := own_base (Kd.own_of_R HR2.out) _ e.symm; omega)
        have HV3 := Aside0.mk hV3
        have hv5d : w3.cell? ⟨w.heap.size + 1, 0, none⟩ = some (.slice Av xs.length cv) := by simpa using blk_cell HV3.out 0
        clear hV3
        have HB3 := Aside0.mk (pw_below_grown (below_step HB.out HB2.out) _ (by have := HB.out.size; have := HB2.out.size; omega) HG3.out (fun k hk => by have := own_base (Kd.own_of_R HR2.out) _ hk; have := HB.out.size; omega))
        go_region_with (go_at_call 29; refine (compact_any _ _ _ wr.heap.size (fun _ => True) (Kd.R_drew HR3.out) (by have := HXL.out; simp; omega)).mono ?_; rintro e w4 ⟨A4, c4, rfl, hG4⟩; have HG4 := Aside0.mk hG4; clear hG4; have hv5e : w4.cell? ⟨w.heap.size + 1, 0, none⟩ = some (.slice Av xs.length cv) := (by have := blk_cell (blk_grown (blk_drew HV3.out) HG4.out (fun e => by have := own_base (Kd.own_of_R HR2.out) _ e.symm; omega)) 0; simpa using this))
        all_goals
          go_wp2
          go_ret
          have hb4 := pw_below_grown (below_drew HB3.out) _ (by have := HB3.out.size; simpa using this) HG4.out (fun k hk => by have := own_base (Kd.own_of_R HR2.out) _ hk; have := HB.out.size; omega)
          refine ⟨ret_bool ?_, by repeat (first | exact hb4 | apply below_drew | apply pw_below_drewN)⟩
          have hk1' := beq_iff_eq.1 hk1b
          rw [← HXS.out]
          unfold keepsB
          rw [if_pos hk1']
          rw [Bool.eq_iff_iff]; simp only [beq_iff_eq]; omega
      · have hk1b : (kd == 1) = false := beq_eq_false_iff_ne.2 hk1
        by_cases hk2 : kd = 2
        · have hk2b : (kd == 2) = true := beq_iff_eq.2 hk2
          clear hk1 hk2
          have HN := Aside0.mk (HN2.out (beq_iff_eq.1 hk2b))
          have BV := Aside0.mk (vals_bd (vars := vars) BX.out)
          go_wp2
          go_loop [52, 9, 10, 11] (fun v52 v9 v10 v11 => ∃ k : Nat, k ≤ nums.length ∧ v52 = .int .i64 k ∧ v9 = .int .i64 (sumTo nums xs k)) (fun v52 _ _ _ => nums.length - (intOf v52).toNat)
          case atStart => exact ⟨0, Nat.zero_le _, rfl, rfl⟩
          case round =>
            obtain ⟨k, hk, rfl, rfl⟩ := hrel
            have hxl := HXL.out
            have hnl := HN.out
            have BV' := BV.out
            rw [← HXS.out] at BV'
            have hsb := sumTo_bd nums xs k BN.out BV' (by omega) (by omega)
            obtain ⟨hsb0, hsb1⟩ := hsb
            have hk60 : k ≤ 60 := by omega
            by_cases hlt : k < nums.length
            · have hm := mul_bd _ _ (rd_bd (B := 100000000) (by decide) BN.out k) (rd_bd (B := 100000000) (by decide) BV' k)
              obtain ⟨hm0, hm1⟩ := hm
              obtain ⟨an, e, hcn⟩ := Kd.at_int H2.out (k : Int) (by omega) (by omega)
              cases e
              obtain ⟨av, e, hcv⟩ := Kd.at_int (kR_readsInt HR.out) (k : Int) (by omega) (by omega)
              cases e
              replace hcn := (HB.out.cell (World.block_lt_of_cell? w _ hcn)).trans hcn
              simp only [Int.toNat_natCast] at hcn hcv
              have HSS := Aside0.mk (sumTo_succ nums xs k (by omega) (by omega))
              have hkx : k < xs.length := by omega
              clear hxl hnl BV'
              go_wp2
              go_round
              case rel => exact ⟨k + 1, by omega, by go_num, by rw [HSS.out]⟩
              case measure => simp [intOf]; omega
            · obtain rfl : k = nums.length := by omega
              have HFIN := Aside0.mk (sumTo_all nums xs (by omega))
              clear hxl hnl BV' hsb0 hsb1
              go_wp2
              go_ret
              refine ⟨ret_bool ?_, by repeat (first | exact HB.out | apply below_drew | apply pw_below_drewN)⟩
              rw [← HXS.out]
              unfold keepsB
              rw [if_neg (by intro h; simp [h] at hk1b), if_pos (beq_iff_eq.1 hk2b), HFIN.out]
        · have hk2b : (kd == 2) = false := beq_eq_false_iff_ne.2 hk2
          by_cases hk3 : kd = 3
          · have hk3b : (kd == 3) = true := beq_iff_eq.2 hk3
            clear hk1 hk2 hk3
            have hent := enters_ (P := Tryd.prog) Tryd.func31 (by kernel_rfl) (by kernel_rfl)
            have HE := Aside0.mk hent
            clear hent
            have hCv := kR_readsInt HR.out
            have HCv := Aside0.mk hCv
            have HCvl := Aside0.mk (kR_cap HR.out)
            clear hCv
            go_wp2_with (go_at_call 30; refine (containsFunc_any A5 c5 rows 31 #[.pointer (some ⟨w.heap.size + 1, 0, none⟩)] wr (fun r => r == xs) (Kd.C_below H5.out HB.out) HC5.out (by have := HB5.out; omega) HE.out (fun i A' c' n hi hl hC => (keeps1_any A' c' (rd_L1 rows i) (w.heap.size + 1) Av cv xs _ (Kd.C_drewN hC _) hl (Kd.C_drewN HCv.out _) HCvl.out (by have := HB6.out (rd_L1 rows i) (rdL1_mem rows i hi); omega) hv5))).mono ?_; rintro e w' ⟨rfl, ⟨n', rfl⟩⟩)
            go_ret
            refine ⟨ret_bool ?_, by repeat (first | exact HB.out | apply below_drew | apply pw_below_drewN)⟩
            rw [← HXS.out]
            unfold keepsB
            rw [if_neg (by intro h; simp [h] at hk1b), if_neg (by intro h; simp [h] at hk2b), if_pos (beq_iff_eq.1 hk3b)]
          · have hk3b : (kd == 3) = false := beq_eq_false_iff_ne.2 hk3
            by_cases hk4 : kd = 4
            · have hk4b : (kd == 4) = true := beq_iff_eq.2 hk4
              clear hk1 hk2 hk3 hk4
              have hxl := HXL.out
              have h2l := HN4.out (beq_iff_eq.1 hk4b)
              have hlx : 2 ≤ xs.length := by omega
              clear h2l
              have hCv := kR_readsInt HR.out
              obtain ⟨gv, rfl⟩ := kR_at HR.out (by omega)
              obtain ⟨av, e, hcv0⟩ := Kd.at_int hCv 0 (by omega) (by omega)
              cases e
              obtain ⟨av', e, hcv1⟩ := Kd.at_int hCv 1 (by omega) (by omega)
              cases e
              have HCv := Aside0.mk hCv
              clear hCv
              have BV := Aside0.mk (vals_bd (vars := vars) BX.out)
              rw [← HXS.out] at BV
              have hb0 := rd_bd (B := 100000000) (by decide) BV.out 0
              obtain ⟨hb00, hb01⟩ := hb0
              simp only [Int.toNat_zero, Int.toNat_one, Int.natCast_zero, add_plain] at hcv0 hcv1 hb00 hb01
              have q0 := eq_true (show (0 : Int) < (xs.length : Int) by omega)
              have q1 := eq_true (show (1 : Int) < (xs.length : Int) by omega)
              have hxl60 : xs.length ≤ 60 := by omega
              clear hxl
              by_cases hi0 : 0 ≤ rd xs 0
              · by_cases hi1 : rd xs 0 < (xs.length : Int) - 2
                · obtain ⟨av2, e, hcv2⟩ := Kd.at_int HCv.out (2 + rd xs 0) (by omega) (by omega)
                  cases e
                  have hn2 : (2 + rd xs 0).toNat = 2 + (rd xs 0).toNat := by omega
                  rw [hn2] at hcv2
                  simp only [add_plain] at hcv2
                  have hw2 : (2 + rd xs 0) < (xs.length : Int) := by omega
                  have hd0 : decide (0 ≤ rd xs 0) = true := by simpa using hi0
                  have hd1 : decide (rd xs 0 < (xs.length : Int) - 2) = true := by simpa using hi1
                  have hp2 : 0 ≤ 2 + rd xs 0 := by omega
                  have e1 : IntKind.i64.wrap ((xs.length : Int) - 2) = (xs.length : Int) - 2 := IntWalk.i64_in _ (by omega)
                  have e2 : IntKind.i64.wrap (2 + rd xs 0) = 2 + rd xs 0 := IntWalk.i64_in _ (by omega)
                  go_wp2_with fail
                  go_quiet (fail)
                  clear e1 e2
                  go_wp2
                  go_ret
                  refine ⟨ret_bool ?_, by repeat (first | exact HB.out | apply below_drew | apply pw_below_drewN)⟩
                  rw [← HXS.out]
                  unfold keepsB
                  rw [if_neg (by intro h; simp [h] at hk1b), if_neg (by intro h; simp [h] at hk2b), if_neg (by intro h; simp [h] at hk3b), if_pos (beq_iff_eq.1 hk4b), hd0, hd1]
                  simp
                · have hd0 : decide (0 ≤ rd xs 0) = true := by simpa using hi0
                  have hd1 : decide (rd xs 0 < (xs.length : Int) - 2) = false := by simpa using hi1
                  have e1 : IntKind.i64.wrap ((xs.length : Int) - 2) = (xs.length : Int) - 2 := IntWalk.i64_in _ (by omega)
                  go_wp2_with fail
                  go_quiet (fail)
                  clear e1
                  go_wp2
                  go_ret
                  refine ⟨ret_bool ?_, by repeat (first | exact HB.out | apply below_drew | apply pw_below_drewN)⟩
                  rw [← HXS.out]
                  unfold keepsB
                  rw [if_neg (by intro h; simp [h] at hk1b), if_neg (by intro h; simp [h] at hk2b), if_neg (by intro h; simp [h] at hk3b), if_pos (beq_iff_eq.1 hk4b), hd0, hd1]
                  simp
              · have hd0 : decide (0 ≤ rd xs 0) = false := by simpa using hi0
                go_wp2_with fail
                go_quiet (fail)
                go_wp2
                go_ret
                refine ⟨ret_bool ?_, by repeat (first | exact HB.out | apply below_drew | apply pw_below_drewN)⟩
                rw [← HXS.out]
                unfold keepsB
                rw [if_neg (by intro h; simp [h] at hk1b), if_neg (by intro h; simp [h] at hk2b), if_neg (by intro h; simp [h] at hk3b), if_pos (beq_iff_eq.1 hk4b), hd0]
                simp
            · have hk4b : (kd == 4) = false := beq_eq_false_iff_ne.2 hk4
              have hN5 := HN5.out hk1 hk2 hk3 hk4
              clear hk1 hk2 hk3 hk4
              have hxl := HXL.out
              have HN5a := Aside0.mk (hN5.1.trans hxl.symm)
              have HN5b := Aside0.mk (hN5.2.trans hxl.symm)
              have HX60 := Aside0.mk (show xs.length ≤ 60 by omega)
              clear hxl hN5
              have BV := Aside0.mk (vals_bd (vars := vars) BX.out)
              rw [← HXS.out] at BV
              go_wp2
              go_loop [103, 13, 14] (fun v103 v13 v14 => ∃ i : Nat, i ≤ xs.length ∧ v103 = .int .i64 i ∧ Aside0 (∀ j : Nat, j < i → shareB nums uses xs lim j = true)) (fun v103 _ _ => xs.length - (intOf v103).toNat)
              case atStart => exact ⟨0, Nat.zero_le _, rfl, ⟨fun j h => absurd h (by omega)⟩⟩
              case round =>
                obtain ⟨i, hi, rfl, HALL⟩ := hrel
                by_cases hlt : i < xs.length
                · have hx60 := HX60.out
                  have hna := HN5a.out
                  have hnb := HN5b.out
                  obtain ⟨av, e, hcv⟩ := Kd.at_int (kR_readsInt HR.out) (i : Int) (by omega) (by omega)
                  cases e
                  obtain ⟨an, e, hcn⟩ := Kd.at_int H2.out (i : Int) (by omega) (by omega)
                  cases e
                  obtain ⟨au, e, hcu⟩ := Kd.at_int H3.out (i : Int) (by omega) (by omega)
                  cases e
                  replace hcn := (HB.out.cell (World.block_lt_of_cell? w _ hcn)).trans hcn
                  replace hcu := (HB.out.cell (World.block_lt_of_cell? w _ hcu)).trans hcu
                  simp only [Int.toNat_natCast] at hcn hcu hcv
                  have p1 := eq_true (show (i : Int) < (nums.length : Int) by omega)
                  have p2 := eq_true (show (i : Int) < (uses.length : Int) by omega)
                  clear hna hnb
                  by_cases z1 : rd nums i = 0
                  · have z1b : (rd nums i == 0) = true := by simpa using z1
                    have HS := Aside0.mk (show shareB nums uses xs lim i = true by simp [shareB, z1])
                    clear z1
                    go_wp2
                    go_round
                    case rel => exact ⟨i + 1, by omega, by go_num, ⟨share_step HALL.out HS.out⟩⟩
                    case measure => simp [intOf]; omega
                  · have z1b : (rd nums i == 0) = false := by simpa using z1
                    by_cases z2 : rd uses i = 0
                    · have z2b : (rd uses i == 0) = true := by simpa using z2
                      have HS := Aside0.mk (show shareB nums uses xs lim i = true by simp [shareB, z2])
                      clear z1 z2
                      go_wp2
                      go_round
                      case rel => exact ⟨i + 1, by omega, by go_num, ⟨share_step HALL.out HS.out⟩⟩
                      case measure => simp [intOf]; omega
                    · have z2b : (rd uses i == 0) = false := by simpa using z2
                      have HZ := Aside0.mk (And.intro z1 z2)
                      clear z1 z2
                      go_wp2
                      clear hcn hcu p1 p2
                      go_loop [124, 15, 16, 17] (fun v124 v15 v16 v17 => ∃ j : Nat, j ≤ xs.length ∧ v124 = .int .i64 j ∧ v15 = .int .i64 (useTo nums uses xs i j)) (fun v124 _ _ _ => xs.length - (intOf v124).toNat)
                      case atStart => exact ⟨0, Nat.zero_le _, rfl, rfl⟩
                      case round =>
                        obtain ⟨j, hj, rfl, rfl⟩ := hrel
                        have hub := useTo_bd nums uses xs i j BU.out
                        obtain ⟨hub0, hub1⟩ := hub
                        by_cases hlj : j < xs.length
                        · have hna := HN5a.out
                          have hnb := HN5b.out
                          obtain ⟨av', e, hcvj⟩ := Kd.at_int (kR_readsInt HR.out) (j : Int) (by omega) (by omega)
                          cases e
                          obtain ⟨an', e, hcn⟩ := Kd.at_int H2.out (j : Int) (by omega) (by omega)
                          cases e
                          obtain ⟨au', e, hcu⟩ := Kd.at_int H3.out (j : Int) (by omega) (by omega)
                          cases e
                          replace hcn := (HB.out.cell (World.block_lt_of_cell? w _ hcn)).trans hcn
                          replace hcu := (HB.out.cell (World.block_lt_of_cell? w _ hcu)).trans hcu
                          simp only [Int.toNat_natCast] at hcn hcu hcvj
                          have p1 := eq_true (show (j : Int) < (nums.length : Int) by omega)
                          have p2 := eq_true (show (j : Int) < (uses.length : Int) by omega)
                          have b1 := rd_bd (B := 100000000) (by decide) BV.out j
                          have b2 := rd_bd (B := 100000000) (by decide) BN.out j
                          have b3 := rd_bd (B := 100000000) (by decide) BU.out j
                          obtain ⟨b10, b11⟩ := b1
                          obtain ⟨b20, b21⟩ := b2
                          obtain ⟨b30, b31⟩ := b3
                          have HSTEP := Aside0.mk (useTo_succ nums uses xs i j)
                          clear hna hnb
                          by_cases c1 : rd xs j ≤ rd xs i
                          · have c1b : decide (rd xs j ≤ rd xs i) = true := decide_eq_true c1
                            by_cases c2 : rd xs i < rd xs j + rd nums j
                            · have c2b : decide (rd xs i < rd xs j + rd nums j) = true := decide_eq_true c2
                              go_wp2
                              go_round
                              case rel => exact ⟨j + 1, by omega, by go_num, by rw [HSTEP.out, if_pos ⟨c1, c2⟩]⟩
                              case measure => simp [intOf]; omega
                            · have c2b : decide (rd xs i < rd xs j + rd nums j) = false := decide_eq_false c2
                              go_wp2
                              go_round
                              case rel => exact ⟨j + 1, by omega, by go_num, by rw [HSTEP.out, if_neg (fun h => c2 h.2)]; go_num⟩
                              case measure => simp [intOf]; omega
                          · have c1b : decide (rd xs j ≤ rd xs i) = false := decide_eq_false c1
                            go_wp2
                            go_round
                            case rel => exact ⟨j + 1, by omega, by go_num, by rw [HSTEP.out, if_neg (fun h => c1 h.1)]; go_num⟩
                            case measure => simp [intOf]; omega
                        · obtain rfl : j = xs.length := by omega
                          have HUA := Aside0.mk (show useTo nums uses xs i xs.length = useAt nums uses xs i from rfl)
                          by_cases c3 : lim < useTo nums uses xs i xs.length
                          · have c3b : decide (lim < useTo nums uses xs i xs.length) = true := decide_eq_true c3
                            have HS := Aside0.mk (show shareB nums uses xs lim i = false by rw [HUA.out] at c3; simp [shareB, HZ.out.1, HZ.out.2]; omega)
                            clear c3
                            go_wp2
                            go_ret
                            refine ⟨ret_bool ?_, by repeat (first | exact HB.out | apply below_drew | apply pw_below_drewN)⟩
                            rw [← HXS.out]
                            unfold keepsB
                            rw [if_neg (by intro h; simp [h] at hk1b), if_neg (by intro h; simp [h] at hk2b), if_neg (by intro h; simp [h] at hk3b), if_neg (by intro h; simp [h] at hk4b)]
                            symm
                            rw [List.all_eq_false]
                            exact ⟨i, List.mem_range.2 hlt, by rw [HS.out]; simp⟩
                          · have c3b : decide (lim < useTo nums uses xs i xs.length) = false := decide_eq_false c3
                            have HS := Aside0.mk (show shareB nums uses xs lim i = true by rw [HUA.out] at c3; simp [shareB, HZ.out.1, HZ.out.2]; omega)
                            clear c3
                            go_wp2
                            go_round
                            case rel => exact ⟨i + 1, by omega, by go_num, ⟨share_step HALL.out HS.out⟩⟩
                            case measure => simp [intOf]; omega
                · have hii : i = xs.length := by omega
                  have HII := Aside0.mk hii
                  clear hii
                  go_wp2
                  go_ret
                  refine ⟨ret_bool ?_, by repeat (first | exact HB.out | apply below_drew | apply pw_below_drewN)⟩
                  rw [← HXS.out]
                  unfold keepsB
                  rw [if_neg (by intro h; simp [h] at hk1b), if_neg (by intro h; simp [h] at hk2b), if_neg (by intro h; simp [h] at hk3b), if_neg (by intro h; simp [h] at hk4b)]
                  symm
                  rw [List.all_eq_true]
                  intro j hj
                  exact HALL.out j (by rw [HII.out]; exact List.mem_range.1 hj)

/-- what the walk asks of a constraint and of the values -/
def KeepsOk (kd : Int) (vars nums uses : List Int) (rows : List (List Int)) (x : List Int) : Prop :=
  vars.length ≤ 60 ∧ (∀ v ∈ vars, 0 ≤ v ∧ v < x.length) ∧ rows.length ≤ 200 ∧ (∀ r ∈ rows, r.length ≤ 60) ∧ (kd = 2 → nums.length = vars.length) ∧ (kd = 4 → 2 ≤ vars.length) ∧
  (¬ kd = 1 → ¬ kd = 2 → ¬ kd = 3 → ¬ kd = 4 → nums.length = vars.length ∧ uses.length = vars.length) ∧
  (∀ v ∈ x, -100000000 ≤ v ∧ v ≤ 100000000) ∧ (∀ v ∈ nums, -100000000 ≤ v ∧ v ≤ 100000000) ∧ (∀ v ∈ uses, -100000000 ≤ v ∧ v ≤ 100000000)
set_option synthInstance.maxHeartbeats 400000 in
set_option synthInstance.maxSize 4000 in
instance (kd : Int) (vars nums uses : List Int) (rows : List (List Int)) (x : List Int) : Decidable (KeepsOk kd vars nums uses rows x) := by unfold KeepsOk; infer_instance
def finite_keeps.f (a0_0 : Int) (l0_1 l0_2 l0_3 : List Int) (a0_4 : Int) (l0_5 : List (List Int)) (l1 : List Int) : Option Bool :=
  if KeepsOk a0_0 l0_1 l0_2 l0_3 l0_5 l1 then some (keepsB a0_0 l0_2 l0_3 a0_4 l0_5 (l0_1.map fun i => rd l1 i)) else none
theorem finite_keeps.calls (a0_0 : Int) (A0_1 : Option Addr) (c0_1 : Nat) (l0_1 : List Int) (A0_2 : Option Addr) (c0_2 : Nat) (l0_2 : List Int) (A0_3 : Option Addr) (c0_3 : Nat) (l0_3 : List Int) (a0_4 : Int) (A0_5 : Option Addr) (c0_5 : Nat) (l0_5 : List (List Int)) (A1 : Option Addr) (c1 : Nat) (l1 : List Int) (r : Bool) (w : World) (hr0_1 : Kd.C (Kd.int .i64) w A0_1 l0_1.length l0_1) (hc0_1 : l0_1.length ≤ c0_1) (hr0_2 : Kd.C (Kd.int .i64) w A0_2 l0_2.length l0_2) (hc0_2 : l0_2.length ≤ c0_2) (hr0_3 : Kd.C (Kd.int .i64) w A0_3 l0_3.length l0_3) (hc0_3 : l0_3.length ≤ c0_3) (hr0_5 : Kd.C (Kd.slice 3 (Kd.int .i64)) w A0_5 l0_5.length l0_5) (hc0_5 : l0_5.length ≤ c0_5) (hr1 : Kd.C (Kd.int .i64) w A1 l1.length l1) (hc1 : l1.length ≤ c1) (h : finite_keeps.f a0_0 l0_1 l0_2 l0_3 a0_4 l0_5 l1 = some r) :
    Calls Tryd.prog 16 #[.agg #[.int .i64 a0_0, .slice A0_1 l0_1.length c0_1, .slice A0_2 l0_2.length c0_2, .slice A0_3 l0_3.length c0_3, .int .i64 a0_4, .slice A0_5 l0_5.length c0_5], .slice A1 l1.length c1] w fun e w' => e = .returned (.bool r) ∧ Below w.heap.size w w' := by
  unfold finite_keeps.f at h
  split at h
  · rename_i hk
    obtain ⟨k1, k2, k3, k4, k5, k6, k7, k8, k9, k10⟩ := hk
    obtain rfl := Option.some.inj h
    exact keeps_any a0_0 A0_1 c0_1 l0_1 A0_2 c0_2 l0_2 A0_3 c0_3 l0_3 a0_4 A0_5 c0_5 l0_5 A1 c1 l1 w hr0_1 hc0_1 hr0_2 hc0_2 hr0_3 hc0_3 hr0_5 hc0_5 hr1 hc1 k1 k2 k3 k4 k5 k6 k7 k8 k9 k10
  · cases h
end Go.Proofs.YtehekppkicjimaaDoor.QFK
