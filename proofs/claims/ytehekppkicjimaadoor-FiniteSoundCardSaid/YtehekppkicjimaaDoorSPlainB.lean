/- The plain law of the reference's kept: it answers as finite.keeps does. Conditions: the constraint is well formed and the values are small. The plain law of FiniteKeeps: what it computes answers true. Conditions: none. -/
import Derived.Test.YtehekppkicjimaaDoorSPlainA
import Derived.Test.YtehekppkicjimaaDoorSKeeps
import Derived.Test.YtehekppkicjimaaDoorSQFKx22
import Derived.Test.YtehekppkicjimaaDoorSQFKx5
import Derived.Test.YtehekppkicjimaaDoorSQFKx7
import Derived.Test.YtehekppkicjimaaDoorSQFKx9
import Derived.Test.YtehekppkicjimaaDoorSQFKx11
namespace Go.Proofs.YtehekppkicjimaaDoor.QFK
open Go.RowKit Go.Proofs.YtehekppkicjimaaDoorW.PrintWords Go.Proofs.YtehekppkicjimaaDoorW.PrintLast Go.Proofs.YtehekppkicjimaaDoorW.PrintMore
set_option linter.unusedVariables false
set_option linter.unusedSimpArgs false

/-! ### no value twice -/
theorem compact_len (zs : List Int) (hs : zs.Pairwise fun a b => a ≤ b) : (Lib.compact zs).length = zs.length ↔ zs.Nodup := by
  have h1 : (Lib.compact zs).length = zs.length ↔ ∀ j, j < zs.length → Lib.keeps zs.toArray j = true := by
    unfold Lib.compact Lib.compactUpTo
    rw [List.length_map]
    have := @List.length_filter_eq_length_iff _ (Lib.keeps zs.toArray) (List.range zs.length)
    rw [List.length_range] at this
    rw [this]
    constructor
    · intro h j hj; exact h j (List.mem_range.2 hj)
    · intro h j hj; exact h j (List.mem_range.1 hj)
  rw [h1]
  rw [List.Nodup, List.pairwise_iff_getElem]
  rw [List.pairwise_iff_getElem] at hs
  constructor
  · intro h
    have hlt : ∀ d i (hi : i < zs.length) (hj : i + d + 1 < zs.length), zs[i] < zs[i + d + 1] := by
      intro d
      induction d with
      | zero =>
        intro i hi hj
        have hk := h (i + 1) hj
        have h2 := hs i (i + 1) hi hj (by omega)
        have h3 : zs[i + 1]'hj ≠ zs[i] := by
          simp only [Lib.keeps, decide_eq_true_eq] at hk
          rcases hk with hk | hk
          · omega
          · simpa [hi, hj] using hk
        have := h3; simp only [Nat.add_zero]; omega
      | succ d ih =>
        intro i hi hj
        have a := ih i hi (by omega)
        have b := hs (i + d + 1) (i + d + 2) (by omega) hj (by omega)
        have : zs[i + (d + 1) + 1]'hj = zs[i + d + 2]'hj := rfl
        rw [this]; omega
    intro i j hi hj hij
    have := hlt (j - i - 1) i hi (by omega)
    have e : i + (j - i - 1) + 1 = j := by omega
    simp only [e] at this
    omega
  · intro h j hj
    simp only [Lib.keeps, decide_eq_true_eq]
    by_cases h0 : j = 0
    · exact Or.inl h0
    · right
      have := h (j - 1) j (by omega) hj (by omega)
      have hj1 : j - 1 < zs.length := by omega
      simp [hj, hj1]
      exact fun e => this e.symm
theorem nodupB (v : List Int) : ((Lib.compact (v.mergeSort fun x y => decide (x ≤ y))).length == v.length) = decide v.Nodup := by
  have hp : (v.mergeSort fun x y => decide (x ≤ y)).Perm v := List.mergeSort_perm v _
  have hs : (v.mergeSort fun x y => decide (x ≤ y)).Pairwise fun a b => a ≤ b := by
    have := List.pairwise_mergeSort (le := fun x y : Int => decide (x ≤ y)) (fun a b c h1 h2 => by simp at *; omega) (fun a b => by simp; omega) v
    exact this.imp (fun h => by simpa using h)
  rw [Bool.eq_iff_iff, beq_iff_eq, decide_eq_true_eq, ← hp.length_eq, compact_len _ hs]
  exact hp.nodup_iff
theorem dup_iff (v : List Int) : (!decide v.Nodup) = true ↔ ∃ i : Nat, i < v.length ∧ (v.take i).contains (rd v i) = true := by
  simp only [Bool.not_eq_true', decide_eq_false_iff_not]
  rw [List.Nodup, List.pairwise_iff_getElem]
  constructor
  · intro h
    by_cases hh : ∃ i : Nat, i < v.length ∧ (v.take i).contains (rd v i) = true
    · exact hh
    · exfalso; apply h
      intro i j hi hj hij e
      apply hh
      refine ⟨j, hj, ?_⟩
      rw [List.contains_iff_mem, rd_in hj, ← e]
      exact List.mem_take_iff_getElem.2 ⟨i, by omega, rfl⟩
  · rintro ⟨i, hi, hc⟩ h
    rw [List.contains_iff_mem, rd_in hi] at hc
    obtain ⟨j, hj, e⟩ := List.mem_take_iff_getElem.1 hc
    exact h j i (by omega) hi (by omega) e
section
variable (kd : Int) (vars nums uses : List Int) (lim : Int) (rows : List (List Int)) (v : List Int)
theorem kept_differ (hv : v.length ≤ 60) : Ev (fun k => optimaref3_kept.l0 k v 0) (decide v.Nodup) := by
  have h := Ev.find (g := fun k i => optimaref3_kept.l0 k v i) (n := v.length) (p := fun i => (v.take i).contains (rd v i)) (q := !decide v.Nodup) (r1 := false) (r0 := true) (dup_iff v) ?_ ?_ ?_
  · rw [ifB', Bool.not_not] at h; exact h
  · intro _
    refine Ev.step (fun k => by rw [optimaref3_kept.l0]) ?_
    simp only [Int.lt_irrefl, ↓reduceIte]; exact Ev.now _
  · intro i hi hp
    have k0 : (0 : Int) ≤ i := by omega
    have k1 : (i : Int) < v.length := by omega
    have k2 : (i : Int) ≤ v.length := by omega
    refine Ev.step (fun k => by rw [optimaref3_kept.l0]) ?_
    simp only [k0, k1, k2, ↓reduceIte, Int.toNat_natCast]
    refine Ev.bind (in_ev _ (by unfold LenOk; simp; omega) _) ?_
    rw [hp]; exact Ev.now _
  · intro r i hi hp h
    have k0 : (0 : Int) ≤ i := by omega
    have k1 : (i : Int) < v.length := by omega
    have k2 : (i : Int) ≤ v.length := by omega
    refine Ev.step (fun k => by rw [optimaref3_kept.l0]) ?_
    simp only [k0, k1, k2, ↓reduceIte, Int.toNat_natCast]
    refine Ev.bind (in_ev _ (by unfold LenOk; simp; omega) _) ?_
    rw [hp]
    simp only [Bool.false_eq_true, ↓reduceIte, wrap_succ hi (show v.length < 4611686018427387904 by omega)]
    exact h
theorem wrap_mid {x : Int} (h0 : -4611686018427387904 ≤ x) (h1 : x ≤ 4611686018427387904) : wrap64 x = x := by unfold wrap64; omega
theorem kept_total (hv : v.length ≤ 60) (hn : nums.length = v.length) (bn : ∀ x ∈ nums, -100000000 ≤ x ∧ x ≤ 100000000) (bv : ∀ x ∈ v, -100000000 ≤ x ∧ x ≤ 100000000) (d : Nat) :
    ∀ i : Nat, i + d = v.length → Ev (fun k => optimaref3_kept.l1 k v (sumTo nums v i) (i : Int) kd vars nums uses lim rows) ((List.zipWith (· * ·) nums v).sum == lim) := by
  induction d with
  | zero =>
    intro i hi
    refine Ev.step (fun k => by rw [optimaref3_kept.l1]) ?_
    have k1 : ¬ (i : Int) < v.length := by omega
    simp only [k1, ↓reduceIte]
    rw [show i = nums.length by omega, sumTo_all nums v hn]; exact Ev.now _
  | succ d ih =>
    intro i hi
    have k0 : (0 : Int) ≤ i := by omega
    have k1 : (i : Int) < v.length := by omega
    have k2 : (i : Int) < nums.length := by omega
    have hb := mul_bd _ _ (rd_bd (B := 100000000) (by decide) bn i) (rd_bd (B := 100000000) (by decide) bv i)
    have hs := sumTo_bd nums v (i + 1) bn bv (by omega) (by omega)
    have e := sumTo_succ nums v i (by omega) (by omega)
    refine Ev.step (fun k => by rw [optimaref3_kept.l1]) ?_
    simp only [k0, k1, k2, ↓reduceIte, wrap_succ (show i < v.length by omega) (show v.length < 4611686018427387904 by omega)]
    rw [wrap_mid (x := rd nums i * rd v i) (by omega) (by omega), ← e, wrap_mid (by omega) (by omega)]
    exact ih (i + 1) (by omega)
theorem kept_row (i : Nat) (hv : v.length ≤ 60) (hi : i < rows.length) (hr : (rd_L1 rows i).length = v.length) {r : Bool} (h : (rd_L1 rows i == v) = false → Ev (fun k => optimaref3_kept.l2 k v (wrap64 ((i : Int) + 1)) kd vars nums uses lim rows) r) (ht : (rd_L1 rows i == v) = true → r = true) (d : Nat) :
    ∀ (j : Nat) (b : Bool), j + d = v.length → (b = true ↔ ∀ m : Nat, m < j → rd (rd_L1 rows i) m = rd v m) → Ev (fun k => optimaref3_kept.l3 k v i b j kd vars nums uses lim rows) r := by
  induction d with
  | zero =>
    intro j b hj hb
    refine Ev.step (fun k => by rw [optimaref3_kept.l3]) ?_
    have k1 : ¬ (j : Int) < v.length := by omega
    have he : b = (rd_L1 rows i == v) := by
      rw [Bool.eq_iff_iff, hb, beq_iff_eq]
      constructor
      · intro hall
        apply List.ext_getElem hr
        intro m h1 h2
        have := hall m (by omega)
        rwa [rd_in h1, rd_in h2] at this
      · intro e m hm; rw [e]
    cases b with
    | true => simp only [k1, ↓reduceIte]; rw [ht he.symm]; exact Ev.now _
    | false => simp only [k1, Bool.false_eq_true, ↓reduceIte]; exact h he.symm
  | succ d ih =>
    intro j b hj hb
    have k0 : (0 : Int) ≤ j := by omega
    have k1 : (j : Int) < v.length := by omega
    have k2 : (j : Int) < (rd_L1 rows i).length := by omega
    have k3 : (0 : Int) ≤ i := by omega
    have k4 : (i : Int) < rows.length := by omega
    refine Ev.step (fun k => by rw [optimaref3_kept.l3]) ?_
    cases b with
    | true =>
      simp only [k0, k1, k2, k3, k4, ↓reduceIte, wrap_succ (show j < v.length by omega) (show v.length < 4611686018427387904 by omega)]
      refine ih (j + 1) _ (by omega) ?_
      rw [beq_iff_eq]
      constructor
      · intro e m hm
        rcases Nat.lt_or_ge m j with hlt | hge
        · exact hb.1 rfl m hlt
        · rw [show m = j by omega]; exact e
      · intro hall; exact hall j (by omega)
    | false =>
      simp only [k0, k1, k2, k3, k4, Bool.false_eq_true, ↓reduceIte, wrap_succ (show j < v.length by omega) (show v.length < 4611686018427387904 by omega)]
      refine ih (j + 1) _ (by omega) ?_
      constructor
      · intro e; cases e
      · intro hall; exact hb.2 fun m hm => hall m (by omega)
theorem kept_table (hv : v.length ≤ 60) (h200 : rows.length ≤ 200) (hr : ∀ r ∈ rows, r.length = v.length) :
    Ev (fun k => optimaref3_kept.l2 k v 0 kd vars nums uses lim rows) (rows.any fun r => r == v) := by
  have hr' : ∀ i : Nat, i < rows.length → (rd_L1 rows i).length = v.length := fun i hi => by rw [rdL1_in hi]; exact hr _ (List.getElem_mem hi)
  have h := Ev.find (g := fun k i => optimaref3_kept.l2 k v i kd vars nums uses lim rows) (n := rows.length) (p := fun i => rd_L1 rows i == v) (q := rows.any fun r => r == v) (r1 := true) (r0 := false) (any_rdL1 rows _) ?_ ?_ ?_
  · rw [ifB] at h; exact h
  · intro _
    refine Ev.step (fun k => by rw [optimaref3_kept.l2]) ?_
    simp only [Int.lt_irrefl, ↓reduceIte]; exact Ev.now _
  · intro i hi hp
    have k1 : (i : Int) < rows.length := by omega
    refine Ev.step (fun k => by rw [optimaref3_kept.l2]) ?_
    simp only [k1, ↓reduceIte]
    exact kept_row kd vars nums uses lim rows v i hv hi (hr' i hi) (fun h => by rw [h] at hp; cases hp) (fun _ => rfl) v.length 0 true (by omega) (by simp)
  · intro r i hi hp h
    have k1 : (i : Int) < rows.length := by omega
    refine Ev.step (fun k => by rw [optimaref3_kept.l2]) ?_
    simp only [k1, ↓reduceIte]
    exact kept_row kd vars nums uses lim rows v i hv hi (hr' i hi) (fun _ => by rw [wrap_succ hi (show rows.length < 4611686018427387904 by omega)]; exact h) (fun h' => by rw [h'] at hp; cases hp) v.length 0 true (by omega) (by simp)
end

/-! ### tasks that share a limit -/
theorem most_of (n : Nat) (P : Nat → Prop) (f : Nat → Int) (h : ∃ k, k < n ∧ P k) : ∃ k, k < n ∧ P k ∧ ∀ j, j < n → P j → f j ≤ f k := by
  induction n with
  | zero => obtain ⟨k, hk, _⟩ := h; omega
  | succ n ih =>
    by_cases hn : ∃ k, k < n ∧ P k
    · obtain ⟨k, hk, hp, hm⟩ := ih hn
      by_cases hq : P n ∧ f k < f n
      · refine ⟨n, by omega, hq.1, fun j hj hpj => ?_⟩
        rcases Nat.lt_or_ge j n with h1 | h1
        · have := hm j h1 hpj; omega
        · rw [show j = n by omega]; exact Int.le_refl _
      · refine ⟨k, by omega, hp, fun j hj hpj => ?_⟩
        rcases Nat.lt_or_ge j n with h1 | h1
        · exact hm j h1 hpj
        · rw [show j = n by omega] at hpj ⊢
          rcases Int.lt_or_le (f k) (f n) with h2 | h2
          · exact absurd ⟨hpj, h2⟩ hq
          · exact h2
    · obtain ⟨k, hk, hp⟩ := h
      have : k = n := by
        rcases Nat.lt_or_ge k n with h1 | h1
        · exact absurd ⟨k, h1, hp⟩ hn
        · omega
      subst this
      refine ⟨k, hk, hp, fun j hj hpj => ?_⟩
      rcases Nat.lt_or_ge j k with h1 | h1
      · exact absurd ⟨j, h1, hpj⟩ hn
      · rw [show j = k by omega]; exact Int.le_refl _
section
variable (nums uses v : List Int)
theorem useTo_none (i m : Nat) (h : ∀ k : Nat, k < m → ¬ (rd v k ≤ rd v i ∧ rd v i < rd v k + rd nums k ∧ 0 < rd uses k)) : useTo nums uses v i m ≤ 0 := by
  induction m with
  | zero => simp [useTo]
  | succ m ih =>
    have h1 := ih fun k hk => h k (by omega)
    have h2 := h m (by omega)
    rw [useTo_succ]
    split
    · rename_i hc; have : ¬ 0 < rd uses m := fun e => h2 ⟨hc.1, hc.2, e⟩; omega
    · omega
theorem useTo_mono (hu : ∀ k : Nat, 0 ≤ rd uses k) (i j m : Nat) (h : ∀ k : Nat, k < m → rd v k ≤ rd v i ∧ rd v i < rd v k + rd nums k ∧ 0 < rd uses k → rd v k ≤ rd v j ∧ rd v j < rd v k + rd nums k) : useTo nums uses v i m ≤ useTo nums uses v j m := by
  induction m with
  | zero => simp [useTo]
  | succ m ih =>
    have h1 := ih fun k hk => h k (by omega)
    have h2 := h m (by omega)
    have h3 := hu m
    rw [useTo_succ, useTo_succ]
    by_cases c : rd v m ≤ rd v i ∧ rd v i < rd v m + rd nums m
    · by_cases p : 0 < rd uses m
      · rw [if_pos c, if_pos (h2 ⟨c.1, c.2, p⟩)]; omega
      · rw [if_pos c]; split <;> omega
    · rw [if_neg c]; split <;> omega
/-- the reference's question at a task -/
def overB (lim : Int) (i : Nat) : Bool := decide (0 < rd nums i) && decide (lim < useTo nums uses v i v.length)
theorem share_iff (lim : Int) (hl : 0 ≤ lim) (hn : ∀ k : Nat, 0 ≤ rd nums k) (hu : ∀ k : Nat, 0 ≤ rd uses k) :
    (!((List.range v.length).all fun (i : Nat) => shareB nums uses v lim i)) = true ↔ ∃ i : Nat, i < v.length ∧ overB nums uses v lim i = true := by
  have hat : ∀ i : Nat, useAt nums uses v i = useTo nums uses v i v.length := fun _ => rfl
  constructor
  · intro h
    simp only [Bool.not_eq_true', List.all_eq_false, List.mem_range] at h
    obtain ⟨i, hi, hs⟩ := h
    refine ⟨i, hi, ?_⟩
    simp only [shareB, Bool.or_eq_true, beq_iff_eq, decide_eq_true_eq, hat, not_or] at hs
    have := hn i
    simp only [overB, Bool.and_eq_true, decide_eq_true_eq]
    omega
  · rintro ⟨i, hi, ho⟩
    simp only [overB, Bool.and_eq_true, decide_eq_true_eq] at ho
    simp only [Bool.not_eq_true', List.all_eq_false, List.mem_range]
    have hex : ∃ k, k < v.length ∧ (rd v k ≤ rd v i ∧ rd v i < rd v k + rd nums k ∧ 0 < rd uses k) := by
      by_cases hh : ∃ k : Nat, k < v.length ∧ (rd v k ≤ rd v i ∧ rd v i < rd v k + rd nums k ∧ 0 < rd uses k)
      · exact hh
      · have := useTo_none nums uses v i v.length fun k hk e => hh ⟨k, hk, e⟩
        omega
    obtain ⟨j, hj, hp, hmax⟩ := most_of v.length (fun k => rd v k ≤ rd v i ∧ rd v i < rd v k + rd nums k ∧ 0 < rd uses k) (fun k => rd v k) hex
    refine ⟨j, hj, ?_⟩
    have hm := useTo_mono nums uses v hu i j v.length fun k hk hc => ⟨hmax k hk hc, by have := hp.1; omega⟩
    simp only [shareB, Bool.or_eq_true, beq_iff_eq, decide_eq_true_eq, hat, not_or]
    omega
variable (kd : Int) (vars : List Int) (lim : Int) (rows : List (List Int))
theorem kept_sum (i : Nat) (hi : i < v.length) (hv : v.length ≤ 60) (hn : nums.length = v.length) (hu : uses.length = v.length) (bv : ∀ x ∈ v, -100000000 ≤ x ∧ x ≤ 100000000) (bn : ∀ x ∈ nums, -100000000 ≤ x ∧ x ≤ 100000000) (bu : ∀ x ∈ uses, -100000000 ≤ x ∧ x ≤ 100000000)
    {r : Bool} (h : overB nums uses v lim i = false → Ev (fun k => optimaref3_kept.l4 k v (wrap64 ((i : Int) + 1)) kd vars nums uses lim rows) r) (ht : overB nums uses v lim i = true → r = false) (d : Nat) :
    ∀ j : Nat, j + d = v.length → Ev (fun k => optimaref3_kept.l5 k v i (useTo nums uses v i j) j kd vars nums uses lim rows) r := by
  have k3 : (0 : Int) ≤ i := by omega
  have k4 : (i : Int) < v.length := by omega
  have k5 : (i : Int) < nums.length := by omega
  induction d with
  | zero =>
    intro j hj
    refine Ev.step (fun k => by rw [optimaref3_kept.l5]) ?_
    have k1 : ¬ (j : Int) < v.length := by omega
    simp only [k1, k3, k5, ↓reduceIte]
    rw [show j = v.length by omega]
    by_cases c1 : rd nums i > 0
    · by_cases c2 : useTo nums uses v i v.length > lim
      · simp only [c1, c2, ↓reduceIte]
        rw [ht (by simp only [overB, Bool.and_eq_true, decide_eq_true_eq]; omega)]
        exact Ev.now _
      · simp only [c1, c2, ↓reduceIte]
        refine h ?_
        rw [← Bool.not_eq_true, overB, Bool.and_eq_true, decide_eq_true_eq, decide_eq_true_eq]; omega
    · simp only [c1, ↓reduceIte]
      refine h ?_
      rw [← Bool.not_eq_true, overB, Bool.and_eq_true, decide_eq_true_eq, decide_eq_true_eq]; omega
  | succ d ih =>
    intro j hj
    have k0 : (0 : Int) ≤ j := by omega
    have k1 : (j : Int) < v.length := by omega
    have k2 : (j : Int) < nums.length := by omega
    have k6 : (j : Int) < uses.length := by omega
    have b1 := rd_bd (B := 100000000) (by decide) bv j
    have b2 := rd_bd (B := 100000000) (by decide) bn j
    have b3 := rd_bd (B := 100000000) (by decide) bu j
    have b4 := useTo_bd nums uses v i j bu
    have e := useTo_succ nums uses v i j
    have ih' := ih (j + 1) (by omega)
    rw [e] at ih'
    refine Ev.step (fun k => by rw [optimaref3_kept.l5]) ?_
    simp only [k0, k1, k2, k3, k4, k6, ↓reduceIte, wrap_succ (show j < v.length by omega) (show v.length < 4611686018427387904 by omega)]
    by_cases c1 : rd v j ≤ rd v i
    · rw [wrap_mid (by omega) (by omega)]
      by_cases c2 : rd v i < rd v j + rd nums j
      · rw [if_pos ⟨c1, c2⟩] at ih'
        simp only [c1, c2, ↓reduceIte]
        rw [wrap_mid (by omega) (by omega)]
        exact ih'
      · rw [if_neg (fun hh => c2 hh.2), Int.add_zero] at ih'
        simp only [c1, c2, ↓reduceIte]
        exact ih'
    · rw [if_neg (fun hh => c1 hh.1), Int.add_zero] at ih'
      simp only [c1, ↓reduceIte]
      exact ih'
theorem kept_share (hv : v.length ≤ 60) (hn : nums.length = v.length) (hu : uses.length = v.length) (bv : ∀ x ∈ v, -100000000 ≤ x ∧ x ≤ 100000000) (bn : ∀ x ∈ nums, -100000000 ≤ x ∧ x ≤ 100000000) (bu : ∀ x ∈ uses, -100000000 ≤ x ∧ x ≤ 100000000)
    (hl : 0 ≤ lim) (pn : ∀ k : Nat, 0 ≤ rd nums k) (pu : ∀ k : Nat, 0 ≤ rd uses k) :
    Ev (fun k => optimaref3_kept.l4 k v 0 kd vars nums uses lim rows) ((List.range v.length).all fun (i : Nat) => shareB nums uses v lim i) := by
  have h := Ev.find (g := fun k i => optimaref3_kept.l4 k v i kd vars nums uses lim rows) (n := v.length) (p := overB nums uses v lim) (q := !((List.range v.length).all fun (i : Nat) => shareB nums uses v lim i)) (r1 := false) (r0 := true) (share_iff nums uses v lim hl pn pu) ?_ ?_ ?_
  · rw [ifB', Bool.not_not] at h; exact h
  · intro _
    refine Ev.step (fun k => by rw [optimaref3_kept.l4]) ?_
    simp only [Int.lt_irrefl, ↓reduceIte]; exact Ev.now _
  · intro i hi hp
    have k1 : (i : Int) < v.length := by omega
    refine Ev.step (fun k => by rw [optimaref3_kept.l4]) ?_
    simp only [k1, ↓reduceIte]
    exact kept_sum nums uses v kd vars lim rows i hi hv hn hu bv bn bu (fun h => by rw [h] at hp; cases hp) (fun _ => rfl) v.length 0 (by omega)
  · intro r i hi hp h
    have k1 : (i : Int) < v.length := by omega
    refine Ev.step (fun k => by rw [optimaref3_kept.l4]) ?_
    simp only [k1, ↓reduceIte]
    exact kept_sum nums uses v kd vars lim rows i hi hv hn hu bv bn bu (fun _ => by rw [wrap_succ hi (show v.length < 4611686018427387904 by omega)]; exact h) (fun h' => by rw [h'] at hp; cases hp) v.length 0 (by omega)
end

theorem small_of {v : Int} (h : bigB v = false) : -100000000 ≤ v ∧ v ≤ 100000000 := by
  simp only [bigB, Bool.or_eq_false_iff, decide_eq_false_iff_not] at h; omega
theorem small_all {l : List Int} (h : l.any bigB = false) : ∀ x ∈ l, -100000000 ≤ x ∧ x ≤ 100000000 := by
  intro x hx
  refine small_of ?_
  cases hb : bigB x with
  | false => rfl
  | true => have := List.any_eq_true.2 ⟨x, hx, hb⟩; rw [h] at this; cases this
/-- what a constraint without a fault has -/
structure Fine (n : Int) (a0 : Int) (l1 l2 l3 : List Int) (a4 : Int) (l5 : List (List Int)) : Prop where
  b1 : l1.length ≤ 60
  b2 : l2.length ≤ 60
  b3 : l3.length ≤ 60
  b5 : l5.length ≤ 200
  rows : ∀ r ∈ l5, r.length ≤ 60
  s2 : ∀ x ∈ l2, -100000000 ≤ x ∧ x ≤ 100000000
  s3 : ∀ x ∈ l3, -100000000 ≤ x ∧ x ≤ 100000000
  near : ∀ x ∈ l1, 0 ≤ x ∧ x < n
  form : formedB a0 l1 l2 l3 a4 l5 = true
theorem Fine.of {n a0 : Int} {l1 l2 l3 : List Int} {a4 : Int} {l5 : List (List Int)} (h : conE n a0 l1 l2 l3 a4 l5 = none) : Fine n a0 l1 l2 l3 a4 l5 := by
  unfold conE at h
  split at h
  · cases h
  · rename_i h1
    split at h
    · cases h
    · rename_i h2
      split at h
      · cases h
      · rename_i h3
        split at h
        · cases h
        · rename_i h4
          split at h
          · rename_i h5
            rw [Bool.not_eq_true] at h2 h3 h4
            simp only [conBig, Bool.or_eq_false_iff] at h3
            refine ⟨by omega, by omega, by omega, by omega, ?_, small_all h3.1, small_all h3.2.1, ?_, h5⟩
            · intro r hr
              have := List.any_eq_false.1 h2 r hr
              simpa using this
            · intro x hx
              have := List.any_eq_false.1 h4 x hx
              simp only [Bool.or_eq_true, decide_eq_true_eq, not_or] at this; omega
          · cases h
theorem nonneg_of {l : List Int} (h : l.any (fun v => decide (v < 0)) = false) : ∀ k : Nat, 0 ≤ rd l k := by
  intro k
  by_cases hk : k < l.length
  · rw [rd_in hk]; have := List.any_eq_false.1 h _ (List.getElem_mem hk); simpa using this
  · simp [rd, List.getD_eq_getElem?_getD, List.getElem?_eq_none (Nat.le_of_not_lt hk)]
theorem kept_ev {n a0 : Int} {l1 l2 l3 : List Int} {a4 : Int} {l5 : List (List Int)} (F : Fine n a0 l1 l2 l3 a4 l5) (v : List Int) (hv : v.length = l1.length) (bv : ∀ x ∈ v, -100000000 ≤ x ∧ x ≤ 100000000) :
    Ev (fun k => optimaref3_kept.f k a0 l1 l2 l3 a4 l5 v) (keepsB a0 l2 l3 a4 l5 v) := by
  have hf := F.form
  have b1 := F.b1
  unfold formedB at hf
  unfold keepsB
  by_cases h1 : a0 = 1
  · simp only [optimaref3_kept.f, h1, ↓reduceIte]
    rw [nodupB]
    exact kept_differ v (by omega)
  by_cases h2 : a0 = 2
  · subst h2
    simp only [optimaref3_kept.f, h1, ↓reduceIte] at hf ⊢
    simp only [Bool.and_eq_true, decide_eq_true_eq] at hf
    have := kept_total 2 l1 l2 l3 a4 l5 v (by omega) (by omega) F.s2 bv v.length 0 (by omega)
    simpa [sumTo] using this
  by_cases h3 : a0 = 3
  · subst h3
    simp only [optimaref3_kept.f, h1, h2, ↓reduceIte] at hf ⊢
    simp only [Bool.and_eq_true, decide_eq_true_eq, Bool.not_eq_true'] at hf
    refine kept_table 3 l1 l2 l3 a4 l5 v (by omega) F.b5 ?_
    intro r hr
    have := List.any_eq_false.1 hf.1.1.1 r hr
    simp only [decide_eq_true_eq, Classical.not_not] at this; omega
  by_cases h4 : a0 = 4
  · subst h4
    simp only [optimaref3_kept.f, h1, h2, h3, ↓reduceIte] at hf ⊢
    simp only [Bool.and_eq_true, decide_eq_true_eq] at hf
    have k0 : (0 : Int) < v.length := by omega
    have k1 : (1 : Int) < v.length := by omega
    have w1 : wrap64 ((v.length : Int) - 2) = (v.length : Int) - 2 := wrap_small (by omega) (by omega)
    by_cases c1 : rd v 0 ≥ 0
    · by_cases c2 : rd v 0 < (v.length : Int) - 2
      · have w2 : wrap64 (2 + rd v 0) = 2 + rd v 0 := wrap_small (by omega) (by omega)
        have c3 : (0 : Int) ≤ 2 + rd v 0 := by omega
        have c4 : 2 + rd v 0 < (v.length : Int) := by omega
        have c1' : (0 : Int) ≤ rd v 0 := c1
        simp only [k0, k1, w1, c1, c1', c2, w2, c3, c4, ↓reduceIte, decide_true, Bool.true_and]; exact Ev.now _
      · have d2 : decide (rd v 0 < (v.length : Int) - 2) = false := by simpa using c2
        simp only [k0, k1, w1, c1, c2, d2, ↓reduceIte, Bool.and_false, Bool.false_and]; exact Ev.now _
    · have d1 : decide (0 ≤ rd v 0) = false := by simp; omega
      simp only [k0, k1, w1, c1, d1, ↓reduceIte, Bool.false_and]; exact Ev.now _
  by_cases h5 : a0 = 5
  · subst h5
    simp only [optimaref3_kept.f, h1, h2, h3, h4, ↓reduceIte] at hf ⊢
    simp only [Bool.and_eq_true, decide_eq_true_eq, Bool.not_eq_true', Bool.or_eq_false_iff] at hf
    exact kept_share l2 l3 v 5 l1 a4 l5 (by omega) (by omega) (by omega) bv F.s2 F.s3 (by omega) (nonneg_of hf.2.1) (nonneg_of hf.2.2)
  · simp only [h1, h2, h3, h4, h5, ↓reduceIte] at hf; cases hf
theorem keeps_ok {n a0 : Int} {l1 l2 l3 : List Int} {a4 : Int} {l5 : List (List Int)} (F : Fine n a0 l1 l2 l3 a4 l5) (x : List Int) (hx : (x.length : Int) = n) (bx : ∀ v ∈ x, -100000000 ≤ v ∧ v ≤ 100000000) :
    finite_keeps.f a0 l1 l2 l3 a4 l5 x = some (keepsB a0 l2 l3 a4 l5 (l1.map fun i => rd x i)) := by
  have hf := F.form
  unfold formedB at hf
  have hk : KeepsOk a0 l1 l2 l3 l5 x := by
    refine ⟨F.b1, fun v hv => by rw [hx]; exact F.near v hv, F.b5, F.rows, ?_, ?_, ?_, bx, F.s2, F.s3⟩
    · intro h; subst h
      simp only [show ¬ (2 : Int) = 1 by decide, ↓reduceIte, Bool.and_eq_true, decide_eq_true_eq] at hf
      exact hf.1.1.2
    · intro h; subst h
      simp only [show ¬ (4 : Int) = 1 by decide, show ¬ (4 : Int) = 2 by decide, show ¬ (4 : Int) = 3 by decide, ↓reduceIte, Bool.and_eq_true, decide_eq_true_eq] at hf
      exact hf.1.1.1.1
    · intro h1 h2 h3 h4
      simp only [h1, h2, h3, h4, ↓reduceIte] at hf
      split at hf
      · simp only [Bool.and_eq_true, decide_eq_true_eq] at hf
        exact ⟨hf.1.1.1.1, hf.1.1.1.2⟩
      · cases hf
  unfold finite_keeps.f
  rw [if_pos hk]

/-! ### a puzzle without a fault -/
section
variable {vals : List (List Int)} {cons : List S44}
structure Good (vals : List (List Int)) (cons : List S44) : Prop where
  bv : vals.length ≤ 60
  bc : cons.length ≤ 100
  len : ∀ i : Nat, i < vals.length → (rd_L1 vals i).length ≤ 200
  small : ∀ i : Nat, i < vals.length → ∀ x ∈ rd_L1 vals i, -100000000 ≤ x ∧ x ≤ 100000000
  fine : ∀ i : Nat, i < cons.length → Fine vals.length (rd_T44 cons i).f0 (rd_T44 cons i).f1 (rd_T44 cons i).f2 (rd_T44 cons i).f3 (rd_T44 cons i).f4 (rd_T44 cons i).f5
theorem Good.of (h : puzE vals cons = none) : Good vals cons := by
  unfold puzE at h
  split at h
  · cases h
  · rename_i h1
    rw [Option.or_eq_none_iff] at h
    have hl : ∀ i : Nat, i < vals.length → (rd_L1 vals i).length ≤ 200 ∧ ∀ j : Nat, j < (rd_L1 vals i).length → bigB (rd (rd_L1 vals i) j) = false := by
      intro i hi
      have h2 := scan_none h.1 i (by omega) hi
      unfold listE at h2
      split at h2
      · cases h2
      · rename_i h3
        refine ⟨by omega, fun j hj => ?_⟩
        have h4 := scan_none h2 j (by omega) hj
        unfold valE at h4
        split at h4
        · cases h4
        · rename_i h5; rw [Bool.not_eq_true] at h5; exact h5
    refine ⟨by omega, by omega, fun i hi => (hl i hi).1, fun i hi x hx => ?_, fun i hi => Fine.of (scan_none h.2 i (by omega) hi)⟩
    obtain ⟨j, hj, rfl⟩ := List.mem_iff_getElem.1 hx
    have := (hl i hi).2 j hj
    rw [rd_in hj] at this
    exact small_of this
def outB (vals : List (List Int)) (x : List Int) (i : Nat) : Bool := !((rd_L1 vals i).contains (rd x i))
def badB (x : List Int) (c : S44) : Bool := !(keepsB c.f0 c.f2 c.f3 c.f4 c.f5 (c.f1.map fun i => rd x i))
def anyOut (vals : List (List Int)) (x : List Int) : Bool := (List.range x.length).any (outB vals x)
def anyBad (cons : List S44) (x : List Int) : Bool := (List.range cons.length).any fun i => badB x (rd_T44 cons i)
def keepsS (vals : List (List Int)) (cons : List S44) (x : List Int) : Bool := if anyOut vals x then false else if anyBad cons x then false else true
theorem range_any (n : Nat) (p : Nat → Bool) : (List.range n).any p = true ↔ ∃ i, i < n ∧ p i = true := by
  rw [List.any_eq_true]
  constructor
  · rintro ⟨i, h, e⟩; exact ⟨i, List.mem_range.1 h, e⟩
  · rintro ⟨i, h, e⟩; exact ⟨i, List.mem_range.2 h, e⟩
theorem small_x (G : Good vals cons) (x : List Int) (hx : x.length = vals.length) (ho : anyOut vals x = false) : ∀ v ∈ x, -100000000 ≤ v ∧ v ≤ 100000000 := by
  intro v hv
  obtain ⟨i, hi, rfl⟩ := List.mem_iff_getElem.1 hv
  have h1 := List.any_eq_false.1 ho i (List.mem_range.2 hi)
  simp only [outB, Bool.not_eq_true', Bool.not_eq_false, List.contains_iff_mem] at h1
  rw [rd_in hi] at h1
  exact G.small i (by omega) _ h1
theorem map_small {x l : List Int} (bx : ∀ v ∈ x, -100000000 ≤ v ∧ v ≤ 100000000) : ∀ v ∈ l.map (fun i => rd x i), -100000000 ≤ v ∧ v ≤ 100000000 := vals_bd bx
theorem ifB'' (b : Bool) : (if (!b) = true then false else true) = b := by cases b <;> rfl
theorem finite_cons (G : Good vals cons) (x : List Int) (hx : x.length = vals.length) (bx : ∀ v ∈ x, -100000000 ≤ v ∧ v ≤ 100000000) :
    Ev (fun k => finite_Keeps.l1 k x cons cons.length 0) (if anyBad cons x then (false, none) else (true, none)) := by
  have hk : ∀ i : Nat, i < cons.length → finite_keeps.f ((rd_T44 cons i).f0) ((rd_T44 cons i).f1) ((rd_T44 cons i).f2) ((rd_T44 cons i).f3) ((rd_T44 cons i).f4) ((rd_T44 cons i).f5) x = some (!badB x (rd_T44 cons i)) := by
    intro i hi
    rw [keeps_ok (G.fine i hi) x (by omega) bx, badB, Bool.not_not]
  have b100 := G.bc
  refine Ev.find (g := fun k i => finite_Keeps.l1 k x cons cons.length i) (n := cons.length) (p := fun i => badB x (rd_T44 cons i)) (range_any _ _) ?_ ?_ ?_
  · intro _
    refine Ev.step (fun k => by rw [finite_Keeps.l1]) ?_
    simp only [Int.lt_irrefl, ↓reduceIte]; exact Ev.now _
  · intro i hi hp
    have k0 : (0 : Int) ≤ i := by omega
    have k1 : (i : Int) < cons.length := by omega
    refine Ev.step (fun k => by rw [finite_Keeps.l1]) ?_
    simp only [k0, k1, ↓reduceIte, hk i hi, hp, Option.bind_some, Bool.not_true, Bool.false_eq_true]; exact Ev.now _
  · intro r i hi hp h
    have k0 : (0 : Int) ≤ i := by omega
    have k1 : (i : Int) < cons.length := by omega
    refine Ev.step (fun k => by rw [finite_Keeps.l1]) ?_
    simp only [k0, k1, ↓reduceIte, hk i hi, hp, Option.bind_some, Bool.not_false, wrap_succ hi (show cons.length < 4611686018427387904 by omega)]; exact h
theorem finite_Keeps_good (hE : puzE vals cons = none) (x : List Int) (hx : x.length = vals.length) : Ev (fun k => finite_Keeps.f k vals cons x) (keepsS vals cons x, none) := by
  have G := Good.of hE
  have b60 := G.bv
  have hc : ∀ i : Nat, i < x.length → Ev (fun k => slices_Contains_int_int.f k (rd_L1 vals i) (rd x i)) (!outB vals x i) := by
    intro i hi
    have := G.len i (by omega)
    have h := contains_ev (rd_L1 vals i) (by unfold LenOk; omega) (rd x i)
    rw [outB, Bool.not_not]; exact h
  refine Ev.bind (Valid_ev vals cons) ?_
  rw [hE]
  have e1 : (x.length : Int) = vals.length := by omega
  simp only [Option.isNone_none, ↓reduceIte, e1]
  rw [← e1]
  have h := Ev.find (g := fun k i => finite_Keeps.l0 k x x x.length i vals cons) (n := x.length) (p := outB vals x) (q := anyOut vals x) (r1 := (false, (none : Option Int))) (r0 := (if anyBad cons x then (false, none) else (true, none))) (range_any _ _) ?_ ?_ ?_
  · refine cast ?_ h
    congr 1
    unfold keepsS
    cases anyOut vals x <;> cases anyBad cons x <;> rfl
  · intro hq
    refine Ev.step (fun k => by rw [finite_Keeps.l0]) ?_
    simp only [Int.lt_irrefl, ↓reduceIte]
    exact finite_cons G x hx (small_x G x hx hq)
  · intro i hi hp
    have k0 : (0 : Int) ≤ i := by omega
    have k1 : (i : Int) < x.length := by omega
    have k2 : (i : Int) < vals.length := by omega
    refine Ev.step (fun k => by rw [finite_Keeps.l0]) ?_
    simp only [k0, k1, k2, ↓reduceIte]
    refine Ev.bind (hc i hi) ?_
    simp only [hp, Bool.not_true, Bool.false_eq_true, ↓reduceIte]; exact Ev.now _
  · intro r i hi hp h
    have k0 : (0 : Int) ≤ i := by omega
    have k1 : (i : Int) < x.length := by omega
    have k2 : (i : Int) < vals.length := by omega
    refine Ev.step (fun k => by rw [finite_Keeps.l0]) ?_
    simp only [k0, k1, k2, ↓reduceIte]
    refine Ev.bind (hc i hi) ?_
    simp only [hp, Bool.not_false, ↓reduceIte, wrap_succ hi (show x.length < 4611686018427387904 by omega)]; exact h
theorem finite_Keeps_bad (g : Int) (hE : puzE vals cons = some g) (x : List Int) : Ev (fun k => finite_Keeps.f k vals cons x) (false, some g) := by
  refine Ev.bind (Valid_ev vals cons) ?_
  rw [hE]
  exact Ev.now _
theorem finite_Keeps_off (hE : puzE vals cons = none) (x : List Int) (hx : ¬ x.length = vals.length) : Ev (fun k => finite_Keeps.f k vals cons x) (false, some 0) := by
  refine Ev.bind (Valid_ev vals cons) ?_
  rw [hE]
  have e1 : ¬ (x.length : Int) = vals.length := by omega
  simp only [Option.isNone_none, ↓reduceIte, e1]
  exact Ev.now _

theorem ref_vals (x : List Int) (i : Nat) (hx : x.length = vals.length) (hc : i < cons.length) (F : Fine vals.length (rd_T44 cons i).f0 (rd_T44 cons i).f1 (rd_T44 cons i).f2 (rd_T44 cons i).f3 (rd_T44 cons i).f4 (rd_T44 cons i).f5) (bx : ∀ v ∈ x, -100000000 ≤ v ∧ v ≤ 100000000)
    {r : Bool} (h : badB x (rd_T44 cons i) = false → Ev (fun k => optimaref3_Keeps.l1 k x (wrap64 ((i : Int) + 1)) vals cons) r) (ht : badB x (rd_T44 cons i) = true → r = false) (d : Nat) :
    ∀ j : Nat, j + d = (rd_T44 cons i).f1.length → Ev (fun k => optimaref3_Keeps.l2 k x i (((rd_T44 cons i).f1.take j).map fun v => rd x v) j vals cons) r := by
  have k3 : (0 : Int) ≤ i := by omega
  have k4 : (i : Int) < cons.length := by omega
  have b1 := F.b1
  induction d with
  | zero =>
    intro j hj
    refine Ev.step (fun k => by rw [optimaref3_Keeps.l2]) ?_
    have k1 : ¬ (j : Int) < (rd_T44 cons i).f1.length := by omega
    simp only [k1, k3, k4, ↓reduceIte]
    rw [List.take_of_length_le (by omega)]
    refine Ev.bind (kept_ev F _ (by simp) (map_small bx)) ?_
    cases hb : badB x (rd_T44 cons i) with
    | true =>
      have : keepsB (rd_T44 cons i).f0 (rd_T44 cons i).f2 (rd_T44 cons i).f3 (rd_T44 cons i).f4 (rd_T44 cons i).f5 ((rd_T44 cons i).f1.map fun v => rd x v) = false := by simpa [badB] using hb
      rw [this, ht hb]; exact Ev.now _
    | false =>
      have : keepsB (rd_T44 cons i).f0 (rd_T44 cons i).f2 (rd_T44 cons i).f3 (rd_T44 cons i).f4 (rd_T44 cons i).f5 ((rd_T44 cons i).f1.map fun v => rd x v) = true := by simpa [badB] using hb
      rw [this]
      simp only [↓reduceIte]
      exact h hb
  | succ d ih =>
    intro j hj
    have hlt : j < (rd_T44 cons i).f1.length := by omega
    have k0 : (0 : Int) ≤ j := by omega
    have k1 : (j : Int) < (rd_T44 cons i).f1.length := by omega
    have hn := F.near (rd (rd_T44 cons i).f1 j) (by rw [rd_in hlt]; exact List.getElem_mem hlt)
    have k5 : rd (rd_T44 cons i).f1 j < (x.length : Int) := by omega
    have k6 : (((rd_T44 cons i).f1.take j).map fun v => rd x v).length < 17592186044416 := by simp; omega
    have e : (((rd_T44 cons i).f1.take j).map fun v => rd x v) ++ [rd x (rd (rd_T44 cons i).f1 j)] = ((rd_T44 cons i).f1.take (j + 1)).map fun v => rd x v := by
      rw [List.take_succ_eq_append_getElem hlt, List.map_append, rd_in hlt]; rfl
    refine Ev.step (fun k => by rw [optimaref3_Keeps.l2]) ?_
    simp only [k0, k1, k3, k4, hn.1, k5, k6, ↓reduceIte, e, wrap_succ hlt (show (rd_T44 cons i).f1.length < 4611686018427387904 by omega)]
    exact ih (j + 1) (by omega)
theorem ref_cons (G : Good vals cons) (x : List Int) (hx : x.length = vals.length) (bx : ∀ v ∈ x, -100000000 ≤ v ∧ v ≤ 100000000) :
    Ev (fun k => optimaref3_Keeps.l1 k x 0 vals cons) (if anyBad cons x then false else true) := by
  have b100 := G.bc
  refine Ev.find (g := fun k i => optimaref3_Keeps.l1 k x i vals cons) (n := cons.length) (p := fun i => badB x (rd_T44 cons i)) (range_any _ _) ?_ ?_ ?_
  · intro _
    refine Ev.step (fun k => by rw [optimaref3_Keeps.l1]) ?_
    simp only [Int.lt_irrefl, ↓reduceIte]; exact Ev.now _
  · intro i hi hp
    have k1 : (i : Int) < cons.length := by omega
    refine Ev.step (fun k => by rw [optimaref3_Keeps.l1]) ?_
    simp only [k1, ↓reduceIte]
    exact ref_vals x i hx hi (G.fine i hi) bx (fun h => by rw [h] at hp; cases hp) (fun _ => rfl) (rd_T44 cons i).f1.length 0 (by omega)
  · intro r i hi hp h
    have k1 : (i : Int) < cons.length := by omega
    refine Ev.step (fun k => by rw [optimaref3_Keeps.l1]) ?_
    simp only [k1, ↓reduceIte]
    exact ref_vals x i hx hi (G.fine i hi) bx (fun _ => by rw [wrap_succ hi (show cons.length < 4611686018427387904 by omega)]; exact h) (fun h' => by rw [h'] at hp; cases hp) (rd_T44 cons i).f1.length 0 (by omega)
theorem ref_Keeps_good (hE : puzE vals cons = none) (x : List Int) (hx : x.length = vals.length) : Ev (fun k => optimaref3_Keeps.f k vals cons x) (keepsS vals cons x) := by
  have G := Good.of hE
  have b60 := G.bv
  have hc : ∀ i : Nat, i < x.length → Ev (fun k => optimaref3_in.f k (rd_L1 vals i) (rd x i)) (!outB vals x i) := by
    intro i hi
    have := G.len i (by omega)
    have h := in_ev (rd_L1 vals i) (by unfold LenOk; omega) (rd x i)
    rw [outB, Bool.not_not]; exact h
  unfold keepsS
  refine Ev.find (g := fun k i => optimaref3_Keeps.l0 k x i vals cons) (n := x.length) (p := outB vals x) (range_any _ _) ?_ ?_ ?_
  · intro hq
    refine Ev.step (fun k => by rw [optimaref3_Keeps.l0]) ?_
    simp only [Int.lt_irrefl, ↓reduceIte]
    exact ref_cons G x hx (small_x G x hx hq)
  · intro i hi hp
    have k0 : (0 : Int) ≤ i := by omega
    have k1 : (i : Int) < x.length := by omega
    have k2 : (i : Int) < vals.length := by omega
    refine Ev.step (fun k => by rw [optimaref3_Keeps.l0]) ?_
    simp only [k0, k1, k2, ↓reduceIte]
    refine Ev.bind (hc i hi) ?_
    simp only [hp, Bool.not_true, Bool.false_eq_true, ↓reduceIte]; exact Ev.now _
  · intro r i hi hp h
    have k0 : (0 : Int) ≤ i := by omega
    have k1 : (i : Int) < x.length := by omega
    have k2 : (i : Int) < vals.length := by omega
    refine Ev.step (fun k => by rw [optimaref3_Keeps.l0]) ?_
    simp only [k0, k1, k2, ↓reduceIte]
    refine Ev.bind (hc i hi) ?_
    simp only [hp, Bool.not_false, ↓reduceIte, wrap_succ hi (show x.length < 4611686018427387904 by omega)]; exact h
end

/-! ### fewPuzzle answers -/
section
variable (vals : List (List Int)) (cons : List S44)
theorem few_cons (h8 : cons.length ≤ 8) (x3 : Int) (d : Nat) : ∀ i : Nat, i + d = cons.length → ∃ b, Ev (fun k => optimalaw3_fewPuzzle.l1 k x3 i vals cons) b := by
  induction d with
  | zero =>
    intro i hi
    have k1 : ¬ (i : Int) < cons.length := by omega
    refine ⟨decide (x3 < 40000), Ev.step (fun k => by rw [optimalaw3_fewPuzzle.l1]) ?_⟩
    simp only [k1, ↓reduceIte]; exact Ev.now _
  | succ d ih =>
    intro i hi
    have k0 : (0 : Int) ≤ i := by omega
    have k1 : (i : Int) < cons.length := by omega
    obtain ⟨b, hb⟩ := ih (i + 1) (by omega)
    have key : ∀ t : Bool, (t = false → (rd_T44 cons i).f5.length ≤ 12) → ∃ b, Ev (fun k => optimalaw3_fewPuzzle.j3 k x3 i t vals cons (rd_T44 cons i).f0 (rd_T44 cons i).f1 (rd_T44 cons i).f2 (rd_T44 cons i).f3 (rd_T44 cons i).f4 (rd_T44 cons i).f5) b := by
      intro t ht
      cases t with
      | true =>
        refine ⟨false, Ev.step (fun k => by rw [optimalaw3_fewPuzzle.j3]) ?_⟩
        simp only [↓reduceIte]; exact Ev.now _
      | false =>
        have h12 := ht rfl
        have hl : ∀ (d j : Nat), j + d = (rd_T44 cons i).f5.length → ∃ b, Ev (fun k => optimalaw3_fewPuzzle.l2 k x3 i j vals cons (rd_T44 cons i).f0 (rd_T44 cons i).f1 (rd_T44 cons i).f2 (rd_T44 cons i).f3 (rd_T44 cons i).f4 (rd_T44 cons i).f5) b := by
          intro d
          induction d with
          | zero =>
            intro j hj
            have q1 : ¬ (j : Int) < (rd_T44 cons i).f5.length := by omega
            refine ⟨b, Ev.step (fun k => by rw [optimalaw3_fewPuzzle.l2]) ?_⟩
            simp only [q1, ↓reduceIte, wrap_succ (show i < cons.length by omega) (show cons.length < 4611686018427387904 by omega)]; exact hb
          | succ d ih2 =>
            intro j hj
            have q0 : (0 : Int) ≤ j := by omega
            have q1 : (j : Int) < (rd_T44 cons i).f5.length := by omega
            obtain ⟨b2, hb2⟩ := ih2 (j + 1) (by omega)
            by_cases q2 : ((rd_L1 (rd_T44 cons i).f5 j).length : Int) > 8
            · refine ⟨false, Ev.step (fun k => by rw [optimalaw3_fewPuzzle.l2]) ?_⟩
              simp only [q0, q1, q2, ↓reduceIte]; exact Ev.now _
            · refine ⟨b2, Ev.step (fun k => by rw [optimalaw3_fewPuzzle.l2]) ?_⟩
              simp only [q0, q1, q2, ↓reduceIte, wrap_succ (show j < (rd_T44 cons i).f5.length by omega) (show (rd_T44 cons i).f5.length < 4611686018427387904 by omega)]; exact hb2
        obtain ⟨b2, hb2⟩ := hl (rd_T44 cons i).f5.length 0 (by omega)
        refine ⟨b2, Ev.step (fun k => by rw [optimalaw3_fewPuzzle.j3]) ?_⟩
        simp only [Bool.false_eq_true, ↓reduceIte]; exact hb2
    obtain ⟨bt, ht⟩ := key true (fun h => by cases h)
    by_cases c1 : ((rd_T44 cons i).f1.length : Int) > 8
    · refine ⟨bt, Ev.step (fun k => by rw [optimalaw3_fewPuzzle.l1]) ?_⟩
      simp only [k0, k1, c1, ↓reduceIte]; exact ht
    by_cases c2 : ((rd_T44 cons i).f2.length : Int) > 8
    · refine ⟨bt, Ev.step (fun k => by rw [optimalaw3_fewPuzzle.l1]) ?_⟩
      simp only [k0, k1, c1, c2, ↓reduceIte]; exact ht
    by_cases c3 : ((rd_T44 cons i).f3.length : Int) > 8
    · refine ⟨bt, Ev.step (fun k => by rw [optimalaw3_fewPuzzle.l1]) ?_⟩
      simp only [k0, k1, c1, c2, c3, ↓reduceIte]; exact ht
    obtain ⟨b3, hb3⟩ := key (decide (((rd_T44 cons i).f5.length : Int) > 12)) (fun h => by simp at h; omega)
    refine ⟨b3, Ev.step (fun k => by rw [optimalaw3_fewPuzzle.l1]) ?_⟩
    simp only [k0, k1, c1, c2, c3, ↓reduceIte]; exact hb3
theorem few_vals (h6 : vals.length ≤ 6) (h8 : cons.length ≤ 8) (d : Nat) : ∀ (i : Nat) (x3 : Int), i + d = vals.length → ∃ b, Ev (fun k => optimalaw3_fewPuzzle.l0 k x3 i vals cons) b := by
  induction d with
  | zero =>
    intro i x3 hi
    have k1 : ¬ (i : Int) < vals.length := by omega
    obtain ⟨b, hb⟩ := few_cons vals cons h8 x3 cons.length 0 (by omega)
    refine ⟨b, Ev.step (fun k => by rw [optimalaw3_fewPuzzle.l0]) ?_⟩
    simp only [k1, ↓reduceIte]; exact hb
  | succ d ih =>
    intro i x3 hi
    have k0 : (0 : Int) ≤ i := by omega
    have k1 : (i : Int) < vals.length := by omega
    obtain ⟨b, hb⟩ := ih (i + 1) (wrap64 (x3 * (wrap64 (1 + ((rd_L1 vals i).length : Int))))) (by omega)
    by_cases k2 : ((rd_L1 vals i).length : Int) > 12
    · refine ⟨false, Ev.step (fun k => by rw [optimalaw3_fewPuzzle.l0]) ?_⟩
      simp only [k0, k1, k2, ↓reduceIte]; exact Ev.now _
    · refine ⟨b, Ev.step (fun k => by rw [optimalaw3_fewPuzzle.l0]) ?_⟩
      simp only [k0, k1, k2, ↓reduceIte, wrap_succ (show i < vals.length by omega) (show vals.length < 4611686018427387904 by omega)]; exact hb
theorem few_ev : ∃ b, Ev (fun k => optimalaw3_fewPuzzle.f k vals cons) b := by
  have ht : Ev (fun k => optimalaw3_fewPuzzle.j0 k true vals cons) false := by
    refine Ev.step (fun k => by rw [optimalaw3_fewPuzzle.j0]) ?_
    simp only [↓reduceIte]; exact Ev.now _
  by_cases e1 : vals.length > 6
  · have k1 : (vals.length : Int) > 6 := by omega
    refine ⟨false, ?_⟩
    simp only [optimalaw3_fewPuzzle.f, k1, ↓reduceIte]; exact ht
  have k1 : ¬ (vals.length : Int) > 6 := by omega
  by_cases e2 : cons.length > 8
  · have k2 : decide ((cons.length : Int) > 8) = true := by simp; omega
    refine ⟨false, ?_⟩
    simp only [optimalaw3_fewPuzzle.f, k1, k2, ↓reduceIte]; exact ht
  have k2 : decide ((cons.length : Int) > 8) = false := by simp; omega
  obtain ⟨b, hb⟩ := few_vals vals cons (by omega) (by omega) vals.length 0 1 (by omega)
  refine ⟨b, ?_⟩
  simp only [optimalaw3_fewPuzzle.f, k1, k2, ↓reduceIte]
  refine Ev.step (fun k => by rw [optimalaw3_fewPuzzle.j0]) ?_
  simp only [Bool.false_eq_true, ↓reduceIte]; exact hb
end

/-! ### the law -/
theorem puzE_cases (vals : List (List Int)) (cons : List S44) : puzE vals cons = none ∨ puzE vals cons = some 0 ∨ puzE vals cons = some 1 := by
  unfold puzE
  split
  · exact Or.inr (Or.inr rfl)
  · cases h : scan (fun i => listE (rd_L1 vals i)) vals.length 0 with
    | some b =>
      obtain ⟨i, _, _, hi⟩ := scan_some h
      simp only [Option.some_or]
      unfold listE at hi
      split at hi
      · obtain rfl := Option.some.inj hi; exact Or.inr (Or.inr rfl)
      · obtain ⟨j, _, _, hj⟩ := scan_some hi
        unfold valE at hj
        split at hj
        · obtain rfl := Option.some.inj hj; exact Or.inr (Or.inr rfl)
        · split at hj
          · obtain rfl := Option.some.inj hj; exact Or.inr (Or.inl rfl)
          · cases hj
    | none =>
      simp only [Option.none_or]
      cases h2 : scan (fun i => oneE vals (rd_T44 cons i)) cons.length 0 with
      | none => exact Or.inl rfl
      | some b =>
        obtain ⟨i, _, _, hi⟩ := scan_some h2
        rcases conE_cases vals.length (rd_T44 cons i).f0 (rd_T44 cons i).f1 (rd_T44 cons i).f2 (rd_T44 cons i).f3 (rd_T44 cons i).f4 (rd_T44 cons i).f5 with e | e | e
        · rw [oneE, e] at hi; cases hi
        · rw [oneE, e] at hi; obtain rfl := Option.some.inj hi; exact Or.inr (Or.inl rfl)
        · rw [oneE, e] at hi; obtain rfl := Option.some.inj hi; exact Or.inr (Or.inr rfl)
end Go.Proofs.YtehekppkicjimaaDoor.QFK
