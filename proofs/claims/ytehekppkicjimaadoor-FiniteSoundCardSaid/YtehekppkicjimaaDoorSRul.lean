/- Plain facts of the rules that narrow lists: sums, tables, places, shares. Conditions: none. -/
import Derived.Test.YtehekppkicjimaaDoorSFnI
namespace Go.Proofs.YtehekppkicjimaaDoor.QFK
open Go.RowKit Go.Proofs.YtehekppkicjimaaDoorW.PrintWords Go.Proofs.YtehekppkicjimaaDoorW.PrintLast Go.Proofs.YtehekppkicjimaaDoorW.PrintMore
set_option linter.unusedVariables false
set_option linter.unusedSimpArgs false
/-- the world's lists at a moment of a rule -/
structure Good1 (L : List (List Int)) : Prop where
  bd : ∀ k, ∀ x ∈ rd_L1 L k, -100000000 ≤ x ∧ x ≤ 100000000
  len : ∀ k, (rd_L1 L k).length ≤ 200
  asc : ∀ k, (rd_L1 L k).Pairwise fun a b => a < b
theorem Red.good {sound : List Int → Prop} {L L' : List (List Int)} {b : Bool} (h : Red sound L L' b) (G : Good1 L) : Good1 L' := by
  have key : ∀ k : Int, (rd_L1 L' k).Sublist (rd_L1 L k) := by
    intro k
    by_cases hk : k.toNat < L.length
    · have := h.sub k.toNat hk
      simpa only [rd_L1, Int.toNat_natCast] using this
    · have e : rd_L1 L' k = [] := by simp [rd_L1, List.getD_eq_getElem?_getD, List.getElem?_eq_none (show L'.length ≤ k.toNat by rw [h.len]; omega)]
      rw [e]; exact List.nil_sublist _
  exact ⟨fun k x hx => G.bd k x ((key k).subset hx), fun k => Nat.le_trans (key k).length_le (G.len k), fun k => (G.asc k).sublist (key k)⟩
theorem asc_ends {l : List Int} (h : l.Pairwise fun a b => a < b) {v : Int} (hv : v ∈ l) : rd l 0 ≤ v ∧ v ≤ rd l ((l.length - 1 : Nat) : Int) := by
  obtain ⟨i, hi, rfl⟩ := List.mem_iff_getElem.1 hv
  rw [List.pairwise_iff_getElem] at h
  have e0 : rd l 0 = l[0] := by have := @rd_in l 0 (by omega); simpa using this
  have e1 : rd l ((l.length - 1 : Nat) : Int) = l[l.length - 1] := rd_in (by omega)
  rw [e0, e1]
  constructor
  · rcases Nat.eq_zero_or_pos i with h0 | h0
    · subst h0; exact Int.le_refl _
    · exact Int.le_of_lt (h 0 i (by omega) hi h0)
  · by_cases h0 : i = l.length - 1
    · subst h0; exact Int.le_refl _
    · exact Int.le_of_lt (h i (l.length - 1) hi (by omega) (by omega))
theorem mul_ends {n x lo hi : Int} (h1 : lo ≤ x) (h2 : x ≤ hi) : min (n * lo) (n * hi) ≤ n * x ∧ n * x ≤ max (n * lo) (n * hi) := by
  rcases Int.le_total 0 n with h | h
  · have a := Int.mul_le_mul_of_nonneg_left h1 h
    have b := Int.mul_le_mul_of_nonneg_left h2 h
    omega
  · have a := Int.mul_le_mul_of_nonpos_left h h1
    have b := Int.mul_le_mul_of_nonpos_left h h2
    omega
/-- what the others of a sum make -/
def partX (nums vars x : List Int) (i : Nat) : Nat → Int
  | 0 => 0
  | j + 1 => if j = i then partX nums vars x i j else partX nums vars x i j + rd nums j * rd x (rd vars j)
theorem part_between {nums vars x : List Int} {L : List (List Int)} (G : Good1 L) (hin : ∀ v ∈ vars, 0 ≤ v ∧ v < L.length) (hx : ∀ i : Nat, i < L.length → rd x i ∈ rd_L1 L i) (i j : Nat) (hj : j ≤ vars.length) :
    partLo nums vars L i j ≤ partX nums vars x i j ∧ partX nums vars x i j ≤ partHi nums vars L i j := by
  induction j with
  | zero => simp [partLo, partHi, partX]
  | succ j ih =>
    have := ih (by omega)
    have hk := hin (rd vars j) (by rw [rd_in (by omega)]; exact List.getElem_mem _)
    have hm := hx (rd vars j).toNat (by omega)
    rw [show (((rd vars j).toNat : Nat) : Int) = rd vars j by omega] at hm
    have he := asc_ends (G.asc (rd vars j)) hm
    have hp := mul_ends (n := rd nums j) he.1 he.2
    simp only [partLo, partHi, partX]
    split <;> omega
theorem sum_part {nums vars x : List Int} (hn : nums.length = vars.length) (i j : Nat) (hj : j ≤ vars.length) :
    sumTo nums (vars.map fun i => rd x i) j = partX nums vars x i j + if i < j then rd nums i * rd x (rd vars i) else 0 := by
  induction j with
  | zero => simp [sumTo, partX]
  | succ j ih =>
    have := ih (by omega)
    rw [sumTo_succ _ _ _ (by omega) (by simp; omega), this]
    have e : rd (vars.map fun i => rd x i) j = rd x (rd vars j) := by
      rw [rd_in (by simp; omega), rd_in (by omega)]; simp
    rw [e]
    simp only [partX]
    by_cases h : j = i
    · subst h; simp
    · rw [if_neg h]
      by_cases h2 : i < j
      · rw [if_pos h2, if_pos (by omega)]; omega
      · rw [if_neg h2, if_neg (by omega)]; omega
theorem sum_keep {nums vars x : List Int} {L : List (List Int)} {lim : Int} (G : Good1 L) (hn : nums.length = vars.length) (hin : ∀ v ∈ vars, 0 ≤ v ∧ v < L.length) (hx : ∀ i : Nat, i < L.length → rd x i ∈ rd_L1 L i)
    (hs : (List.zipWith (· * ·) nums (vars.map fun i => rd x i)).sum = lim) (i : Nat) (hi : i < vars.length) :
    (decide (lim - partHi nums vars L i vars.length ≤ rd nums i * rd x (rd vars i)) && decide (rd nums i * rd x (rd vars i) ≤ lim - partLo nums vars L i vars.length)) = true := by
  have h1 := part_between G hin hx i vars.length (Nat.le_refl _) (nums := nums)
  have h2 := sum_part (x := x) hn i vars.length (Nat.le_refl _)
  have h3 := sumTo_all nums (vars.map fun i => rd x i) (by simp [hn])
  rw [hn] at h3
  rw [h3, hs, if_pos hi] at h2
  simp only [Bool.and_eq_true, decide_eq_true_eq]
  omega
end Go.Proofs.YtehekppkicjimaaDoor.QFK
