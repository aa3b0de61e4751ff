/- Plain facts of shares. Conditions: none. -/
import Derived.Test.YtehekppkicjimaaDoorSRSh1
import Derived.Test.YtehekppkicjimaaDoorSPlainB
namespace Go.Proofs.YtehekppkicjimaaDoor.QFK
open Go.RowKit Go.Proofs.YtehekppkicjimaaDoorW.PrintWords Go.Proofs.YtehekppkicjimaaDoorW.PrintLast Go.Proofs.YtehekppkicjimaaDoorW.PrintMore
set_option linter.unusedVariables false
set_option linter.unusedSimpArgs false
/-- what is used at a moment, by the first j -/
def useM (nums uses v : List Int) (t : Int) : Nat → Int
  | 0 => 0
  | j + 1 => useM nums uses v t j + if rd v j ≤ t ∧ t < rd v j + rd nums j then rd uses j else 0
theorem useM_to (nums uses v : List Int) (i j : Nat) : useTo nums uses v i j = useM nums uses v (rd v i) j := by
  induction j with
  | zero => simp [useTo, useM]
  | succ j ih => rw [useTo_succ, ih]; rfl
theorem useM_le {nums uses v : List Int} (hu : ∀ k : Nat, 0 ≤ rd uses k) (t s : Int) (n : Nat) (h : ∀ j : Nat, j < n → rd v j ≤ t ∧ t < rd v j + rd nums j → 0 < rd uses j → rd v j ≤ s ∧ s < rd v j + rd nums j) :
    useM nums uses v t n ≤ useM nums uses v s n := by
  induction n with
  | zero => exact Int.le_refl _
  | succ n ih =>
    have := ih (fun j hj => h j (by omega))
    have hn := h n (by omega)
    have := hu n
    simp only [useM]
    split
    · rename_i hc
      by_cases hp : 0 < rd uses n
      · rw [if_pos (hn hc hp)]; omega
      · split <;> omega
    · split <;> omega
theorem must_le {L : List (List Int)} {vars nums uses x : List Int} {i : Nat} {m : Int} (hu : ∀ k : Nat, 0 ≤ rd uses k) (hlo : ∀ j : Nat, j < vars.length → lo L (rd vars j) ≤ rd x (rd vars j) ∧ rd x (rd vars j) ≤ hi_ L (rd vars j))
    (hi1 : rd x (rd vars i) ≤ m) (hi2 : m < rd x (rd vars i) + rd nums i) (n : Nat) (hn : n ≤ vars.length) :
    mustTo L vars nums uses i m n ≤ (useM nums uses (vars.map fun i => rd x i) m n) + if i < n then 0 else rd uses i := by
  induction n with
  | zero => simp [mustTo, useM]
  | succ n ih =>
    have := ih (by omega)
    have e : rd (vars.map fun i => rd x i) n = rd x (rd vars n) := by rw [rd_in (by simp; omega), rd_in (by omega)]; simp
    have h1 := hlo n (by omega)
    have h2 := hu n
    simp only [mustTo, useM, e]
    by_cases hni : n = i
    · subst hni
      rw [if_neg (by simp), if_pos ⟨hi1, hi2⟩, if_pos (by omega)]
      rw [if_neg (by omega)] at this
      omega
    · have e2 : (if i < n then (0 : Int) else rd uses i) = if i < n + 1 then 0 else rd uses i := by
        by_cases h : i < n
        · rw [if_pos h, if_pos (by omega)]
        · rw [if_neg h, if_neg (by omega)]
      rw [e2] at this
      split
      · rename_i hc
        rw [if_pos ⟨by omega, by omega⟩]; omega
      · split <;> omega
theorem mom_in {L : List (List Int)} {vars nums : List Int} {i : Nat} {v : Int} (n : Nat) : ∀ m ∈ momTo L vars nums i v n, v ≤ m ∧ (m = v ∨ m < v + rd nums i) := by
  induction n with
  | zero => intro m hm; simp [momTo] at hm; omega
  | succ n ih =>
    intro m hm
    simp only [momTo] at hm
    split at hm
    · rename_i hc
      rcases List.mem_append.1 hm with hm | hm
      · exact ih m hm
      · rw [List.mem_singleton.1 hm]; omega
    · exact ih m hm
theorem share_keep {L : List (List Int)} {vars nums uses x : List Int} {lim : Int} (G : Good1 L) (hin : ∀ v ∈ vars, 0 ≤ v ∧ v < L.length) (hx : ∀ i : Nat, i < L.length → rd x i ∈ rd_L1 L i) (hn : ∀ k : Nat, 0 ≤ rd nums k) (hu : ∀ k : Nat, 0 ≤ rd uses k)
    (hs : ∀ i : Nat, i < vars.length → shareB nums uses (vars.map fun i => rd x i) lim i = true) (i : Nat) (hi : i < vars.length) (hni : rd nums i ≠ 0) (hui : rd uses i ≠ 0) :
    shareP L vars nums uses lim i (rd x (rd vars i)) = true := by
  have key : ∀ j : Nat, j < vars.length → rd (vars.map fun i => rd x i) j = rd x (rd vars j) := fun j hj => by rw [rd_in (by simp; omega), rd_in hj]; simp
  have hlo : ∀ j : Nat, j < vars.length → lo L (rd vars j) ≤ rd x (rd vars j) ∧ rd x (rd vars j) ≤ hi_ L (rd vars j) := by
    intro j hj
    have hk := hin (rd vars j) (by rw [rd_in hj]; exact List.getElem_mem hj)
    have hm := hx (rd vars j).toNat (by omega)
    rw [show (((rd vars j).toNat : Nat) : Int) = rd vars j by omega] at hm
    exact asc_ends (G.asc (rd vars j)) hm
  unfold shareP
  rw [List.all_eq_true]
  intro m hm
  have hm2 := mom_in _ m hm
  have hn1 := hn i
  have hu1 := hu i
  have h1 := must_le (L := L) hu hlo hm2.1 (by omega) vars.length (Nat.le_refl _) (nums := nums)
  rw [if_pos hi] at h1
  obtain ⟨k, hk, ⟨hk1, hk2, hk3⟩, hk4⟩ := most_of vars.length (fun j => (rd x (rd vars j) ≤ m ∧ m < rd x (rd vars j) + rd nums j) ∧ 0 < rd uses j ∧ rd nums j ≠ 0) (fun j => rd x (rd vars j)) ⟨i, hi, ⟨hm2.1, by omega⟩, by omega, hni⟩
  have h2 := hs k hk
  unfold shareB at h2
  rw [Bool.or_eq_true, Bool.or_eq_true, beq_iff_eq, beq_iff_eq, decide_eq_true_eq] at h2
  have h3 : useAt nums uses (vars.map fun i => rd x i) k ≤ lim := by
    rcases h2 with (h2 | h2) | h2
    · exact absurd h2 hk3
    · omega
    · exact h2
  have e : useAt nums uses (vars.map fun i => rd x i) k = useM nums uses (vars.map fun i => rd x i) (rd x (rd vars k)) vars.length := by
    have := useM_to nums uses (vars.map fun i => rd x i) k vars.length
    rw [key k hk] at this
    rw [← this]; unfold useAt useTo; simp
  rw [e] at h3
  have h4 := useM_le (nums := nums) (uses := uses) (v := vars.map fun i => rd x i) hu m (rd x (rd vars k)) vars.length (fun j hj hc hp => by
    rw [key j hj] at hc ⊢
    have := hk4 j hj ⟨hc, hp, by omega⟩
    omega)
  simp only [decide_eq_true_eq]
  omega
end Go.Proofs.YtehekppkicjimaaDoor.QFK
