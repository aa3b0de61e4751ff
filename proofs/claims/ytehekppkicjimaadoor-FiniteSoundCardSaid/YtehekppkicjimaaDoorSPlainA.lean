/- The plain law of what a puzzle's check computes: finite.Valid and the reference's PuzzleValid tell the same. Conditions: lengths within reach. The plain law of a constraint's check: finite.valid and the reference's conValid tell the same. Conditions: none. The plain law of finite.valid: it answers 'conE'. Conditions: none. The plain law of a puzzle's check: finite.Valid answers 'puzE' and the reference's PuzzleValid the same, as it numbers errors. Conditions: none. -/
import Derived.Test.YtehekppkicjimaaDoorSQFKx9
import Derived.Test.YtehekppkicjimaaDoorSQFKx8
import Derived.Test.YtehekppkicjimaaDoorSQFKx21
namespace Go.Proofs.YtehekppkicjimaaDoor.QFK
open Go.RowKit Go.Proofs.YtehekppkicjimaaDoorW.PrintWords Go.Proofs.YtehekppkicjimaaDoorW.PrintLast Go.Proofs.YtehekppkicjimaaDoorW.PrintMore
set_option linter.unusedVariables false
set_option linter.unusedSimpArgs false

/-! ### a loop that looks for the first place that answers -/
def scan {β : Type} (e : Nat → Option β) (n i : Nat) : Option β := (List.range' i (n - i)).findSome? e
theorem scan_end {β : Type} (e : Nat → Option β) {n i : Nat} (h : n ≤ i) : scan e n i = none := by unfold scan; rw [show n - i = 0 by omega]; rfl
theorem scan_at {β : Type} (e : Nat → Option β) {n i : Nat} (h : i < n) : scan e n i = (e i).or (scan e n (i + 1)) := by
  unfold scan
  rw [show n - i = (n - (i + 1)) + 1 by omega, List.range'_succ, List.findSome?_cons]
  cases e i <;> rfl
theorem scan_none {β : Type} {e : Nat → Option β} {n i : Nat} (h : scan e n i = none) : ∀ j, i ≤ j → j < n → e j = none := by
  intro j h1 h2
  have := List.findSome?_eq_none_iff.1 h j (List.mem_range'_1.2 ⟨h1, by omega⟩)
  exact this
theorem scan_all {β : Type} {e : Nat → Option β} {n i : Nat} (h : ∀ j, i ≤ j → j < n → e j = none) : scan e n i = none := by
  refine List.findSome?_eq_none_iff.2 fun j hj => ?_
  obtain ⟨h1, h2⟩ := List.mem_range'_1.1 hj
  exact h j h1 (by omega)
theorem scan_some {β : Type} {e : Nat → Option β} {n i : Nat} {b : β} (h : scan e n i = some b) : ∃ j, i ≤ j ∧ j < n ∧ e j = some b := by
  obtain ⟨j, hj, hb⟩ := List.exists_of_findSome?_eq_some h
  obtain ⟨h1, h2⟩ := List.mem_range'_1.1 hj
  exact ⟨j, h1, by omega, hb⟩
theorem scan_map {β γ : Type} (f : β → γ) (e : Nat → Option β) (n i : Nat) : scan (fun j => (e j).map f) n i = (scan e n i).map f := by
  unfold scan; exact (List.map_findSome? ..).symm
theorem Ev.scanAt {α β : Type} {g : Nat → Int → Option α} {e : Nat → Option β} {n : Nat} {r : α}
    (hgo : ∀ i : Nat, i < n → e i = none → Ev (fun k => g k ((i + 1 : Nat) : Int)) r → Ev (fun k => g k (i : Int)) r) (d : Nat) : ∀ i : Nat, i + d = n → (o : Option β) → scan e n i = o →
    (o = none → Ev (fun k => g k (n : Int)) r) → (∀ (i : Nat) (b : β), i < n → e i = some b → o = some b → Ev (fun k => g k (i : Int)) r) → Ev (fun k => g k (i : Int)) r := by
  induction d with
  | zero =>
    intro i hi o ho hend hhit
    rw [scan_end e (by omega)] at ho
    rw [show i = n by omega]; exact hend ho.symm
  | succ d ih =>
    intro i hi o ho hend hhit
    have hlt : i < n := by omega
    rw [scan_at e hlt] at ho
    cases he : e i with
    | none => exact hgo i hlt he (ih (i + 1) (by omega) o (by rw [← ho, he]; rfl) hend hhit)
    | some b => exact hhit i b hlt he (by rw [← ho, he]; rfl)
theorem Ev.scan {α β : Type} {g : Nat → Int → Option α} {e : Nat → Option β} {n : Nat} {r : α} {o : Option β} (ho : QFK.scan e n 0 = o)
    (hend : o = none → Ev (fun k => g k (n : Int)) r) (hhit : ∀ (i : Nat) (b : β), i < n → e i = some b → o = some b → Ev (fun k => g k (i : Int)) r)
    (hgo : ∀ i : Nat, i < n → e i = none → Ev (fun k => g k ((i + 1 : Nat) : Int)) r → Ev (fun k => g k (i : Int)) r) : Ev (fun k => g k 0) r :=
  Ev.scanAt hgo n 0 (by omega) o ho hend hhit

/-! ### readings -/
def bigB (v : Int) : Bool := decide (v > 100000000) || decide (v < -100000000)
def LenOk {α : Type} (l : List α) : Prop := l.length < 4611686018427387904
theorem wrap_succ {i n : Nat} (h : i < n) (hn : n < 4611686018427387904) : wrap64 ((i : Int) + 1) = ((i + 1 : Nat) : Int) := by unfold wrap64; omega
theorem wrap_pred {i : Nat} (h : 0 < i) (hn : i < 4611686018427387904) : wrap64 ((i : Int) - 1) = ((i - 1 : Nat) : Int) := by unfold wrap64; omega
theorem rd_in {l : List Int} {i : Nat} (h : i < l.length) : rd l (i : Int) = l[i] := by simp [rd, h]
theorem rdL1_in {l : List (List Int)} {i : Nat} (h : i < l.length) : rd_L1 l (i : Int) = l[i] := by simp [rd_L1, h]
theorem rdT_in {l : List S44} {i : Nat} (h : i < l.length) : rd_T44 l (i : Int) = l[i] := by simp [rd_T44, h]
theorem any_rd (l : List Int) (p : Int → Bool) : l.any p = true ↔ ∃ i : Nat, i < l.length ∧ p (rd l i) = true := by
  rw [List.any_eq_true]
  constructor
  · rintro ⟨x, hx, hp⟩
    obtain ⟨i, hi, rfl⟩ := List.mem_iff_getElem.1 hx
    exact ⟨i, hi, by rw [rd_in hi]; exact hp⟩
  · rintro ⟨i, hi, hp⟩
    exact ⟨l[i], List.getElem_mem hi, by rw [← rd_in hi]; exact hp⟩
theorem any_rdL1 (l : List (List Int)) (p : List Int → Bool) : l.any p = true ↔ ∃ i : Nat, i < l.length ∧ p (rd_L1 l i) = true := by
  rw [List.any_eq_true]
  constructor
  · rintro ⟨x, hx, hp⟩
    obtain ⟨i, hi, rfl⟩ := List.mem_iff_getElem.1 hx
    exact ⟨i, hi, by rw [rdL1_in hi]; exact hp⟩
  · rintro ⟨i, hi, hp⟩
    exact ⟨l[i], List.getElem_mem hi, by rw [← rdL1_in hi]; exact hp⟩
/-- a loop that looks for a place where p holds -/
def hit (p : Nat → Bool) (i : Nat) : Option Unit := if p i then some () else none
theorem hit_none {p : Nat → Bool} {i : Nat} (h : hit p i = none) : p i = false := by unfold hit at h; split at h <;> simp_all
theorem hit_some {p : Nat → Bool} {i : Nat} {u : Unit} (h : hit p i = some u) : p i = true := by unfold hit at h; split at h <;> simp_all
theorem big_f (v : Int) : optimaref3_big.f v = some (bigB v) := by
  unfold optimaref3_big.f bigB
  by_cases h : v > 100000000
  · rw [if_pos h]; simp [h]
  · rw [if_neg h]; simp [h]
/-- Ev of a search for a place where p holds: the answer is one thing where there is such a place and another where there is none. -/
theorem Ev.find {α : Type} {g : Nat → Int → Option α} {p : Nat → Bool} {n : Nat} {q : Bool} {r1 r0 : α} (hq : q = true ↔ ∃ i, i < n ∧ p i = true)
    (hend : q = false → Ev (fun k => g k (n : Int)) r0) (hhit : ∀ i : Nat, i < n → p i = true → Ev (fun k => g k (i : Int)) r1)
    (hgo : ∀ (r : α) (i : Nat), i < n → p i = false → Ev (fun k => g k ((i + 1 : Nat) : Int)) r → Ev (fun k => g k (i : Int)) r) : Ev (fun k => g k 0) (if q then r1 else r0) := by
  cases hs : QFK.scan (hit p) n 0 with
  | none =>
    have hf : q = false := by
      cases hq' : q with
      | false => rfl
      | true => obtain ⟨i, h1, h2⟩ := hq.1 hq'; have := hit_none (scan_none hs i (by omega) h1); simp_all
    rw [hf]
    exact Ev.scan hs (fun _ => hend hf) (fun i b _ _ h => by cases h) (fun i h1 h2 => hgo _ i h1 (hit_none h2))
  | some b =>
    obtain ⟨i, _, h1, h2⟩ := scan_some hs
    rw [hq.2 ⟨i, h1, hit_some h2⟩]
    exact Ev.scan hs (fun h => by cases h) (fun i b h1 h2 _ => hhit i h1 (hit_some h2)) (fun i h1 h2 => hgo _ i h1 (hit_none h2))

theorem ifB (b : Bool) : (if b = true then true else false) = b := by cases b <;> rfl
theorem ifB' (b : Bool) : (if b = true then false else true) = !b := by cases b <;> rfl
theorem anyBig_ev (l : List Int) (hl : LenOk l) : Ev (fun k => optimaref3_anyBig.f k l) (l.any bigB) := by
  have := Ev.find (g := fun k i => optimaref3_anyBig.l0 k l i) (n := l.length) (p := fun i => bigB (rd l i)) (q := l.any bigB) (r1 := true) (r0 := false) (any_rd l bigB) ?_ ?_ ?_
  · rw [ifB] at this; exact this
  · intro _
    refine Ev.step (fun k => by rw [optimaref3_anyBig.l0]) ?_
    simp only [Int.lt_irrefl, ↓reduceIte]
    exact Ev.now _
  · intro i hi hp
    have h0 : (0 : Int) ≤ i := by omega
    have h1 : (i : Int) < l.length := by omega
    refine Ev.step (fun k => by rw [optimaref3_anyBig.l0]) ?_
    simp only [h0, h1, ↓reduceIte, big_f, hp, Option.bind_some]
    exact Ev.now _
  · intro r i hi hp h
    have h0 : (0 : Int) ≤ i := by omega
    have h1 : (i : Int) < l.length := by omega
    refine Ev.step (fun k => by rw [optimaref3_anyBig.l0]) ?_
    simp only [h0, h1, ↓reduceIte, big_f, hp, Option.bind_some, Bool.false_eq_true, wrap_succ hi hl]
    exact h

/-! ### membership -/
theorem contains_rd (l : List Int) (a : Int) : l.contains a = true ↔ ∃ i : Nat, i < l.length ∧ (a == rd l i) = true := by
  rw [List.contains_eq_any_beq]; exact any_rd l _
theorem in_ev (l : List Int) (hl : LenOk l) (a : Int) : Ev (fun k => optimaref3_in.f k l a) (l.contains a) := by
  have := Ev.find (g := fun k i => optimaref3_in.l0 k l a i) (n := l.length) (p := fun i => a == rd l i) (q := l.contains a) (r1 := true) (r0 := false) (contains_rd l a) ?_ ?_ ?_
  · rw [ifB] at this; exact this
  · intro _
    refine Ev.step (fun k => by rw [optimaref3_in.l0]) ?_
    simp only [Int.lt_irrefl, ↓reduceIte]
    exact Ev.now _
  · intro i hi hp
    have h0 : (0 : Int) ≤ i := by omega
    have h1 : (i : Int) < l.length := by omega
    have h2 : rd l i = a := (eq_of_beq hp).symm
    refine Ev.step (fun k => by rw [optimaref3_in.l0]) ?_
    simp only [h0, h1, h2, ↓reduceIte]
    exact Ev.now _
  · intro r i hi hp h
    have h0 : (0 : Int) ≤ i := by omega
    have h1 : (i : Int) < l.length := by omega
    have h2 : ¬ rd l i = a := by intro e; simp [e] at hp
    refine Ev.step (fun k => by rw [optimaref3_in.l0]) ?_
    simp only [h0, h1, h2, ↓reduceIte, wrap_succ hi hl]
    exact h
theorem contains_ev (l : List Int) (hl : LenOk l) (a : Int) : Ev (fun k => slices_Contains_int_int.f k l a) (l.contains a) := by
  have hm : ∀ i : Nat, i < l.length → (a == rd l i) = true → l.contains a = true := fun i h1 h2 => (contains_rd l a).2 ⟨i, h1, h2⟩
  cases hs : QFK.scan (hit fun i => a == rd l i) l.length 0 with
  | none =>
    have hf : l.contains a = false := by
      cases hq' : l.contains a with
      | false => rfl
      | true => obtain ⟨i, h1, h2⟩ := (contains_rd l a).1 hq'; have := hit_none (scan_none hs i (by omega) h1); simp_all
    have h := Ev.scan (g := fun k i => slices_Index_int_int.l0 k l a l.length i) (r := (-1 : Int)) hs ?_ ?_ ?_
    · exact Ev.bind h (by rw [hf]; exact Ev.now _)
    · intro _
      refine Ev.step (fun k => by rw [slices_Index_int_int.l0]) ?_
      simp only [Int.lt_irrefl, ↓reduceIte]
      exact Ev.now _
    · intro i b _ _ h; cases h
    · intro i hi hp h
      have h0 : (0 : Int) ≤ i := by omega
      have h1 : (i : Int) < l.length := by omega
      have h2 : ¬ a = rd l i := by intro e; have := hit_none hp; simp [← e] at this
      refine Ev.step (fun k => by rw [slices_Index_int_int.l0]) ?_
      simp only [h0, h1, h2, ↓reduceIte, wrap_succ hi hl]
      exact h
  | some u =>
    have hall : ∀ (d i : Nat), i + d = l.length → (∃ b, QFK.scan (hit fun i => a == rd l i) l.length i = some b) → ∃ v : Int, 0 ≤ v ∧ Ev (fun k => slices_Index_int_int.l0 k l a l.length (i : Int)) v := by
      intro d
      induction d with
      | zero => rintro i hi ⟨b, hb⟩; rw [scan_end _ (by omega)] at hb; cases hb
      | succ d ih =>
        rintro i hi ⟨b, hb⟩
        have hlt : i < l.length := by omega
        have h0 : (0 : Int) ≤ i := by omega
        have h1 : (i : Int) < l.length := by omega
        by_cases h2 : a = rd l i
        · refine ⟨i, h0, Ev.step (fun k => by rw [slices_Index_int_int.l0]) ?_⟩
          simp only [h0, h1, ↓reduceIte]
          exact Ev.congr (fun k => if_pos h2) (Ev.now _)
        · rw [scan_at _ hlt, show hit (fun i => a == rd l i) i = none by simp [hit, h2]] at hb
          obtain ⟨v, hv, hE⟩ := ih (i + 1) (by omega) ⟨b, hb⟩
          refine ⟨v, hv, Ev.step (fun k => by rw [slices_Index_int_int.l0]) ?_⟩
          simp only [h0, h1, h2, ↓reduceIte, wrap_succ hlt hl]
          exact hE
    obtain ⟨j, _, h1, h2⟩ := scan_some hs
    obtain ⟨v, hv, hE⟩ := hall l.length 0 (by omega) ⟨u, hs⟩
    rw [hm j h1 (hit_some h2)]
    refine Ev.bind hE ?_
    have : decide (v ≥ 0) = true := by simpa using hv
    rw [this]; exact Ev.now _

/-! ### a constraint's form -/
def formedB (a0 : Int) (l1 l2 l3 : List Int) (a4 : Int) (l5 : List (List Int)) : Bool :=
  if a0 = 1 then decide (l2.length = 0) && decide (l3.length = 0) && decide (l5.length = 0) && a4 == 0
  else if a0 = 2 then !(l2.contains 0) && decide (l2.length = l1.length) && decide (l3.length = 0) && decide (l5.length = 0)
  else if a0 = 3 then !(l5.any fun r => decide (¬ r.length = l1.length)) && decide (l2.length = 0) && decide (l3.length = 0) && a4 == 0
  else if a0 = 4 then decide (2 ≤ l1.length) && decide (l2.length = 0) && decide (l3.length = 0) && decide (l5.length = 0) && a4 == 0
  else if a0 = 5 then decide (l2.length = l1.length) && decide (l3.length = l1.length) && decide (l5.length = 0) && decide (0 ≤ a4) && !(l2.any (fun v => decide (v < 0)) || l3.any (fun v => decide (v < 0)))
  else false
theorem any_two {l2 l3 : List Int} {n : Nat} (h2 : l2.length = n) (h3 : l3.length = n) (p : Int → Bool) : (l2.any p || l3.any p) = true ↔ ∃ i : Nat, i < n ∧ (p (rd l2 i) || p (rd l3 i)) = true := by
  rw [Bool.or_eq_true, any_rd, any_rd, h2, h3]
  constructor
  · rintro (⟨i, h, e⟩ | ⟨i, h, e⟩)
    · exact ⟨i, h, by simp [e]⟩
    · exact ⟨i, h, by simp [e]⟩
  · rintro ⟨i, h, e⟩
    rcases Bool.or_eq_true_iff.1 e with e | e
    · exact Or.inl ⟨i, h, e⟩
    · exact Or.inr ⟨i, h, e⟩
theorem formed_ev (a0 : Int) (l1 l2 l3 : List Int) (a4 : Int) (l5 : List (List Int)) (b1 : l1.length ≤ 60) (b2 : l2.length ≤ 60) (b5 : l5.length ≤ 200) :
    Ev (fun k => optimaref3_formed.f k a0 l1 l2 l3 a4 l5) (formedB a0 l1 l2 l3 a4 l5) := by
  unfold formedB
  by_cases h1 : a0 = 1
  · simp only [optimaref3_formed.f, h1, ↓reduceIte]
    by_cases e2 : l2.length = 0
    · by_cases e3 : l3.length = 0
      · by_cases e5 : l5.length = 0
        · simp only [e2, e3, e5, Int.cast_ofNat_Int, ↓reduceIte, decide_true, Bool.true_and]; exact Ev.now _
        · have : ¬ (l5.length : Int) = 0 := by omega
          simp only [e2, e3, e5, this, Int.cast_ofNat_Int, ↓reduceIte, decide_true, decide_false, Bool.true_and, Bool.false_and, Bool.and_false]; exact Ev.now _
      · have : ¬ (l3.length : Int) = 0 := by omega
        simp only [e2, e3, this, Int.cast_ofNat_Int, ↓reduceIte, decide_true, decide_false, Bool.true_and, Bool.false_and, Bool.and_false]; exact Ev.now _
    · have : ¬ (l2.length : Int) = 0 := by omega
      simp only [e2, this, Int.cast_ofNat_Int, ↓reduceIte, decide_true, decide_false, Bool.true_and, Bool.false_and, Bool.and_false]; exact Ev.now _
  by_cases h2 : a0 = 2
  · subst h2
    simp only [optimaref3_formed.f, h1, ↓reduceIte]
    have h := Ev.find (g := fun k i => optimaref3_formed.l0 k l1.length l2.length l3.length l5.length i 2 l1 l2 l3 a4 l5) (n := l2.length) (p := fun i => (0 : Int) == rd l2 i) (q := l2.contains 0) (r1 := false) (r0 := decide (l2.length = l1.length) && decide (l3.length = 0) && decide (l5.length = 0)) (contains_rd l2 0) ?_ ?_ ?_
    · refine cast ?_ h
      congr 1
      cases l2.contains 0 <;> simp
    · intro _
      refine Ev.step (fun k => by rw [optimaref3_formed.l0]) ?_
      simp only [Int.lt_irrefl, ↓reduceIte]
      by_cases e2 : l2.length = l1.length
      · have e2' : (l2.length : Int) = l1.length := by omega
        by_cases e3 : l3.length = 0
        · have e3' : (l3.length : Int) = 0 := by omega
          have : ((l5.length : Int) == 0) = decide (l5.length = 0) := by
            rw [Bool.eq_iff_iff]; simp
          simp only [e2, e3', e3, this, ↓reduceIte, decide_true, Bool.true_and]; exact Ev.now _
        · have e3' : ¬ (l3.length : Int) = 0 := by omega
          simp only [e2, e3', e3, ↓reduceIte, decide_true, decide_false, Bool.true_and, Bool.false_and]; exact Ev.now _
      · have e2' : ¬ (l2.length : Int) = l1.length := by omega
        simp only [e2', e2, ↓reduceIte, decide_false, Bool.false_and]; exact Ev.now _
    · intro i hi hp
      have k0 : (0 : Int) ≤ i := by omega
      have k1 : (i : Int) < l2.length := by omega
      have k2 : rd l2 i = 0 := (eq_of_beq hp).symm
      refine Ev.step (fun k => by rw [optimaref3_formed.l0]) ?_
      simp only [k0, k1, k2, ↓reduceIte]
      exact Ev.now _
    · intro r i hi hp h
      have k0 : (0 : Int) ≤ i := by omega
      have k1 : (i : Int) < l2.length := by omega
      have k2 : ¬ rd l2 i = 0 := by intro e; simp [e] at hp
      refine Ev.step (fun k => by rw [optimaref3_formed.l0]) ?_
      simp only [k0, k1, k2, ↓reduceIte, wrap_succ hi (show l2.length < 4611686018427387904 by omega)]
      exact h
  by_cases h3 : a0 = 3
  · subst h3
    simp only [optimaref3_formed.f, h1, h2, ↓reduceIte]
    have h := Ev.find (g := fun k i => optimaref3_formed.l1 k l1.length l2.length l3.length l5.length i 3 l1 l2 l3 a4 l5) (n := l5.length) (p := fun i => decide (¬ (rd_L1 l5 i).length = l1.length)) (q := l5.any fun r => decide (¬ r.length = l1.length)) (r1 := false) (r0 := decide (l2.length = 0) && decide (l3.length = 0) && a4 == 0) (any_rdL1 l5 _) ?_ ?_ ?_
    · refine cast ?_ h
      congr 1
      cases (l5.any fun r => decide (¬ r.length = l1.length)) <;> simp
    · intro _
      refine Ev.step (fun k => by rw [optimaref3_formed.l1]) ?_
      simp only [Int.lt_irrefl, ↓reduceIte]
      by_cases e2 : l2.length = 0
      · have e2' : (l2.length : Int) = 0 := by omega
        by_cases e3 : l3.length = 0
        · have e3' : (l3.length : Int) = 0 := by omega
          simp only [e2', e2, e3', e3, ↓reduceIte, decide_true, Bool.true_and]; exact Ev.now _
        · have e3' : ¬ (l3.length : Int) = 0 := by omega
          simp only [e2', e2, e3', e3, ↓reduceIte, decide_true, decide_false, Bool.true_and, Bool.false_and]; exact Ev.now _
      · have e2' : ¬ (l2.length : Int) = 0 := by omega
        simp only [e2', e2, ↓reduceIte, decide_false, Bool.false_and]; exact Ev.now _
    · intro i hi hp
      have k0 : (0 : Int) ≤ i := by omega
      have k1 : (i : Int) < l5.length := by omega
      have k2 : ¬ ((rd_L1 l5 i).length : Int) = l1.length := by have := (show ¬ (rd_L1 l5 i).length = l1.length by simpa using hp); omega
      refine Ev.step (fun k => by rw [optimaref3_formed.l1]) ?_
      simp only [k0, k1, k2, ↓reduceIte]
      exact Ev.now _
    · intro r i hi hp h
      have k0 : (0 : Int) ≤ i := by omega
      have k1 : (i : Int) < l5.length := by omega
      have k2 : ((rd_L1 l5 i).length : Int) = l1.length := by have := (show (rd_L1 l5 i).length = l1.length by simpa using hp); omega
      refine Ev.step (fun k => by rw [optimaref3_formed.l1]) ?_
      simp only [k0, k1, k2, ↓reduceIte, wrap_succ hi (show l5.length < 4611686018427387904 by omega)]
      exact h
  by_cases h4 : a0 = 4
  · subst h4
    simp only [optimaref3_formed.f, h1, h2, h3, ↓reduceIte]
    by_cases e1 : 2 ≤ l1.length
    · have e1' : (l1.length : Int) ≥ 2 := by omega
      by_cases e2 : l2.length = 0
      · by_cases e3 : l3.length = 0
        · by_cases e5 : l5.length = 0
          · simp only [e1, e1', e2, e3, e5, Int.cast_ofNat_Int, ↓reduceIte, decide_true, Bool.true_and]; exact Ev.now _
          · have : ¬ (l5.length : Int) = 0 := by omega
            simp only [e1, e1', e2, e3, e5, this, Int.cast_ofNat_Int, ↓reduceIte, decide_true, decide_false, Bool.true_and, Bool.false_and, Bool.and_false]; exact Ev.now _
        · have : ¬ (l3.length : Int) = 0 := by omega
          simp only [e1, e1', e2, e3, this, Int.cast_ofNat_Int, ↓reduceIte, decide_true, decide_false, Bool.true_and, Bool.false_and, Bool.and_false]; exact Ev.now _
      · have : ¬ (l2.length : Int) = 0 := by omega
        simp only [e1, e1', e2, this, Int.cast_ofNat_Int, ↓reduceIte, decide_true, decide_false, Bool.true_and, Bool.false_and, Bool.and_false]; exact Ev.now _
    · have e1' : ¬ (l1.length : Int) ≥ 2 := by omega
      simp only [e1, e1', ↓reduceIte, decide_false, Bool.false_and]; exact Ev.now _
  by_cases h5 : a0 = 5
  · subst h5
    simp only [optimaref3_formed.f, h1, h2, h3, h4, ↓reduceIte]
    have ht : Ev (fun k => optimaref3_formed.j2 k l1.length true 5 l1 l2 l3 a4 l5) false := by
      refine Ev.step (fun k => by rw [optimaref3_formed.j2]) ?_
      simp only [↓reduceIte]; exact Ev.now _
    by_cases e2 : l2.length = l1.length
    · have e2' : (l2.length : Int) = l1.length := by omega
      by_cases e3 : l3.length = l1.length
      · have e3' : (l3.length : Int) = l1.length := by omega
        by_cases e5 : l5.length = 0
        · have e5' : ¬ (l5.length : Int) > 0 := by omega
          by_cases e4 : 0 ≤ a4
          · have e4' : decide (a4 < 0) = false := by simp; omega
            simp only [e2', e3', e5', e4', e2, e3, e5, e4, ↓reduceIte, decide_true, Bool.true_and]
            refine Ev.step (fun k => by rw [optimaref3_formed.j2]) ?_
            simp only [Bool.false_eq_true, ↓reduceIte]
            have h := Ev.find (g := fun k i => optimaref3_formed.l2 k l1.length i 5 l1 l2 l3 a4 l5) (n := l1.length) (p := fun i => decide (rd l2 i < 0) || decide (rd l3 i < 0)) (q := l2.any (fun v => decide (v < 0)) || l3.any (fun v => decide (v < 0))) (r1 := false) (r0 := true) (any_two e2 e3 fun v => decide (v < 0)) ?_ ?_ ?_
            · rw [ifB'] at h; exact h
            · intro _
              refine Ev.step (fun k => by rw [optimaref3_formed.l2]) ?_
              simp only [Int.lt_irrefl, ↓reduceIte]
              exact Ev.now _
            · intro i hi hp
              have k0 : (0 : Int) ≤ i := by omega
              have k1 : (i : Int) < l1.length := by omega
              have k2 : (i : Int) < l2.length := by omega
              have k3 : (i : Int) < l3.length := by omega
              refine Ev.step (fun k => by rw [optimaref3_formed.l2]) ?_
              by_cases k4 : rd l2 i < 0
              · simp only [k0, k1, k2, k3, k4, ↓reduceIte]
                exact Ev.now _
              · have k5 : rd l3 i < 0 := by simpa [k4] using hp
                simp only [k0, k1, k2, k3, k4, k5, ↓reduceIte]
                exact Ev.now _
            · intro r i hi hp h
              have k0 : (0 : Int) ≤ i := by omega
              have k1 : (i : Int) < l1.length := by omega
              have k2 : (i : Int) < l2.length := by omega
              have k3 : (i : Int) < l3.length := by omega
              have k4 : ¬ rd l2 i < 0 ∧ ¬ rd l3 i < 0 := by simpa using hp
              refine Ev.step (fun k => by rw [optimaref3_formed.l2]) ?_
              simp only [k0, k1, k2, k3, k4.1, k4.2, ↓reduceIte, wrap_succ hi (show l1.length < 4611686018427387904 by omega)]
              exact h
          · have e4' : decide (a4 < 0) = true := by simp; omega
            simp only [e2', e3', e5', e4', e2, e3, e5, e4, ↓reduceIte, decide_true, decide_false, Bool.true_and, Bool.false_and]
            exact ht
        · have e5' : (l5.length : Int) > 0 := by omega
          simp only [e2', e3', e5', e2, e3, e5, ↓reduceIte, decide_true, decide_false, Bool.true_and, Bool.false_and]
          exact ht
      · have e3' : ¬ (l3.length : Int) = l1.length := by omega
        simp only [e2', e3', e2, e3, ↓reduceIte, decide_true, decide_false, Bool.true_and, Bool.false_and]
        exact ht
    · have e2' : ¬ (l2.length : Int) = l1.length := by omega
      simp only [e2', e2, ↓reduceIte, decide_true, decide_false, Bool.true_and, Bool.false_and]
      exact ht
  simp only [optimaref3_formed.f, h1, h2, h3, h4, h5, ↓reduceIte]; exact Ev.now _

/-- what a check answers, as the reference numbers it -/
def codeR : Option Int → Int
  | none => 0
  | some g => if g = 1 then 2 else 4
def bigRow (r : List Int) : Bool := r.any bigB
def conBig (l2 l3 : List Int) (a4 : Int) (l5 : List (List Int)) : Bool := l2.any bigB || (l3.any bigB || (bigB a4 || l5.any bigRow))
def farB (n : Int) (l1 : List Int) : Bool := l1.any fun v => decide (v < 0) || decide (n ≤ v)
def longB (l5 : List (List Int)) : Bool := l5.any fun r => decide (60 < r.length)
/-- a constraint's fault -/
def conE (n : Int) (a0 : Int) (l1 l2 l3 : List Int) (a4 : Int) (l5 : List (List Int)) : Option Int :=
  if l1.length > 60 ∨ l2.length > 60 ∨ l3.length > 60 ∨ l5.length > 200 then some 1
  else if longB l5 then some 1
  else if conBig l2 l3 a4 l5 then some 1
  else if farB n l1 then some 0
  else if formedB a0 l1 l2 l3 a4 l5 then none else some 0

section
variable (vals : List (List Int)) (cons : List S44) (a0 : Int) (l1 l2 l3 : List Int) (a4 : Int) (l5 : List (List Int))
theorem conValid_far (b1 : l1.length ≤ 60) (b2 : l2.length ≤ 60) (b5 : l5.length ≤ 200) :
    Ev (fun k => optimaref3_conValid.l2 k l1.length 0 vals cons a0 l1 l2 l3 a4 l5) (codeR (if farB vals.length l1 then some 0 else if formedB a0 l1 l2 l3 a4 l5 then none else some 0)) := by
  have h := Ev.find (g := fun k i => optimaref3_conValid.l2 k l1.length i vals cons a0 l1 l2 l3 a4 l5) (n := l1.length) (p := fun i => decide (rd l1 i < 0) || decide ((vals.length : Int) ≤ rd l1 i)) (q := farB vals.length l1) (r1 := codeR (some 0)) (r0 := codeR (if formedB a0 l1 l2 l3 a4 l5 then none else some 0)) (any_rd l1 _) ?_ ?_ ?_
  · refine cast ?_ h
    congr 1
    cases farB vals.length l1 <;> rfl
  · intro _
    refine Ev.step (fun k => by rw [optimaref3_conValid.l2]) ?_
    simp only [Int.lt_irrefl, ↓reduceIte]
    refine Ev.bind (formed_ev a0 l1 l2 l3 a4 l5 b1 b2 b5) ?_
    cases formedB a0 l1 l2 l3 a4 l5
    · simp only [Bool.false_eq_true, ↓reduceIte]; exact Ev.now _
    · simp only [↓reduceIte]; exact Ev.now _
  · intro i hi hp
    have k0 : (0 : Int) ≤ i := by omega
    have k1 : (i : Int) < l1.length := by omega
    refine Ev.step (fun k => by rw [optimaref3_conValid.l2]) ?_
    by_cases k2 : rd l1 i < 0
    · simp only [k0, k1, k2, ↓reduceIte]; exact Ev.now _
    · have k3 : rd l1 i ≥ (vals.length : Int) := by simpa [k2] using hp
      simp only [k0, k1, k2, k3, ↓reduceIte]; exact Ev.now _
  · intro r i hi hp h
    have k0 : (0 : Int) ≤ i := by omega
    have k1 : (i : Int) < l1.length := by omega
    have k2 : ¬ rd l1 i < 0 := by intro e; simp [e] at hp
    have k3 : ¬ rd l1 i ≥ (vals.length : Int) := by intro e; simp [e] at hp
    refine Ev.step (fun k => by rw [optimaref3_conValid.l2]) ?_
    simp only [k0, k1, k2, k3, ↓reduceIte, wrap_succ hi (show l1.length < 4611686018427387904 by omega)]
    exact h
theorem conValid_j3t : Ev (fun k => optimaref3_conValid.j3 k l1.length true vals cons a0 l1 l2 l3 a4 l5) 2 := by
  refine Ev.step (fun k => by rw [optimaref3_conValid.j3]) ?_
  simp only [↓reduceIte]; exact Ev.now _
theorem conValid_l1t (i : Int) : Ev (fun k => optimaref3_conValid.l1 k l1.length true i vals cons a0 l1 l2 l3 a4 l5) 2 := by
  refine Ev.step (fun k => by rw [optimaref3_conValid.l1]) ?_
  simp only [↓reduceIte, ite_self]; exact conValid_j3t vals cons a0 l1 l2 l3 a4 l5
theorem conValid_rows (r : Int) (hrow : longB l5 = false) (b5 : l5.length ≤ 200) (h : Ev (fun k => optimaref3_conValid.l2 k l1.length 0 vals cons a0 l1 l2 l3 a4 l5) r) :
    Ev (fun k => optimaref3_conValid.l1 k l1.length (bigB a4) 0 vals cons a0 l1 l2 l3 a4 l5) (if bigB a4 || l5.any bigRow then 2 else r) := by
  have hr : ∀ i : Nat, i < l5.length → LenOk (rd_L1 l5 i) := by
    intro i hi
    have : ¬ (60 < (rd_L1 l5 i).length) := by
      intro e
      have := (any_rdL1 l5 fun r => decide (60 < r.length)).2 ⟨i, hi, by simp [e]⟩
      rw [longB] at hrow; simp_all
    unfold LenOk; omega
  cases hb : bigB a4 with
  | true => simp only [Bool.true_or, ↓reduceIte]; exact conValid_l1t vals cons a0 l1 l2 l3 a4 l5 0
  | false =>
    simp only [Bool.false_or]
    refine Ev.find (g := fun k i => optimaref3_conValid.l1 k l1.length false i vals cons a0 l1 l2 l3 a4 l5) (n := l5.length) (p := fun i => bigRow (rd_L1 l5 i)) (any_rdL1 l5 _) ?_ ?_ ?_
    · intro _
      refine Ev.step (fun k => by rw [optimaref3_conValid.l1]) ?_
      simp only [Int.lt_irrefl, ↓reduceIte]
      refine Ev.step (fun k => by rw [optimaref3_conValid.j3]) ?_
      simp only [Bool.false_eq_true, ↓reduceIte]
      exact h
    · intro i hi hp
      have k0 : (0 : Int) ≤ i := by omega
      have k1 : (i : Int) < l5.length := by omega
      refine Ev.step (fun k => by rw [optimaref3_conValid.l1]) ?_
      simp only [k0, k1, Bool.false_eq_true, ↓reduceIte]
      refine Ev.bind (anyBig_ev _ (hr i hi)) ?_
      rw [show (rd_L1 l5 i).any bigB = true from hp]
      exact conValid_l1t vals cons a0 l1 l2 l3 a4 l5 _
    · intro r i hi hp h
      have k0 : (0 : Int) ≤ i := by omega
      have k1 : (i : Int) < l5.length := by omega
      refine Ev.step (fun k => by rw [optimaref3_conValid.l1]) ?_
      simp only [k0, k1, Bool.false_eq_true, ↓reduceIte]
      refine Ev.bind (anyBig_ev _ (hr i hi)) ?_
      rw [show (rd_L1 l5 i).any bigB = false from hp]
      simp only [wrap_succ hi (show l5.length < 4611686018427387904 by omega)]
      exact h
theorem conValid_ev : Ev (fun k => optimaref3_conValid.f k vals cons a0 l1 l2 l3 a4 l5) (codeR (conE vals.length a0 l1 l2 l3 a4 l5)) := by
  have ht : Ev (fun k => optimaref3_conValid.j0 k l1.length true vals cons a0 l1 l2 l3 a4 l5) 2 := by
    refine Ev.step (fun k => by rw [optimaref3_conValid.j0]) ?_
    simp only [↓reduceIte]; exact Ev.now _
  unfold conE
  by_cases e1 : l1.length > 60
  · have k1 : (l1.length : Int) > 60 := by omega
    simp only [optimaref3_conValid.f, k1, e1, true_or, ↓reduceIte]; exact ht
  by_cases e2 : l2.length > 60
  · have k1 : ¬ (l1.length : Int) > 60 := by omega
    have k2 : (l2.length : Int) > 60 := by omega
    simp only [optimaref3_conValid.f, k1, k2, e2, true_or, or_true, ↓reduceIte]; exact ht
  by_cases e3 : l3.length > 60
  · have k1 : ¬ (l1.length : Int) > 60 := by omega
    have k2 : ¬ (l2.length : Int) > 60 := by omega
    have k3 : (l3.length : Int) > 60 := by omega
    simp only [optimaref3_conValid.f, k1, k2, k3, e3, true_or, or_true, ↓reduceIte]; exact ht
  have k1 : ¬ (l1.length : Int) > 60 := by omega
  have k2 : ¬ (l2.length : Int) > 60 := by omega
  have k3 : ¬ (l3.length : Int) > 60 := by omega
  by_cases e5 : l5.length > 200
  · have k5 : decide ((l5.length : Int) > 200) = true := by simp; omega
    simp only [optimaref3_conValid.f, k1, k2, k3, k5, e5, true_or, or_true, ↓reduceIte]; exact ht
  have k5 : decide ((l5.length : Int) > 200) = false := by simp; omega
  rw [if_neg (by omega)]
  simp only [optimaref3_conValid.f, k1, k2, k3, k5, ↓reduceIte]
  refine Ev.step (fun k => by rw [optimaref3_conValid.j0]) ?_
  simp only [Bool.false_eq_true, ↓reduceIte]
  have h := Ev.find (g := fun k i => optimaref3_conValid.l0 k l1.length i vals cons a0 l1 l2 l3 a4 l5) (n := l5.length) (p := fun i => decide (60 < (rd_L1 l5 i).length)) (q := longB l5) (r1 := (2 : Int)) (r0 := codeR (if conBig l2 l3 a4 l5 then some 1 else if farB vals.length l1 then some 0 else if formedB a0 l1 l2 l3 a4 l5 then none else some 0)) (any_rdL1 l5 _) ?_ ?_ ?_
  · refine cast ?_ h
    congr 1
    cases longB l5 <;> rfl
  · intro hq
    refine Ev.step (fun k => by rw [optimaref3_conValid.l0]) ?_
    simp only [Int.lt_irrefl, ↓reduceIte]
    refine Ev.bind (anyBig_ev l2 (by unfold LenOk; omega)) ?_
    unfold conBig
    cases l2.any bigB with
    | true => simp only [Bool.true_or, ↓reduceIte]; exact Ev.now _
    | false =>
      simp only [Bool.false_or, Bool.false_eq_true, ↓reduceIte]
      refine Ev.bind (anyBig_ev l3 (by unfold LenOk; omega)) ?_
      cases l3.any bigB with
      | true => simp only [Bool.true_or, ↓reduceIte]; exact Ev.now _
      | false =>
        simp only [Bool.false_or, Bool.false_eq_true, ↓reduceIte, big_f, Option.bind_some]
        refine cast ?_ (conValid_rows vals cons a0 l1 l2 l3 a4 l5 _ hq (by omega) (conValid_far vals cons a0 l1 l2 l3 a4 l5 (by omega) (by omega) (by omega)))
        congr 1
        cases (bigB a4 || l5.any bigRow) <;> rfl
  · intro i hi hp
    have k0 : (0 : Int) ≤ i := by omega
    have k1 : (i : Int) < l5.length := by omega
    have k2 : ((rd_L1 l5 i).length : Int) > 60 := by have := (show 60 < (rd_L1 l5 i).length by simpa using hp); omega
    refine Ev.step (fun k => by rw [optimaref3_conValid.l0]) ?_
    simp only [k0, k1, k2, ↓reduceIte]; exact Ev.now _
  · intro r i hi hp h
    have k0 : (0 : Int) ≤ i := by omega
    have k1 : (i : Int) < l5.length := by omega
    have k2 : ¬ ((rd_L1 l5 i).length : Int) > 60 := by have := (show ¬ 60 < (rd_L1 l5 i).length by simpa using hp); omega
    refine Ev.step (fun k => by rw [optimaref3_conValid.l0]) ?_
    simp only [k0, k1, k2, ↓reduceIte, wrap_succ hi (show l5.length < 4611686018427387904 by omega)]
    exact h
end

theorem Ev.findAt {α : Type} {g : Nat → Int → Option α} {p : Nat → Bool} {n : Nat} {q : Bool} {r1 r0 : α} (hq : q = true ↔ ∃ i, i < n ∧ p i = true)
    (hend : q = false → Ev (fun k => g k (n : Int)) r0) (hhit : ∀ i : Nat, i < n → p i = true → Ev (fun k => g k (i : Int)) r1)
    (hgo : ∀ (r : α) (i : Nat), i < n → (∀ j, j ≤ i → p j = false) → Ev (fun k => g k ((i + 1 : Nat) : Int)) r → Ev (fun k => g k (i : Int)) r) (d : Nat) :
    ∀ i : Nat, i + d = n → (∀ j, j < i → p j = false) → Ev (fun k => g k (i : Int)) (if q then r1 else r0) := by
  induction d with
  | zero =>
    intro i hi hb
    have hf : q = false := by
      cases hq' : q with
      | false => rfl
      | true => obtain ⟨j, h1, h2⟩ := hq.1 hq'; have := hb j (by omega); simp_all
    rw [show i = n by omega, hf]; exact hend hf
  | succ d ih =>
    intro i hi hb
    have hlt : i < n := by omega
    cases hp : p i with
    | true => rw [hq.2 ⟨i, hlt, hp⟩]; exact hhit i hlt hp
    | false =>
      have hall : ∀ j, j ≤ i → p j = false := by
        intro j hj
        rcases Nat.lt_or_ge j i with h | h
        · exact hb j h
        · rw [show j = i by omega]; exact hp
      exact hgo _ i hlt hall (ih (i + 1) (by omega) (fun j hj => hall j (by omega)))
theorem wrap_small {x : Int} (h0 : 0 ≤ x) (h1 : x < 4611686018427387904) : wrap64 x = x := by unfold wrap64; omega
theorem flat_len (l5 : List (List Int)) (i : Nat) (h : ∀ j, j < i → (rd_L1 l5 j).length ≤ 60) : (l5.take i).flatten.length ≤ 60 * i := by
  induction i with
  | zero => simp
  | succ i ih =>
    by_cases hi : i < l5.length
    · rw [List.take_succ_eq_append_getElem hi]
      have h1 := ih (fun j hj => h j (by omega))
      have h2 := h i (by omega)
      rw [rdL1_in hi] at h2
      simp only [List.flatten_append, List.length_append, List.flatten_cons, List.flatten_nil, List.append_nil]
      omega
    · rw [List.take_of_length_le (by omega)]
      have h1 := ih (fun j hj => h j (by omega))
      rw [List.take_of_length_le (by omega)] at h1
      omega
theorem flat_any (l5 : List (List Int)) : l5.flatten.any bigB = l5.any bigRow := by
  induction l5 with
  | nil => rfl
  | cons a l ih => simp only [List.flatten_cons, List.any_append, List.any_cons, ih]; rfl

section
variable (vals : List (List Int)) (cons : List S44) (a0 : Int) (l1 l2 l3 : List Int) (a4 : Int) (l5 : List (List Int))
theorem valid_same (b1 : l1.length ≤ 60) (b5 : l5.length ≤ 200) (x13 : Bool) :
    Ev (fun k => finite_valid.l3 k l1.length x13 l5 l5.length 0) (if x13 && !(l5.any fun r => decide (¬ r.length = l1.length)) then none else some 0) := by
  have hf : ∀ d i : Nat, i + d = l5.length → Ev (fun k => finite_valid.l3 k l1.length false l5 l5.length (i : Int)) (some 0) := by
    intro d
    induction d with
    | zero =>
      intro i hi
      refine Ev.step (fun k => by rw [finite_valid.l3]) ?_
      have : ¬ (i : Int) < l5.length := by omega
      simp only [this, Bool.false_eq_true, ↓reduceIte]; exact Ev.now _
    | succ d ih =>
      intro i hi
      have k0 : (0 : Int) ≤ i := by omega
      have k1 : (i : Int) < l5.length := by omega
      refine Ev.step (fun k => by rw [finite_valid.l3]) ?_
      simp only [k0, k1, Bool.false_eq_true, ↓reduceIte, wrap_succ (show i < l5.length by omega) (show l5.length < 4611686018427387904 by omega)]
      exact ih (i + 1) (by omega)
  cases x13 with
  | false => simp only [Bool.false_and, Bool.false_eq_true, ↓reduceIte]; exact hf l5.length 0 (by omega)
  | true =>
    have h := Ev.find (g := fun k i => finite_valid.l3 k l1.length true l5 l5.length i) (n := l5.length) (p := fun i => decide (¬ (rd_L1 l5 i).length = l1.length)) (q := l5.any fun r => decide (¬ r.length = l1.length)) (r1 := (some 0 : Option Int)) (r0 := none) (any_rdL1 l5 _) ?_ ?_ ?_
    · refine cast ?_ h
      congr 1
      cases (l5.any fun r => decide (¬ r.length = l1.length)) <;> rfl
    · intro _
      refine Ev.step (fun k => by rw [finite_valid.l3]) ?_
      simp only [Int.lt_irrefl, ↓reduceIte]; exact Ev.now _
    · intro i hi hp
      have k0 : (0 : Int) ≤ i := by omega
      have k1 : (i : Int) < l5.length := by omega
      have k2 : (((rd_L1 l5 i).length : Int) == l1.length) = false := by have := (show ¬ (rd_L1 l5 i).length = l1.length by simpa using hp); simp; omega
      refine Ev.step (fun k => by rw [finite_valid.l3]) ?_
      simp only [k0, k1, k2, ↓reduceIte, wrap_succ hi (show l5.length < 4611686018427387904 by omega)]
      exact hf (l5.length - (i + 1)) (i + 1) (by omega)
    · intro r i hi hp h
      have k0 : (0 : Int) ≤ i := by omega
      have k1 : (i : Int) < l5.length := by omega
      have k2 : (((rd_L1 l5 i).length : Int) == l1.length) = true := by have := (show (rd_L1 l5 i).length = l1.length by simpa using hp); simp; omega
      refine Ev.step (fun k => by rw [finite_valid.l3]) ?_
      simp only [k0, k1, k2, ↓reduceIte, wrap_succ hi (show l5.length < 4611686018427387904 by omega)]
      exact h
theorem valid_j6 {x13 : Bool} (b2 : l2.length ≤ 60) (hs : x13 = true → l3.length = l2.length) :
    Ev (fun k => finite_valid.j6 k x13 a0 l1 l2 l3 a4 l5) (if x13 && !(l2.any (fun v => decide (v < 0)) || l3.any (fun v => decide (v < 0))) then none else some 0) := by
  have hf : ∀ d i : Nat, i + d = l2.length → Ev (fun k => finite_valid.l4 k false l2.length (i : Int) a0 l1 l2 l3 a4 l5) (some 0) := by
    intro d
    induction d with
    | zero =>
      intro i hi
      refine Ev.step (fun k => by rw [finite_valid.l4]) ?_
      have : ¬ (i : Int) < l2.length := by omega
      simp only [this, Bool.false_eq_true, ↓reduceIte]; exact Ev.now _
    | succ d ih =>
      intro i hi
      have k1 : (i : Int) < l2.length := by omega
      refine Ev.step (fun k => by rw [finite_valid.l4]) ?_
      simp only [k1, Bool.false_eq_true, ↓reduceIte, wrap_succ (show i < l2.length by omega) (show l2.length < 4611686018427387904 by omega)]
      exact ih (i + 1) (by omega)
  refine Ev.step (fun k => by rw [finite_valid.j6]) ?_
  cases x13 with
  | false => simp only [Bool.false_and, Bool.false_eq_true, ↓reduceIte]; exact hf l2.length 0 (by omega)
  | true =>
    have h32 := hs rfl
    have h := Ev.find (g := fun k i => finite_valid.l4 k true l2.length i a0 l1 l2 l3 a4 l5) (n := l2.length) (p := fun i => decide (rd l2 i < 0) || decide (rd l3 i < 0)) (q := l2.any (fun v => decide (v < 0)) || l3.any (fun v => decide (v < 0))) (r1 := (some 0 : Option Int)) (r0 := none) (any_two rfl h32 fun v => decide (v < 0)) ?_ ?_ ?_
    · refine cast ?_ h
      congr 1
      cases (l2.any (fun v => decide (v < 0)) || l3.any (fun v => decide (v < 0))) <;> rfl
    · intro _
      refine Ev.step (fun k => by rw [finite_valid.l4]) ?_
      simp only [Int.lt_irrefl, ↓reduceIte]; exact Ev.now _
    · intro i hi hp
      have k0 : (0 : Int) ≤ i := by omega
      have k1 : (i : Int) < l2.length := by omega
      have k3 : (i : Int) < l3.length := by omega
      refine Ev.step (fun k => by rw [finite_valid.l4]) ?_
      by_cases k4 : rd l2 i ≥ 0
      · have k5 : decide (rd l3 i ≥ 0) = false := by
          have : rd l3 i < 0 := by simpa [show ¬ rd l2 i < 0 by omega] using hp
          simp; omega
        simp only [k0, k1, k3, k4, k5, ↓reduceIte, wrap_succ hi (show l2.length < 4611686018427387904 by omega)]
        exact hf (l2.length - (i + 1)) (i + 1) (by omega)
      · simp only [k0, k1, k3, k4, ↓reduceIte, wrap_succ hi (show l2.length < 4611686018427387904 by omega)]
        exact hf (l2.length - (i + 1)) (i + 1) (by omega)
    · intro r i hi hp h
      have k0 : (0 : Int) ≤ i := by omega
      have k1 : (i : Int) < l2.length := by omega
      have k3 : (i : Int) < l3.length := by omega
      have kk : ¬ rd l2 i < 0 ∧ ¬ rd l3 i < 0 := by simpa using hp
      have k4 : rd l2 i ≥ 0 := by omega
      have k5 : decide (rd l3 i ≥ 0) = true := by simp; omega
      refine Ev.step (fun k => by rw [finite_valid.l4]) ?_
      simp only [k0, k1, k3, k4, k5, ↓reduceIte, wrap_succ hi (show l2.length < 4611686018427387904 by omega)]
      exact h
theorem valid_form (b1 : l1.length ≤ 60) (b2 : l2.length ≤ 60) (b3 : l3.length ≤ 60) (b5 : l5.length ≤ 200) :
    Ev (fun k => if a0 = 1 then (if (wrap64 ((wrap64 ((l2.length : Int) + (l3.length : Int))) + (l5.length : Int))) = 0 then (if a4 = 0 then (some none) else (some (some 0))) else (some (some 0))) else (if a0 = 2 then (if (l2.length : Int) = (l1.length : Int) then (if (wrap64 ((l3.length : Int) + (l5.length : Int))) = 0 then ((slices_Contains_int_int.f k l2 0).bind fun t122 => (if t122 = true then (some (some 0)) else (some none))) else (some (some 0))) else (some (some 0))) else (if a0 = 3 then (if (wrap64 ((l2.length : Int) + (l3.length : Int))) = 0 then (finite_valid.j4 k (l1.length : Int) (a4 == 0) a0 l1 l2 l3 a4 l5) else (finite_valid.j4 k (l1.length : Int) false a0 l1 l2 l3 a4 l5)) else (if a0 = 4 then (if (l1.length : Int) ≥ 2 then (if (wrap64 ((wrap64 ((l2.length : Int) + (l3.length : Int))) + (l5.length : Int))) = 0 then (if a4 = 0 then (some none) else (some (some 0))) else (some (some 0))) else (some (some 0))) else (if a0 = 5 then (if (l2.length : Int) = (l1.length : Int) then (if (l3.length : Int) = (l1.length : Int) then (if (l5.length : Int) = 0 then (finite_valid.j6 k (decide (a4 ≥ 0)) a0 l1 l2 l3 a4 l5) else (finite_valid.j6 k false a0 l1 l2 l3 a4 l5)) else (finite_valid.j6 k false a0 l1 l2 l3 a4 l5)) else (finite_valid.j6 k false a0 l1 l2 l3 a4 l5)) else (some (some 0)))))))
      (if formedB a0 l1 l2 l3 a4 l5 then none else some 0) := by
  have w23 : wrap64 ((l2.length : Int) + l3.length) = (l2.length : Int) + l3.length := wrap_small (by omega) (by omega)
  have w35 : wrap64 ((l3.length : Int) + l5.length) = (l3.length : Int) + l5.length := wrap_small (by omega) (by omega)
  have w235 : wrap64 ((l2.length : Int) + l3.length + l5.length) = (l2.length : Int) + l3.length + l5.length := wrap_small (by omega) (by omega)
  simp only [w23, w35, w235]
  have key : ∀ (b : Bool) (c : Prop) [Decidable c], (b = true ↔ c) → Ev (fun _ : Nat => if c then some (none : Option Int) else some (some 0)) (if b then none else some 0) := by
    intro b c _ hb
    cases b with
    | true => simp only [show c from hb.1 rfl, ↓reduceIte]; exact Ev.now _
    | false => simp only [show ¬ c from fun h => by simpa using hb.2 h, ↓reduceIte]; exact Ev.now _
  have two : ∀ (c d : Prop) [Decidable c] [Decidable d], (if c then (if d then some (none : Option Int) else some (some 0)) else some (some 0)) = if c ∧ d then some none else some (some 0) := by
    intro c d _ _
    by_cases hc : c <;> by_cases hd : d <;> simp [hc, hd]
  unfold formedB
  by_cases h1 : a0 = 1
  · simp only [h1, ↓reduceIte, two]
    refine key _ _ ?_
    simp only [Bool.and_eq_true, decide_eq_true_eq, beq_iff_eq]; omega
  by_cases h2 : a0 = 2
  · subst h2
    simp only [h1, ↓reduceIte]
    by_cases e1 : l2.length = l1.length
    · have e1' : (l2.length : Int) = l1.length := by omega
      by_cases e2 : l3.length = 0 ∧ l5.length = 0
      · have e2' : (l3.length : Int) + l5.length = 0 := by omega
        rw [show (decide (l3.length = 0)) = true by simpa using e2.1, show (decide (l5.length = 0)) = true by simpa using e2.2, show (decide (l2.length = l1.length)) = true by simpa using e1]
        simp only [e1', e2', ↓reduceIte, Bool.and_true]
        refine Ev.bind (contains_ev l2 (by unfold LenOk; omega) 0) ?_
        cases l2.contains 0
        · simp only [Bool.not_false, Bool.false_eq_true, ↓reduceIte]; exact Ev.now _
        · simp only [Bool.not_true, Bool.false_eq_true, ↓reduceIte]; exact Ev.now _
      · have e2' : ¬ (l3.length : Int) + l5.length = 0 := by omega
        have : (decide (l3.length = 0) && decide (l5.length = 0)) = false := by
          rw [← Bool.not_eq_true, Bool.and_eq_true, decide_eq_true_eq, decide_eq_true_eq]; exact e2
        simp only [Bool.and_assoc, this, e1', e2', Bool.and_false, Bool.false_eq_true, ↓reduceIte]; exact Ev.now _
    · have e1' : ¬ (l2.length : Int) = l1.length := by omega
      have : decide (l2.length = l1.length) = false := by simpa using e1
      simp only [this, e1', Bool.and_false, Bool.false_and, Bool.false_eq_true, ↓reduceIte]; exact Ev.now _
  by_cases h3 : a0 = 3
  · subst h3
    simp only [h1, h2, ↓reduceIte]
    have hj : ∀ b : Bool, Ev (fun k => finite_valid.j4 k l1.length b 3 l1 l2 l3 a4 l5) (if b && !(l5.any fun r => decide (¬ r.length = l1.length)) then none else some 0) := by
      intro b
      refine Ev.step (fun k => by rw [finite_valid.j4]) ?_
      exact valid_same l1 l5 b1 b5 b
    by_cases e2 : l2.length = 0 ∧ l3.length = 0
    · have e2' : (l2.length : Int) + l3.length = 0 := by omega
      rw [show (decide (l2.length = 0)) = true by simpa using e2.1, show (decide (l3.length = 0)) = true by simpa using e2.2]
      simp only [e2', ↓reduceIte, Bool.and_true]
      rw [Bool.and_comm]
      exact hj _
    · have e2' : ¬ (l2.length : Int) + l3.length = 0 := by omega
      have : (decide (l2.length = 0) && decide (l3.length = 0)) = false := by
        rw [← Bool.not_eq_true, Bool.and_eq_true, decide_eq_true_eq, decide_eq_true_eq]; exact e2
      rw [Bool.and_assoc (!_), this]
      simp only [e2', Bool.and_false, Bool.false_and, ↓reduceIte]
      exact hj false
  by_cases h4 : a0 = 4
  · subst h4
    simp only [h1, h2, h3, ↓reduceIte, two]
    refine key _ _ ?_
    simp only [Bool.and_eq_true, decide_eq_true_eq, beq_iff_eq]; omega
  by_cases h5 : a0 = 5
  · subst h5
    simp only [h1, h2, h3, h4, ↓reduceIte]
    by_cases e : l2.length = l1.length ∧ l3.length = l1.length ∧ l5.length = 0
    · have e1 : (l2.length : Int) = l1.length := by omega
      have e2 : (l3.length : Int) = l1.length := by omega
      have e3 : (l5.length : Int) = 0 := by omega
      rw [show (decide (l2.length = l1.length)) = true by simpa using e.1, show (decide (l3.length = l1.length)) = true by simpa using e.2.1, show (decide (l5.length = 0)) = true by simpa using e.2.2]
      simp only [e1, e2, e3, ↓reduceIte, Bool.true_and]
      exact valid_j6 5 l1 l2 l3 a4 l5 b2 (fun _ => by omega)
    · have : (decide (l2.length = l1.length) && decide (l3.length = l1.length) && decide (l5.length = 0)) = false := by
        rw [← Bool.not_eq_true, Bool.and_eq_true, Bool.and_eq_true, decide_eq_true_eq, decide_eq_true_eq, decide_eq_true_eq, and_assoc]; exact e
      rw [this]
      simp only [Bool.false_and]
      have hj := valid_j6 (x13 := false) 5 l1 l2 l3 a4 l5 b2 (fun h => by cases h)
      simp only [Bool.false_and] at hj
      by_cases e1 : (l2.length : Int) = l1.length
      · by_cases e2 : (l3.length : Int) = l1.length
        · have e3 : ¬ (l5.length : Int) = 0 := by omega
          simp only [e1, e2, e3, ↓reduceIte]; exact hj
        · simp only [e1, e2, ↓reduceIte]; exact hj
      · simp only [e1, ↓reduceIte]; exact hj
  simp only [h1, h2, h3, h4, h5, Bool.false_eq_true, ↓reduceIte]; exact Ev.now _
end

section
variable (vals : List (List Int)) (cons : List S44) (a0 : Int) (l1 l2 l3 : List Int) (a4 : Int) (l5 : List (List Int))
theorem valid_far (b1 : l1.length ≤ 60) (b2 : l2.length ≤ 60) (b3 : l3.length ≤ 60) (b5 : l5.length ≤ 200) :
    Ev (fun k => finite_valid.l2 k l1 l1.length 0 vals cons a0 l1 l2 l3 a4 l5) (if farB vals.length l1 then some 0 else if formedB a0 l1 l2 l3 a4 l5 then none else some 0) := by
  refine Ev.find (g := fun k i => finite_valid.l2 k l1 l1.length i vals cons a0 l1 l2 l3 a4 l5) (n := l1.length) (p := fun i => decide (rd l1 i < 0) || decide ((vals.length : Int) ≤ rd l1 i)) (any_rd l1 _) ?_ ?_ ?_
  · intro _
    refine Ev.step (fun k => by rw [finite_valid.l2]) ?_
    simp only [Int.lt_irrefl, ↓reduceIte]
    exact valid_form a0 l1 l2 l3 a4 l5 b1 b2 b3 b5
  · intro i hi hp
    have k0 : (0 : Int) ≤ i := by omega
    have k1 : (i : Int) < l1.length := by omega
    refine Ev.step (fun k => by rw [finite_valid.l2]) ?_
    by_cases k2 : rd l1 i < 0
    · simp only [k0, k1, k2, ↓reduceIte]; exact Ev.now _
    · have k3 : rd l1 i ≥ (vals.length : Int) := by simpa [k2] using hp
      simp only [k0, k1, k2, k3, ↓reduceIte]; exact Ev.now _
  · intro r i hi hp h
    have k0 : (0 : Int) ≤ i := by omega
    have k1 : (i : Int) < l1.length := by omega
    have k2 : ¬ rd l1 i < 0 := by intro e; simp [e] at hp
    have k3 : ¬ rd l1 i ≥ (vals.length : Int) := by intro e; simp [e] at hp
    refine Ev.step (fun k => by rw [finite_valid.l2]) ?_
    simp only [k0, k1, k2, k3, ↓reduceIte, wrap_succ hi (show l1.length < 4611686018427387904 by omega)]
    exact h
theorem valid_nums (nums : List Int) (hn : nums.length < 4611686018427387904) {r : Option Int} (h : Ev (fun k => finite_valid.l2 k l1 l1.length 0 vals cons a0 l1 l2 l3 a4 l5) r) :
    Ev (fun k => finite_valid.l1 k nums nums.length 0 vals cons a0 l1 l2 l3 a4 l5) (if nums.any bigB then some 1 else r) := by
  refine Ev.find (g := fun k i => finite_valid.l1 k nums nums.length i vals cons a0 l1 l2 l3 a4 l5) (n := nums.length) (p := fun i => bigB (rd nums i)) (any_rd nums _) ?_ ?_ ?_
  · intro _
    refine Ev.step (fun k => by rw [finite_valid.l1]) ?_
    simp only [Int.lt_irrefl, ↓reduceIte]
    exact h
  · intro i hi hp
    have k0 : (0 : Int) ≤ i := by omega
    have k1 : (i : Int) < nums.length := by omega
    refine Ev.step (fun k => by rw [finite_valid.l1]) ?_
    by_cases k2 : rd nums i < -100000000
    · simp only [k0, k1, k2, ↓reduceIte]; exact Ev.now _
    · have k3 : rd nums i > 100000000 := by simpa [bigB, k2] using hp
      simp only [k0, k1, k2, k3, ↓reduceIte]; exact Ev.now _
  · intro r i hi hp h
    have k0 : (0 : Int) ≤ i := by omega
    have k1 : (i : Int) < nums.length := by omega
    have kk : rd nums i ≤ 100000000 ∧ -100000000 ≤ rd nums i := by simpa [bigB] using hp
    have k2 : ¬ rd nums i < -100000000 := by omega
    have k3 : ¬ rd nums i > 100000000 := by omega
    refine Ev.step (fun k => by rw [finite_valid.l1]) ?_
    simp only [k0, k1, k2, k3, ↓reduceIte, wrap_succ hi hn]
    exact h
theorem valid_ev : Ev (fun k => finite_valid.f k vals cons a0 l1 l2 l3 a4 l5) (conE vals.length a0 l1 l2 l3 a4 l5) := by
  have ht : Ev (fun k => finite_valid.j0 k true vals cons a0 l1 l2 l3 a4 l5) (some 1) := by
    refine Ev.step (fun k => by rw [finite_valid.j0]) ?_
    simp only [↓reduceIte]; exact Ev.now _
  unfold conE
  by_cases e1 : l1.length > 60
  · have k1 : (l1.length : Int) > 60 := by omega
    simp only [finite_valid.f, k1, e1, true_or, ↓reduceIte]; exact ht
  by_cases e2 : l2.length > 60
  · have k1 : ¬ (l1.length : Int) > 60 := by omega
    have k2 : (l2.length : Int) > 60 := by omega
    simp only [finite_valid.f, k1, k2, e2, true_or, or_true, ↓reduceIte]; exact ht
  by_cases e3 : l3.length > 60
  · have k1 : ¬ (l1.length : Int) > 60 := by omega
    have k2 : ¬ (l2.length : Int) > 60 := by omega
    have k3 : (l3.length : Int) > 60 := by omega
    simp only [finite_valid.f, k1, k2, k3, e3, true_or, or_true, ↓reduceIte]; exact ht
  have k1 : ¬ (l1.length : Int) > 60 := by omega
  have k2 : ¬ (l2.length : Int) > 60 := by omega
  have k3 : ¬ (l3.length : Int) > 60 := by omega
  by_cases e5 : l5.length > 200
  · have k5 : decide ((l5.length : Int) > 200) = true := by simp; omega
    simp only [finite_valid.f, k1, k2, k3, k5, e5, true_or, or_true, ↓reduceIte]; exact ht
  have k5 : decide ((l5.length : Int) > 200) = false := by simp; omega
  rw [if_neg (by omega)]
  simp only [finite_valid.f, k1, k2, k3, k5, ↓reduceIte]
  refine Ev.step (fun k => by rw [finite_valid.j0]) ?_
  have c1 : ([a4] : List Int).length + l2.length < 17592186044416 := by simp only [List.length_cons, List.length_nil]; omega
  have c2 : ([a4] ++ l2 : List Int).length + l3.length < 17592186044416 := by simp only [List.length_append, List.length_cons, List.length_nil]; omega
  simp only [Bool.false_eq_true, ↓reduceIte, Option.bind_some, c1, c2]
  have hbig : ([a4] ++ l2 ++ l3 ++ l5.flatten).any bigB = conBig l2 l3 a4 l5 := by
    unfold conBig
    simp only [List.any_append, List.any_cons, List.any_nil, Bool.or_false, flat_any]
    cases bigB a4 <;> cases l2.any bigB <;> cases l3.any bigB <;> rfl
  have hst := Ev.findAt (g := fun k i => finite_valid.l0 k ([a4] ++ l2 ++ l3 ++ (l5.take i.toNat).flatten) l5 l5.length i vals cons a0 l1 l2 l3 a4 l5) (n := l5.length) (p := fun i => decide (60 < (rd_L1 l5 i).length)) (q := longB l5) (r1 := (some 1 : Option Int)) (r0 := if conBig l2 l3 a4 l5 then some 1 else if farB vals.length l1 then some 0 else if formedB a0 l1 l2 l3 a4 l5 then none else some 0) (any_rdL1 l5 _) ?_ ?_ ?_ l5.length 0 (by omega) (fun j h => by omega)
  · simp only [Int.toNat_natCast, List.take_zero, List.flatten_nil, List.append_nil] at hst; exact hst
  · intro hq
    have hfl : l5.flatten.length ≤ 60 * l5.length := by
      have := flat_len l5 l5.length (fun j hj => by
        have : ¬ (60 < (rd_L1 l5 j).length) := by
          intro e
          have := (any_rdL1 l5 fun r => decide (60 < r.length)).2 ⟨j, hj, by simp [e]⟩
          rw [longB] at hq; simp_all
        omega)
      rwa [List.take_of_length_le (Nat.le_refl _)] at this
    refine Ev.step (fun k => by rw [finite_valid.l0]) ?_
    simp only [Int.lt_irrefl, ↓reduceIte, Int.toNat_natCast, List.take_length]
    rw [← hbig]
    refine valid_nums vals cons a0 l1 l2 l3 a4 l5 _ ?_ (valid_far vals cons a0 l1 l2 l3 a4 l5 (by omega) (by omega) (by omega) (by omega))
    simp only [List.length_append, List.length_cons, List.length_nil]; omega
  · intro i hi hp
    have k0 : (0 : Int) ≤ i := by omega
    have k1 : (i : Int) < l5.length := by omega
    have k2 : ((rd_L1 l5 i).length : Int) > 60 := by have := (show 60 < (rd_L1 l5 i).length by simpa using hp); omega
    refine Ev.step (fun k => by rw [finite_valid.l0]) ?_
    simp only [k0, k1, k2, ↓reduceIte]; exact Ev.now _
  · intro r i hi hp h
    have k0 : (0 : Int) ≤ i := by omega
    have k1 : (i : Int) < l5.length := by omega
    have hle : ∀ j, j ≤ i → (rd_L1 l5 j).length ≤ 60 := fun j hj => by have := (show ¬ 60 < (rd_L1 l5 j).length by simpa using hp j hj); omega
    have k2 : ¬ ((rd_L1 l5 i).length : Int) > 60 := by have := hle i (Nat.le_refl _); omega
    have hfl := flat_len l5 i (fun j hj => hle j (by omega))
    have k3 : ([a4] ++ l2 ++ l3 ++ (l5.take i).flatten).length + (rd_L1 l5 i).length < 17592186044416 := by
      simp only [List.length_append, List.length_cons, List.length_nil]; have := hle i (Nat.le_refl _); omega
    have e : [a4] ++ l2 ++ l3 ++ (l5.take i).flatten ++ rd_L1 l5 i = [a4] ++ l2 ++ l3 ++ (l5.take (i + 1)).flatten := by
      rw [List.take_succ_eq_append_getElem hi, rdL1_in hi, List.flatten_append, List.append_assoc _ (List.flatten _)]; simp
    refine Ev.step (fun k => by rw [finite_valid.l0]) ?_
    simp only [Int.toNat_natCast] at h
    simp only [k0, k1, k2, Int.toNat_natCast, k3, ↓reduceIte, wrap_succ hi (show l5.length < 4611686018427387904 by omega), e]
    exact h
end

/-! ### the puzzle -/
/-- the fault at place i of a variable's values -/
def valE (l : List Int) (i : Nat) : Option Int := if bigB (rd l i) then some 1 else if 0 < i ∧ rd l i ≤ rd l ((i - 1 : Nat) : Int) then some 0 else none
def listE (l : List Int) : Option Int := if l.length > 200 then some 1 else scan (valE l) l.length 0
def oneE (vals : List (List Int)) (c : S44) : Option Int := conE vals.length c.f0 c.f1 c.f2 c.f3 c.f4 c.f5
/-- a puzzle's fault -/
def puzE (vals : List (List Int)) (cons : List S44) : Option Int :=
  if vals.length > 60 ∨ cons.length > 100 then some 1
  else (scan (fun i => listE (rd_L1 vals i)) vals.length 0).or (scan (fun i => oneE vals (rd_T44 cons i)) cons.length 0)
section
variable (vals : List (List Int)) (cons : List S44)
theorem Valid_cons (h100 : cons.length ≤ 100) : Ev (fun k => finite_Valid.l2 k cons cons.length 0 vals cons) (scan (fun i => oneE vals (rd_T44 cons i)) cons.length 0) := by
  refine Ev.scan (g := fun k i => finite_Valid.l2 k cons cons.length i vals cons) (e := fun i => oneE vals (rd_T44 cons i)) (n := cons.length) rfl ?_ ?_ ?_
  · intro ho; rw [ho]
    refine Ev.step (fun k => by rw [finite_Valid.l2]) ?_
    simp only [Int.lt_irrefl, ↓reduceIte]; exact Ev.now _
  · intro i b hi he ho
    rw [ho]
    have k0 : (0 : Int) ≤ i := by omega
    have k1 : (i : Int) < cons.length := by omega
    refine Ev.step (fun k => by rw [finite_Valid.l2]) ?_
    simp only [k0, k1, ↓reduceIte]
    refine Ev.bind (valid_ev vals cons _ _ _ _ _ _) ?_
    rw [show conE vals.length _ _ _ _ _ _ = some b from he]
    exact Ev.now _
  · intro i hi he h
    have k0 : (0 : Int) ≤ i := by omega
    have k1 : (i : Int) < cons.length := by omega
    refine Ev.step (fun k => by rw [finite_Valid.l2]) ?_
    simp only [k0, k1, ↓reduceIte]
    refine Ev.bind (valid_ev vals cons _ _ _ _ _ _) ?_
    rw [show conE vals.length _ _ _ _ _ _ = none from he]
    simp only [Option.isNone_none, ↓reduceIte, wrap_succ hi (show cons.length < 4611686018427387904 by omega)]
    exact h
theorem Valid_list (i : Nat) (l : List Int) (hl : l.length ≤ 200) (hv : vals.length ≤ 60) {r : Option Int} (ho : scan (valE l) l.length 0 = none → Ev (fun k => finite_Valid.l0 k vals vals.length (wrap64 ((i : Int) + 1)) vals cons) r) (hb : ∀ b, scan (valE l) l.length 0 = some b → r = some b) :
    Ev (fun k => finite_Valid.l1 k l vals vals.length i l l.length 0 vals cons) r := by
  refine Ev.scan (g := fun k j => finite_Valid.l1 k l vals vals.length i l l.length j vals cons) (e := valE l) (n := l.length) rfl ?_ ?_ ?_
  · intro h
    refine Ev.step (fun k => by rw [finite_Valid.l1]) ?_
    simp only [Int.lt_irrefl, ↓reduceIte]
    exact ho h
  · intro j b hj he h
    rw [hb b h]
    have k0 : (0 : Int) ≤ j := by omega
    have k1 : (j : Int) < l.length := by omega
    refine Ev.step (fun k => by rw [finite_Valid.l1]) ?_
    simp only [k0, k1, ↓reduceIte]
    unfold valE at he
    cases hbig : bigB (rd l j) with
    | true =>
      rw [if_pos hbig] at he
      have ht : Ev (fun k => finite_Valid.j3 k l j (rd l j) vals vals.length i l l.length j true vals cons) (some b) := by
        refine Ev.step (fun k => by rw [finite_Valid.j3]) ?_
        simp only [↓reduceIte]
        rw [← he]; exact Ev.now _
      by_cases k2 : rd l j < -100000000
      · simp only [k2, ↓reduceIte]; exact ht
      · have k3 : decide (rd l j > 100000000) = true := by simpa [bigB, k2] using hbig
        simp only [k2, k3, ↓reduceIte]; exact ht
    | false =>
      rw [if_neg (by rw [hbig]; decide)] at he
      have kk : rd l j ≤ 100000000 ∧ -100000000 ≤ rd l j := by simpa [bigB] using hbig
      have k2 : ¬ rd l j < -100000000 := by omega
      have k3 : decide (rd l j > 100000000) = false := by simp; omega
      split at he
      · rename_i hc
        simp only [k2, k3, ↓reduceIte]
        have w1 := wrap_pred hc.1 (show j < 4611686018427387904 by omega)
        have p0 : (j : Int) > 0 := by omega
        have p1 : (0 : Int) ≤ ((j - 1 : Nat) : Int) := by omega
        have p2 : ((j - 1 : Nat) : Int) < l.length := by omega
        refine Ev.step (fun k => by rw [finite_Valid.j3]) ?_
        simp only [Bool.false_eq_true, ↓reduceIte, w1, p0, p1, p2, hc.2]
        rw [← he]; exact Ev.now _
      · cases he
  · intro j hj he h
    have k0 : (0 : Int) ≤ j := by omega
    have k1 : (j : Int) < l.length := by omega
    refine Ev.step (fun k => by rw [finite_Valid.l1]) ?_
    simp only [k0, k1, ↓reduceIte]
    unfold valE at he
    split at he
    · cases he
    · rename_i hbig
      split at he
      · cases he
      · rename_i hc
        have kk : rd l j ≤ 100000000 ∧ -100000000 ≤ rd l j := by simpa [bigB] using hbig
        have k2 : ¬ rd l j < -100000000 := by omega
        have k3 : decide (rd l j > 100000000) = false := by simp; omega
        simp only [k2, k3, ↓reduceIte]
        refine Ev.step (fun k => by rw [finite_Valid.j3]) ?_
        by_cases p0 : (j : Int) > 0
        · have w1 := wrap_pred (show 0 < j by omega) (show j < 4611686018427387904 by omega)
          have p1 : (0 : Int) ≤ ((j - 1 : Nat) : Int) := by omega
          have p2 : ((j - 1 : Nat) : Int) < l.length := by omega
          have p3 : ¬ rd l j ≤ rd l ((j - 1 : Nat) : Int) := fun e => hc ⟨by omega, e⟩
          simp only [Bool.false_eq_true, ↓reduceIte, w1, p0, p1, p2, p3, wrap_succ hj (show l.length < 4611686018427387904 by omega)]
          exact h
        · simp only [Bool.false_eq_true, ↓reduceIte, p0, wrap_succ hj (show l.length < 4611686018427387904 by omega)]
          exact h
theorem Valid_ev : Ev (fun k => finite_Valid.f k vals cons) (puzE vals cons) := by
  have ht : Ev (fun k => finite_Valid.j0 k true vals cons) (some 1) := by
    refine Ev.step (fun k => by rw [finite_Valid.j0]) ?_
    simp only [↓reduceIte]; exact Ev.now _
  unfold puzE
  by_cases e1 : vals.length > 60
  · have k1 : (vals.length : Int) > 60 := by omega
    simp only [finite_Valid.f, k1, e1, true_or, ↓reduceIte]; exact ht
  have k1 : ¬ (vals.length : Int) > 60 := by omega
  by_cases e2 : cons.length > 100
  · have k2 : decide ((cons.length : Int) > 100) = true := by simp; omega
    simp only [finite_Valid.f, k1, k2, e2, or_true, ↓reduceIte]; exact ht
  have k2 : decide ((cons.length : Int) > 100) = false := by simp; omega
  rw [if_neg (by omega)]
  simp only [finite_Valid.f, k1, k2, ↓reduceIte]
  refine Ev.step (fun k => by rw [finite_Valid.j0]) ?_
  simp only [Bool.false_eq_true, ↓reduceIte]
  refine Ev.scan (g := fun k i => finite_Valid.l0 k vals vals.length i vals cons) (e := fun i => listE (rd_L1 vals i)) (n := vals.length) rfl ?_ ?_ ?_
  · intro ho
    rw [ho]
    refine Ev.step (fun k => by rw [finite_Valid.l0]) ?_
    simp only [Int.lt_irrefl, ↓reduceIte, Option.none_or]
    exact Valid_cons vals cons (by omega)
  · intro i b hi he ho
    rw [ho]
    have k0 : (0 : Int) ≤ i := by omega
    have k1 : (i : Int) < vals.length := by omega
    refine Ev.step (fun k => by rw [finite_Valid.l0]) ?_
    simp only [k0, k1, ↓reduceIte]
    unfold listE at he
    split at he
    · rename_i hl
      have k2 : ((rd_L1 vals i).length : Int) > 200 := by omega
      simp only [k2, ↓reduceIte]
      rw [← he]; exact Ev.now _
    · rename_i hl
      have k2 : ¬ ((rd_L1 vals i).length : Int) > 200 := by omega
      simp only [k2, ↓reduceIte]
      exact Valid_list vals cons i _ (by omega) (by omega) (fun h => by rw [h] at he; cases he) (fun b' h => by rw [h] at he; rw [he]; rfl)
  · intro i hi he h
    have k0 : (0 : Int) ≤ i := by omega
    have k1 : (i : Int) < vals.length := by omega
    refine Ev.step (fun k => by rw [finite_Valid.l0]) ?_
    simp only [k0, k1, ↓reduceIte]
    unfold listE at he
    split at he
    · cases he
    · rename_i hl
      have k2 : ¬ ((rd_L1 vals i).length : Int) > 200 := by omega
      simp only [k2, ↓reduceIte]
      exact Valid_list vals cons i _ (by omega) (by omega) (fun _ => by rw [wrap_succ hi (show vals.length < 4611686018427387904 by omega)]; exact h) (fun b' h => by rw [h] at he; cases he)

theorem codeR_or (a b : Option Int) : codeR (a.or b) = match a with | none => codeR b | some x => codeR (some x) := by cases a <;> rfl
theorem conE_cases (n a0 : Int) (l1 l2 l3 : List Int) (a4 : Int) (l5 : List (List Int)) : conE n a0 l1 l2 l3 a4 l5 = none ∨ conE n a0 l1 l2 l3 a4 l5 = some 0 ∨ conE n a0 l1 l2 l3 a4 l5 = some 1 := by
  unfold conE
  repeat' split
  all_goals simp
theorem PuzzleValid_cons (h100 : cons.length ≤ 100) : Ev (fun k => optimaref3_PuzzleValid.l2 k 0 vals cons) (codeR (scan (fun i => oneE vals (rd_T44 cons i)) cons.length 0)) := by
  refine Ev.scan (g := fun k i => optimaref3_PuzzleValid.l2 k i vals cons) (e := fun i => oneE vals (rd_T44 cons i)) (n := cons.length) rfl ?_ ?_ ?_
  · intro ho; rw [ho]
    refine Ev.step (fun k => by rw [optimaref3_PuzzleValid.l2]) ?_
    simp only [Int.lt_irrefl, ↓reduceIte]; exact Ev.now _
  · intro i b hi he ho
    rw [ho]
    have k0 : (0 : Int) ≤ i := by omega
    have k1 : (i : Int) < cons.length := by omega
    refine Ev.step (fun k => by rw [optimaref3_PuzzleValid.l2]) ?_
    simp only [k0, k1, ↓reduceIte]
    refine Ev.bind (conValid_ev vals cons _ _ _ _ _ _) ?_
    rw [show conE vals.length _ _ _ _ _ _ = some b from he]
    have hpos : codeR (some b) > 0 := by unfold codeR; simp only; split <;> decide
    simp only [hpos, ↓reduceIte]
    exact Ev.now _
  · intro i hi he h
    have k0 : (0 : Int) ≤ i := by omega
    have k1 : (i : Int) < cons.length := by omega
    refine Ev.step (fun k => by rw [optimaref3_PuzzleValid.l2]) ?_
    simp only [k0, k1, ↓reduceIte]
    refine Ev.bind (conValid_ev vals cons _ _ _ _ _ _) ?_
    rw [show conE vals.length _ _ _ _ _ _ = none from he]
    have hz : ¬ codeR none > 0 := by decide
    simp only [hz, ↓reduceIte, wrap_succ hi (show cons.length < 4611686018427387904 by omega)]
    exact h
theorem PuzzleValid_list (i : Nat) (l : List Int) (hl : l.length ≤ 200) (hv : vals.length ≤ 60) {r : Int} (ho : scan (valE l) l.length 0 = none → Ev (fun k => optimaref3_PuzzleValid.l0 k (wrap64 ((i : Int) + 1)) vals cons) r) (hb : ∀ b, scan (valE l) l.length 0 = some b → r = codeR (some b)) :
    Ev (fun k => optimaref3_PuzzleValid.l1 k i l 0 vals cons) r := by
  refine Ev.scan (g := fun k j => optimaref3_PuzzleValid.l1 k i l j vals cons) (e := valE l) (n := l.length) rfl ?_ ?_ ?_
  · intro h
    refine Ev.step (fun k => by rw [optimaref3_PuzzleValid.l1]) ?_
    simp only [Int.lt_irrefl, ↓reduceIte]
    exact ho h
  · intro j b hj he h
    rw [hb b h]
    have k0 : (0 : Int) ≤ j := by omega
    have k1 : (j : Int) < l.length := by omega
    refine Ev.step (fun k => by rw [optimaref3_PuzzleValid.l1]) ?_
    simp only [k0, k1, ↓reduceIte, big_f, Option.bind_some]
    unfold valE at he
    split at he
    · rename_i hbig
      obtain rfl := Option.some.inj he
      simp only [hbig, ↓reduceIte]
      exact Ev.now _
    · rename_i hbig
      split at he
      · rename_i hc
        obtain rfl := Option.some.inj he
        have w1 := wrap_pred hc.1 (show j < 4611686018427387904 by omega)
        have p0 : (j : Int) > 0 := by omega
        have p1 : (0 : Int) ≤ ((j - 1 : Nat) : Int) := by omega
        have p2 : ((j - 1 : Nat) : Int) < l.length := by omega
        simp only [hbig, ↓reduceIte, w1, p0, p1, p2, hc.2]
        exact Ev.now _
      · cases he
  · intro j hj he h
    have k0 : (0 : Int) ≤ j := by omega
    have k1 : (j : Int) < l.length := by omega
    refine Ev.step (fun k => by rw [optimaref3_PuzzleValid.l1]) ?_
    simp only [k0, k1, ↓reduceIte, big_f, Option.bind_some]
    unfold valE at he
    split at he
    · cases he
    · rename_i hbig
      split at he
      · cases he
      · rename_i hc
        by_cases p0 : (j : Int) > 0
        · have w1 := wrap_pred (show 0 < j by omega) (show j < 4611686018427387904 by omega)
          have p1 : (0 : Int) ≤ ((j - 1 : Nat) : Int) := by omega
          have p2 : ((j - 1 : Nat) : Int) < l.length := by omega
          have p3 : ¬ rd l j ≤ rd l ((j - 1 : Nat) : Int) := fun e => hc ⟨by omega, e⟩
          simp only [hbig, ↓reduceIte, w1, p0, p1, p2, p3, wrap_succ hj (show l.length < 4611686018427387904 by omega)]
          exact h
        · simp only [hbig, ↓reduceIte, p0, wrap_succ hj (show l.length < 4611686018427387904 by omega)]
          exact h
theorem PuzzleValid_ev : Ev (fun k => optimaref3_PuzzleValid.f k vals cons) (codeR (puzE vals cons)) := by
  have ht : Ev (fun k => optimaref3_PuzzleValid.j0 k true vals cons) 2 := by
    refine Ev.step (fun k => by rw [optimaref3_PuzzleValid.j0]) ?_
    simp only [↓reduceIte]; exact Ev.now _
  unfold puzE
  by_cases e1 : vals.length > 60
  · have k1 : (vals.length : Int) > 60 := by omega
    simp only [optimaref3_PuzzleValid.f, k1, e1, true_or, ↓reduceIte]; exact ht
  have k1 : ¬ (vals.length : Int) > 60 := by omega
  by_cases e2 : cons.length > 100
  · have k2 : decide ((cons.length : Int) > 100) = true := by simp; omega
    simp only [optimaref3_PuzzleValid.f, k1, k2, e2, or_true, ↓reduceIte]; exact ht
  have k2 : decide ((cons.length : Int) > 100) = false := by simp; omega
  rw [if_neg (by omega)]
  simp only [optimaref3_PuzzleValid.f, k1, k2, ↓reduceIte]
  refine Ev.step (fun k => by rw [optimaref3_PuzzleValid.j0]) ?_
  simp only [Bool.false_eq_true, ↓reduceIte]
  refine Ev.scan (g := fun k i => optimaref3_PuzzleValid.l0 k i vals cons) (e := fun i => listE (rd_L1 vals i)) (n := vals.length) rfl ?_ ?_ ?_
  · intro ho
    rw [ho]
    refine Ev.step (fun k => by rw [optimaref3_PuzzleValid.l0]) ?_
    simp only [Int.lt_irrefl, ↓reduceIte, Option.none_or]
    exact PuzzleValid_cons vals cons (by omega)
  · intro i b hi he ho
    rw [ho]
    have k0 : (0 : Int) ≤ i := by omega
    have k1 : (i : Int) < vals.length := by omega
    refine Ev.step (fun k => by rw [optimaref3_PuzzleValid.l0]) ?_
    simp only [k0, k1, ↓reduceIte]
    unfold listE at he
    split at he
    · rename_i hl
      have k2 : ((rd_L1 vals i).length : Int) > 200 := by omega
      simp only [k2, ↓reduceIte]
      obtain rfl := Option.some.inj he; exact Ev.now _
    · rename_i hl
      have k2 : ¬ ((rd_L1 vals i).length : Int) > 200 := by omega
      simp only [k2, ↓reduceIte]
      exact PuzzleValid_list vals cons i _ (by omega) (by omega) (fun h => by rw [h] at he; cases he) (fun b' h => by rw [h] at he; rw [he]; rfl)
  · intro i hi he h
    have k0 : (0 : Int) ≤ i := by omega
    have k1 : (i : Int) < vals.length := by omega
    refine Ev.step (fun k => by rw [optimaref3_PuzzleValid.l0]) ?_
    simp only [k0, k1, ↓reduceIte]
    unfold listE at he
    split at he
    · cases he
    · rename_i hl
      have k2 : ¬ ((rd_L1 vals i).length : Int) > 200 := by omega
      simp only [k2, ↓reduceIte]
      exact PuzzleValid_list vals cons i _ (by omega) (by omega) (fun _ => by rw [wrap_succ hi (show vals.length < 4611686018427387904 by omega)]; exact h) (fun b' h => by rw [h] at he; cases he)
end
end Go.Proofs.YtehekppkicjimaaDoor.QFK
