/- Plain facts of Kuhn's chains: a closed set of values has no matching into it; when a chain is turned the owners stay one to one. Conditions: none. -/
namespace Go.Proofs.YtehekppkicjimaaDoor.QFK
set_option linter.unusedVariables false
set_option linter.unusedSimpArgs false
theorem nodup_len {α : Type} [DecidableEq α] : ∀ (l m : List α), l.Nodup → (∀ x ∈ l, x ∈ m) → l.length ≤ m.length
  | [], m, _, _ => Nat.zero_le _
  | a :: l, m, hn, hs => by
    have ha : a ∈ m := hs a (List.mem_cons_self ..)
    have hn' := List.nodup_cons.1 hn
    have := nodup_len l (m.erase a) hn'.2 (fun x hx => by
      have hne : x ≠ a := fun e => hn'.1 (e ▸ hx)
      exact (List.mem_erase_of_ne hne).2 (hs x (List.mem_cons_of_mem _ hx)))
    rw [List.length_erase_of_mem ha] at this
    have hp : 0 < m.length := List.length_pos_of_mem ha
    simp only [List.length_cons]; omega
/-- a set of values that is closed: no way that all differ -/
theorem no_way (lst : Nat → List Int) (S : List Int) (own : Int → Option Nat) (i n : Nat) (hi : i < n) (hS : S.Nodup) (h1 : ∀ v ∈ lst i, v ∈ S)
    (h2 : ∀ v ∈ S, ∃ o, own v = some o ∧ o < n ∧ o ≠ i ∧ ∀ u ∈ lst o, u ∈ S) (inj : ∀ u v o, own u = some o → own v = some o → u = v)
    (f : Nat → Int) (hf : ∀ j, j < n → f j ∈ lst j) (hinj : ∀ a b, a < n → b < n → f a = f b → a = b) : False := by
  have key : ∀ T : List Int, T.Nodup → (∀ v ∈ T, v ∈ S) → ∃ l : List Nat, l.length = T.length ∧ l.Nodup ∧ (∀ o ∈ l, o < n ∧ o ≠ i ∧ ∀ u ∈ lst o, u ∈ S) ∧ ∀ o ∈ l, ∃ v ∈ T, own v = some o := by
    intro T
    induction T with
    | nil => exact fun _ _ => ⟨[], rfl, List.nodup_nil, fun o h => by simp at h, fun o h => by simp at h⟩
    | cons v T ih =>
      intro hn hs
      have hn' := List.nodup_cons.1 hn
      obtain ⟨l, hl, hnd, hp, hq⟩ := ih hn'.2 (fun u hu => hs u (List.mem_cons_of_mem _ hu))
      obtain ⟨o, ho, ho1, ho2, ho3⟩ := h2 v (hs v (List.mem_cons_self ..))
      refine ⟨o :: l, by simp [hl], List.nodup_cons.2 ⟨fun hol => ?_, hnd⟩, fun x hx => ?_, fun x hx => ?_⟩
      · obtain ⟨u, hu, hou⟩ := hq o hol
        exact hn'.1 (inj v u o ho hou ▸ hu)
      · rcases List.mem_cons.1 hx with rfl | hx
        · exact ⟨ho1, ho2, ho3⟩
        · exact hp x hx
      · rcases List.mem_cons.1 hx with rfl | hx
        · exact ⟨v, List.mem_cons_self .., ho⟩
        · obtain ⟨u, hu, h⟩ := hq x hx
          exact ⟨u, List.mem_cons_of_mem _ hu, h⟩
  obtain ⟨l, hl, hnd, hp, _⟩ := key S hS (fun _ h => h)
  have hnd2 : (i :: l).Nodup := List.nodup_cons.2 ⟨fun h => (hp i h).2.1 rfl, hnd⟩
  have hmap : ((i :: l).map f).Nodup := by
    have gen : ∀ m : List Nat, m.Nodup → (∀ x ∈ m, x < n) → (m.map f).Nodup := by
      intro m
      induction m with
      | nil => intros; exact List.nodup_nil
      | cons a m ih =>
        intro h1 h2
        have h1' := List.nodup_cons.1 h1
        refine List.nodup_cons.2 ⟨fun h => ?_, ih h1'.2 fun x hx => h2 x (List.mem_cons_of_mem _ hx)⟩
        obtain ⟨b, hb, e⟩ := List.mem_map.1 h
        exact h1'.1 (hinj b a (h2 b (List.mem_cons_of_mem _ hb)) (h2 a (List.mem_cons_self ..)) e ▸ hb)
    exact gen _ hnd2 (fun x hx => by rcases List.mem_cons.1 hx with rfl | hx; exact hi; exact (hp x hx).1)
  have hin : ∀ x ∈ (i :: l).map f, x ∈ S := by
    intro x hx
    obtain ⟨o, ho, rfl⟩ := List.mem_map.1 hx
    rcases List.mem_cons.1 ho with rfl | ho
    · exact h1 _ (hf _ hi)
    · exact (hp o ho).2.2 _ (hf o (hp o ho).1)
  have := nodup_len _ _ hmap hin
  simp [hl] at this
  omega
/-- What stands of owners: one to one, each value of its owner's list. -/
structure Mat (lst : Nat → List Int) (M : Int → Option Nat) : Prop where
  inj : ∀ u v o, M u = some o → M v = some o → u = v
  mem : ∀ v o, M v = some o → v ∈ lst o
/-- M0 where S has been seen, M' elsewhere -/
def mix (S : List Int) (M0 M' : Int → Option Nat) : Int → Option Nat := fun v => if v ∈ S then M0 v else M' v
def putM (M : Int → Option Nat) (v : Int) (i : Nat) : Int → Option Nat := fun u => if u = v then some i else M u
theorem Mat.put {lst : Nat → List Int} {M : Int → Option Nat} (hm : Mat lst M) {v : Int} {i : Nat} (hv : v ∈ lst i) (hM : M v = none) (hi : ∀ u, M u ≠ some i) :
    Mat lst (putM M v i) ∧ ∀ o, (∃ u, putM M v i u = some o) ↔ o = i ∨ ∃ u, M u = some o := by
  refine ⟨⟨fun u w o h1 h2 => ?_, fun u o h => ?_⟩, fun o => ⟨fun ⟨u, h⟩ => ?_, fun h => ?_⟩⟩
  · unfold putM at h1 h2
    split at h1 <;> split at h2
    · simp_all
    · cases h1; exact absurd h2 (hi w)
    · cases h2; exact absurd h1 (hi u)
    · exact hm.inj u w o h1 h2
  · unfold putM at h
    split at h
    · cases h; simp_all
    · exact hm.mem u o h
  · unfold putM at h
    split at h
    · cases h; exact .inl rfl
    · exact .inr ⟨u, h⟩
  · rcases h with rfl | ⟨u, h⟩
    · exact ⟨v, by simp [putM]⟩
    · refine ⟨u, ?_⟩
      have : u ≠ v := fun e => by rw [e, hM] at h; cases h
      simp [putM, this, h]
/-- what a chain from i leaves: S: the values that had been seen, S': now -/
structure Chain (lst : Nat → List Int) (i : Nat) (M : Int → Option Nat) (S : List Int) (b : Bool) (M' : Int → Option Nat) (S' : List Int) : Prop where
  sub : ∀ v ∈ S, v ∈ S'
  nd : S.Nodup → S'.Nodup
  no : b = false → M' = M ∧ (∀ v ∈ lst i, v ∈ S') ∧ ∀ v ∈ S', v ∉ S → ∃ o, M v = some o ∧ ∀ u ∈ lst o, u ∈ S'
  yes : b = true → (∀ v ∈ S, M' v = M v) ∧ ∀ M0, (∀ v, v ∉ S → M0 v = M v) → Mat lst M0 → (∀ v, M0 v ≠ some i) → Mat lst (mix S M0 M') ∧ ∀ o, (∃ v, mix S M0 M' v = some o) ↔ o = i ∨ ∃ v, M0 v = some o
/-- a value that has no owner -/
theorem Chain.free {lst : Nat → List Int} {i : Nat} {M : Int → Option Nat} {S S1 : List Int} {v : Int} (hv : v ∈ lst i) (hM : M v = none) (hS : ∀ u ∈ S, u ∈ S1) (hnd : S.Nodup → S1.Nodup) (hn : v ∉ S) :
    Chain lst i M S true (putM M v i) S1 := by
  refine ⟨hS, hnd, (fun h => by cases h), fun _ => ⟨fun u hu => ?_, fun M0 h0 hm hi => ?_⟩⟩
  · have : u ≠ v := fun e => hn (e ▸ hu)
    simp [putM, this]
  · have e : mix S M0 (putM M v i) = putM M0 v i := by
      funext u
      unfold mix putM
      by_cases h : u ∈ S
      · rw [if_pos h, if_neg (fun e : u = v => hn (e ▸ h))]
      · rw [if_neg h]; split
        · rfl
        · exact (h0 u h).symm
    rw [e]
    exact hm.put hv ((h0 v hn).trans hM) hi
/-- a value whose owner finds another one -/
theorem Chain.turn {lst : Nat → List Int} {i o : Nat} {M M' : Int → Option Nat} {S S1 S2 : List Int} {v : Int} (hv : v ∈ lst i) (hM : M v = some o) (hS : ∀ u ∈ S, u ∈ S1) (hnd : S.Nodup → S1.Nodup) (hn : v ∉ S) (hin : v ∈ S1)
    (hc : Chain lst o M S1 true M' S2) : Chain lst i M S true (putM M' v i) S2 := by
  obtain ⟨hk, hmat⟩ := hc.yes rfl
  refine ⟨fun u hu => hc.sub u (hS u hu), fun h => hc.nd (hnd h), (fun h => by cases h), fun _ => ⟨fun u hu => ?_, fun M0 h0 hm hi => ?_⟩⟩
  · have : u ≠ v := fun e => hn (e ▸ hu)
    simp [putM, this, hk u (hS u hu)]
  · have hM0 : M0 v = some o := (h0 v hn).trans hM
    obtain ⟨h1, h2⟩ := hmat (fun u => if u = v then none else M0 u) (fun u hu => by
        have : u ≠ v := fun e => hu (e ▸ hin)
        rw [if_neg this]; exact h0 u (fun h => hu (hS u h)))
      ⟨fun u w x a b => by
        split at a
        · cases a
        · split at b
          · cases b
          · exact hm.inj u w x a b, fun u x a => by
        split at a
        · cases a
        · exact hm.mem u x a⟩
      (fun u a => by
        split at a
        · cases a
        · rename_i hu; exact hu (hm.inj u v o a hM0))
    have e : mix S M0 (putM M' v i) = putM (mix S1 (fun u => if u = v then none else M0 u) M') v i := by
      funext u
      unfold mix putM
      by_cases huv : u = v
      · subst huv; simp [hn]
      · by_cases h : u ∈ S
        · simp [h, huv, hS u h]
        · by_cases h' : u ∈ S1
          · simp [h, h', huv]; rw [hk u h', h0 u h]
          · simp [h, h', huv]
    rw [e]
    obtain ⟨h3, h4⟩ := h1.put hv (by simp [mix, hin]) (fun u a => by
      have := (h2 i).1 ⟨u, a⟩
      rcases this with rfl | ⟨w, hw⟩
      · exact hi v hM0
      · split at hw
        · cases hw
        · exact hi w hw)
    refine ⟨h3, fun x => (h4 x).trans ?_⟩
    constructor
    · rintro (rfl | h)
      · exact .inl rfl
      · rcases (h2 x).1 h with rfl | ⟨w, hw⟩
        · exact .inr ⟨v, hM0⟩
        · split at hw
          · cases hw
          · exact .inr ⟨w, hw⟩
    · rintro (rfl | ⟨w, hw⟩)
      · exact .inl rfl
      · refine .inr ((h2 x).2 ?_)
        by_cases hwv : w = v
        · subst hwv; rw [hM0] at hw; cases hw; exact .inl rfl
        · exact .inr ⟨w, by rw [if_neg hwv]; exact hw⟩
/-- the loop of a chain: what the first k values of a list leave when none of them led on -/
structure Half (lst : Nat → List Int) (i k : Nat) (M : Int → Option Nat) (S S1 : List Int) : Prop where
  sub : ∀ v ∈ S, v ∈ S1
  nd : S.Nodup → S1.Nodup
  all : ∀ v ∈ (lst i).take k, v ∈ S1
  own : ∀ v ∈ S1, v ∉ S → ∃ o, M v = some o ∧ ∀ u ∈ lst o, u ∈ S1
theorem Half.start (lst : Nat → List Int) (i : Nat) (M : Int → Option Nat) (S : List Int) : Half lst i 0 M S S := ⟨fun _ h => h, fun h => h, fun v h => by simp at h, fun v h h' => absurd h h'⟩
theorem Half.done {lst : Nat → List Int} {i k : Nat} {M : Int → Option Nat} {S S1 : List Int} (h : Half lst i k M S S1) (hk : (lst i).length ≤ k) : Chain lst i M S false M S1 :=
  ⟨h.sub, h.nd, fun _ => ⟨rfl, by have := h.all; rwa [List.take_of_length_le hk] at this, h.own⟩, fun e => by cases e⟩
theorem Half.seen {lst : Nat → List Int} {i k : Nat} {M : Int → Option Nat} {S S1 : List Int} (h : Half lst i k M S S1) (hk : k < (lst i).length) (hs : (lst i)[k] ∈ S1) : Half lst i (k + 1) M S S1 :=
  ⟨h.sub, h.nd, fun v hv => by
    rw [List.take_succ_eq_append_getElem hk, List.mem_append, List.mem_singleton] at hv
    rcases hv with hv | rfl
    · exact h.all v hv
    · exact hs, h.own⟩
/-- the value's owner found nothing else -/
theorem Half.step {lst : Nat → List Int} {i k o : Nat} {M M' : Int → Option Nat} {S S1 S2 : List Int} (h : Half lst i k M S S1) (hk : k < (lst i).length) (hn : (lst i)[k] ∉ S1) (hM : M (lst i)[k] = some o)
    (hc : Chain lst o M ((lst i)[k] :: S1) false M' S2) : M' = M ∧ Half lst i (k + 1) M S S2 := by
  obtain ⟨e, h1, h2⟩ := hc.no rfl
  refine ⟨e, fun v hv => hc.sub v (List.mem_cons_of_mem _ (h.sub v hv)), fun hnd => hc.nd (List.nodup_cons.2 ⟨hn, h.nd hnd⟩), fun v hv => ?_, fun v hv hvS => ?_⟩
  · rw [List.take_succ_eq_append_getElem hk, List.mem_append, List.mem_singleton] at hv
    rcases hv with hv | rfl
    · exact hc.sub v (List.mem_cons_of_mem _ (h.all v hv))
    · exact hc.sub _ (List.mem_cons_self ..)
  · by_cases hv1 : v ∈ (lst i)[k] :: S1
    · rcases List.mem_cons.1 hv1 with rfl | hv1
      · exact ⟨o, hM, h1⟩
      · obtain ⟨x, hx, hx'⟩ := h.own v hv1 hvS
        exact ⟨x, hx, fun u hu => hc.sub u (List.mem_cons_of_mem _ (hx' u hu))⟩
    · exact h2 v hv hv1
theorem Half.free {lst : Nat → List Int} {i k : Nat} {M : Int → Option Nat} {S S1 : List Int} (h : Half lst i k M S S1) (hk : k < (lst i).length) (hn : (lst i)[k] ∉ S1) (hM : M (lst i)[k] = none) :
    Chain lst i M S true (putM M (lst i)[k] i) ((lst i)[k] :: S1) :=
  Chain.free (List.getElem_mem hk) hM (fun u hu => List.mem_cons_of_mem _ (h.sub u hu)) (fun hnd => List.nodup_cons.2 ⟨hn, h.nd hnd⟩) (fun hv => hn (h.sub _ hv))
theorem Half.turn {lst : Nat → List Int} {i k o : Nat} {M M' : Int → Option Nat} {S S1 S2 : List Int} (h : Half lst i k M S S1) (hk : k < (lst i).length) (hn : (lst i)[k] ∉ S1) (hM : M (lst i)[k] = some o)
    (hc : Chain lst o M ((lst i)[k] :: S1) true M' S2) : Chain lst i M S true (putM M' (lst i)[k] i) S2 :=
  Chain.turn (List.getElem_mem hk) hM (fun u hu => List.mem_cons_of_mem _ (h.sub u hu)) (fun hnd => List.nodup_cons.2 ⟨hn, h.nd hnd⟩) (fun hv => hn (h.sub _ hv)) (List.mem_cons_self ..) hc
/-- what the outer loop keeps: the first i have values -/
structure Fits (lst : Nat → List Int) (i : Nat) (M : Int → Option Nat) : Prop where
  mat : Mat lst M
  dom : ∀ o, (∃ v, M v = some o) ↔ o < i
theorem Fits.start (lst : Nat → List Int) : Fits lst 0 fun _ => none := ⟨⟨(fun u v o h => by cases h), (fun v o h => by cases h)⟩, fun o => ⟨(fun ⟨v, h⟩ => by cases h), fun h => absurd h (Nat.not_lt_zero _)⟩⟩
theorem Fits.next {lst : Nat → List Int} {i : Nat} {M M' : Int → Option Nat} {S' : List Int} (h : Fits lst i M) (hc : Chain lst i M [] true M' S') : Fits lst (i + 1) M' := by
  obtain ⟨_, h1⟩ := hc.yes rfl
  obtain ⟨h2, h3⟩ := h1 M (fun _ _ => rfl) h.mat (fun v hv => absurd ((h.dom i).1 ⟨v, hv⟩) (Nat.lt_irrefl _))
  have e : mix [] M M' = M' := by funext u; simp [mix]
  rw [e] at h2 h3
  refine ⟨h2, fun o => (h3 o).trans ⟨?_, fun ho => ?_⟩⟩
  · rintro (rfl | ho)
    · omega
    · have := (h.dom o).1 ho; omega
  · by_cases e : o = i
    · exact .inl e
    · exact .inr ((h.dom o).2 (by omega))
/-- all n have values -/
theorem Fits.way {lst : Nat → List Int} {n : Nat} {M : Int → Option Nat} (h : Fits lst n M) : ∃ f : Nat → Int, (∀ j, j < n → f j ∈ lst j) ∧ ∀ a b, a < n → b < n → f a = f b → a = b := by
  have hf : ∀ j, ∃ v, j < n → M v = some j := fun j => by
    by_cases hj : j < n
    · obtain ⟨v, hv⟩ := (h.dom j).2 hj; exact ⟨v, fun _ => hv⟩
    · exact ⟨0, fun h => absurd h hj⟩
  refine ⟨fun j => Classical.choose (hf j), fun j hj => h.mat.mem _ _ (Classical.choose_spec (hf j) hj), fun a b ha hb e => ?_⟩
  have h1 := Classical.choose_spec (hf a) ha
  have h2 := Classical.choose_spec (hf b) hb
  have e' : Classical.choose (hf a) = Classical.choose (hf b) := e
  rw [e'] at h1
  rw [h1] at h2
  exact Option.some.inj h2
/-- a chain that led nowhere: no way -/
theorem Fits.stuck {lst : Nat → List Int} {i n : Nat} {M M' : Int → Option Nat} {S' : List Int} (h : Fits lst i M) (hi : i < n) (hc : Chain lst i M [] false M' S') :
    ¬ ∃ f : Nat → Int, (∀ j, j < n → f j ∈ lst j) ∧ ∀ a b, a < n → b < n → f a = f b → a = b := by
  rintro ⟨f, hf, hinj⟩
  obtain ⟨_, h1, h2⟩ := hc.no rfl
  refine no_way lst S' M i n hi (hc.nd List.nodup_nil) h1 (fun v hv => ?_) h.mat.inj f hf hinj
  obtain ⟨o, ho, hu⟩ := h2 v hv (by simp)
  have := (h.dom o).1 ⟨v, ho⟩
  exact ⟨o, ho, by omega, by omega, hu⟩
end Go.Proofs.YtehekppkicjimaaDoor.QFK
