/- The walk of finite.first: the least sound row within the lists. Conditions: the puzzle is well formed. -/
import Derived.Test.YtehekppkicjimaaDoorSFre
namespace Go.Proofs.YtehekppkicjimaaDoor.QFK
open Go.RowKit Go.Proofs.YtehekppkicjimaaDoorW.PrintWords Go.Proofs.YtehekppkicjimaaDoorW.PrintLast Go.Proofs.YtehekppkicjimaaDoorW.PrintMore
open Go.Deep
set_option linter.unusedVariables false
set_option linter.unusedSimpArgs false
def inL (L : List (List Int)) (x : List Int) : Prop := ∀ i : Nat, i < L.length → rd x i ∈ rd_L1 L i
/-- a row comes not after another -/
def LexLe (x y : List Int) : Prop := x = y ∨ ∃ i : Nat, i < x.length ∧ (∀ j : Nat, j < i → rd x j = rd y j) ∧ rd x i < rd y i
def Best (S : List Int → Prop) (L : List (List Int)) (x : List Int) : Prop := S x ∧ inL L x ∧ ∀ y, S y → inL L y → LexLe x y
/-- what first answers -/
def FirstQ (w : World) (a g : Nat) (L : List (List Int)) (S : List Int → Prop) (e : Ending) (w' : World) : Prop :=
  Fr w w' a g ∧ ((e = .returned (.slice none 0 0) ∧ ∀ x, S x → ¬ inL L x) ∨ ∃ ad c x, e = .returned (.slice (some ad) x.length c) ∧ x.length ≤ c ∧ Kd.C (Kd.int .i64) w' (some ad) x.length x ∧ Best S L x)
theorem list_eq_rd {x y : List Int} (hl : x.length = y.length) (h : ∀ i : Nat, i < x.length → rd x i = rd y i) : x = y := by
  refine List.ext_getElem hl fun i h1 h2 => ?_
  have := h i h1
  rwa [rd_in h1, rd_in h2] at this
/-- a copy of a net at new blocks -/
theorem net_copy {w w2 : World} {a g : Nat} {h : Value × Value} {L : List (List Int)} (N : Net w a g h L) (hL : L ≠ []) {cells : Array Value} (er : w.heap[g]? = some (.cells cells 26 (0, 0))) {v : Value}
    (ho : w2.ownsRow w.heap.size 26 1 v L.length (cells.toList.take L.length)) (hb : Below w.heap.size w w2) :
    ∃ g2 c, v = .slice (some ⟨g2, 0, none⟩) L.length c ∧ w.heap.size ≤ g2 ∧ Net (w2.alloc (.cells #[h.1, h.2, v] 54)) w2.heap.size g2 h L := by
  obtain ⟨cells', er', hc⟩ := N.row hL
  have ec : cells' = cells := by rw [er] at er'; simpa using er'.symm
  rw [ec] at hc
  clear ec er'
  have hpos := List.length_pos_iff.2 hL
  rcases ho.2 with ⟨rfl, h0⟩ | ⟨g2, cap, cur, rfl, hg, hh, h1, h2, h3, h4⟩
  · have h1 := ho.1
    rw [h0] at h1
    simp at h1; omega
  · have hg2 : g2 < w2.heap.size := blk_lt hh
    refine ⟨g2, cap, rfl, hg, ⟨⟨_, cap, blk_new w2 _, h1, fun _ => rfl⟩, fun _ => ⟨cur, ?_, fun i hi => ?_⟩, by omega, by simp only [World.alloc, Array.size_push]; omega, by simp only [World.alloc, Array.size_push]; omega⟩⟩
    · rw [show (w2.alloc (.cells #[h.1, h.2, .slice (some ⟨g2, 0, none⟩) L.length cap] 54)).heap = w2.heap.push (.cells #[h.1, h.2, .slice (some ⟨g2, 0, none⟩) L.length cap] 54 (0, 0)) from rfl, Array.getElem?_push_lt hg2, ← Array.getElem?_eq_getElem hg2]
      exact hh
    · obtain ⟨u, hu, hs⟩ := hc i hi
      obtain ⟨A1, c1, e1, hl1, hC1, hf1⟩ := hs.ex
      refine ⟨u, ?_, A1, c1, e1, hl1, Kd.C_below hC1 (below_alloc hb _), fun hn ad eA => ?_⟩
      · have h6 : (cur.toList.take (L.length * 1))[i]? = (cells.toList.take L.length)[i]? := by rw [h4]
        rw [List.getElem?_take, if_pos (by omega), List.getElem?_take, if_pos hi, Array.getElem?_toList, Array.getElem?_toList, hu] at h6
        exact h6
      · obtain ⟨ad', e2, hc2⟩ := Kd.at_int hC1 (0 : Int) (by omega) (by have := List.length_pos_iff.2 hn; omega)
        rw [eA] at e2
        cases e2
        have h7 := World.block_lt_of_cell? w _ hc2
        rw [show (ad.add (0 : Int).toNat).block = ad.block by simp [Addr.add]] at h7
        have h8 := hb.size
        exact ⟨by omega, by omega, (hf1 hn ad eA).2.2⟩
theorem clone_net {w W : World} {a g : Nat} {h : Value × Value} {L : List (List Int)} (N : Net w a g h L) (hL : L ≠ []) (hl : L.length ≤ 60) (hW : Below w.heap.size w W) (cap : Nat) :
    Calls Tryd.prog 39 #[.slice (some ⟨g, 0, none⟩) L.length cap] W fun e w2 => ∃ g2 c, e = .returned (.slice (some ⟨g2, 0, none⟩) L.length c) ∧ W.heap.size ≤ g2 ∧ Net (w2.alloc (.cells #[h.1, h.2, .slice (some ⟨g2, 0, none⟩) L.length c] 54)) w2.heap.size g2 h L ∧ Below W.heap.size W w2 := by
  have NW := N.below hW
  obtain ⟨cells, er, hc⟩ := NW.row hL
  have hsz : L.length ≤ cells.size := by
    rcases Nat.lt_or_ge cells.size L.length with h1 | h1
    · obtain ⟨v, hv, _⟩ := hc cells.size h1
      simp at hv
    · exact h1
  obtain ⟨i26, hi26, hz0, hz1, hz2⟩ := info_parts info26
  refine (Tryd.slices_Clone_f39 i26 (.slice none 0 0) 1 24 hi26 hz0 hz1 hz2 rfl Nat.one_pos (Tryd.sizeOf26) g 0 L.length cap (cells.toList.take L.length) W (by simp; omega) (by unfold maxLen; omega) (by omega) ?_ ?_).mono ?_
  · intro j u hj
    have hjl : j < L.length := by
      have := (List.getElem?_eq_some_iff.1 hj).1
      simp at this; omega
    rw [List.getElem?_take, if_pos hjl, Array.getElem?_toList] at hj
    have := blk_cell er j
    rw [hj] at this
    simpa using this
  · intro u hu
    obtain ⟨j, hj, rfl⟩ := List.mem_iff_getElem.1 hu
    have hjl : j < L.length := by simp at hj; omega
    obtain ⟨v, hv, hs⟩ := hc j hjl
    obtain ⟨A1, c1, e1, _⟩ := hs.ex
    have : (cells.toList.take L.length)[j] = v := by
      rw [List.getElem_take]
      obtain ⟨hlt, ev⟩ := Array.getElem?_eq_some_iff.1 hv
      simpa using ev
    rw [this, e1]; rfl
  · rintro e w2 ⟨v', rfl, ho, _, hb⟩
    obtain ⟨g2, c, rfl, h1, h2⟩ := net_copy NW hL er ho hb
    exact ⟨g2, c, rfl, h1, h2, hb⟩
theorem lit1 (W : World) (v : Int) : Kd.R (Kd.int .i64) 3 (W.alloc (.cells #[.int .i64 v] 3)) W.heap.size (fun _ => True) (.slice (some ⟨W.heap.size, 0, none⟩) 1 1) [v] := by
  have := World.ownsRow_lit (base := W.heap.size) (e := 3) (size := 1) W #[.int .i64 v] 1 (Nat.le_refl _) (by decide) rfl
  exact Kd.R_of_own (by simpa [encs] using this) (fun _ _ => trivial)
theorem inL_set {L : List (List Int)} {x : List Int} (hx : inL L x) {k : Nat} (hk : k < L.length) : inL (L.set k [rd x k]) x := by
  intro i hi
  rw [List.length_set] at hi
  by_cases h : k = i
  · subst h
    have e : rd_L1 (L.set k [rd x k]) k = [rd x k] := by simp [rd_L1, hk]
    rw [e]; exact List.mem_singleton.2 rfl
  · have e : rd_L1 (L.set k [rd x k]) i = rd_L1 L i := by simp [rd_L1, List.getD_eq_getElem?_getD, List.getElem?_set_ne h]
    rw [e]; exact hx i hi
theorem inL_of_set {L : List (List Int)} {x : List Int} {k : Nat} (hk : k < L.length) {v : Int} (hv : v ∈ rd_L1 L k) (hx : inL (L.set k [v]) x) : inL L x ∧ rd x k = v := by
  have h0 := hx k (by rw [List.length_set]; exact hk)
  have e : rd_L1 (L.set k [v]) k = [v] := by simp [rd_L1, hk]
  rw [e, List.mem_singleton] at h0
  refine ⟨fun i hi => ?_, h0⟩
  by_cases h : k = i
  · subst h; rw [h0]; exact hv
  · have e : rd_L1 (L.set k [v]) i = rd_L1 L i := by simp [rd_L1, List.getD_eq_getElem?_getD, List.getElem?_set_ne h]
    have := hx i (by rw [List.length_set]; exact hi)
    rwa [e] at this
theorem good_set {L : List (List Int)} (G : Good1 L) {k : Nat} (hk : k < L.length) {v : Int} (hv : v ∈ rd_L1 L k) : Good1 (L.set k [v]) := by
  have key : ∀ j, (rd_L1 (L.set k [v]) j).Sublist (rd_L1 L j) := by
    intro j
    by_cases h : k = j.toNat
    · have e : rd_L1 (L.set k [v]) j = [v] := by simp [rd_L1, ← h, hk]
      rw [e]
      have hv' : v ∈ rd_L1 L j := by rw [h] at hv; simpa only [rd_L1, Int.toNat_natCast] using hv
      exact List.singleton_sublist.2 hv'
    · have e : rd_L1 (L.set k [v]) j = rd_L1 L j := by simp [rd_L1, List.getD_eq_getElem?_getD, List.getElem?_set_ne h]
      rw [e]; exact List.Sublist.refl _
  exact ⟨fun k x hx => G.bd k x ((key k).subset hx), fun k => Nat.le_trans (key k).length_le (G.len k), fun k => (G.asc k).sublist (key k)⟩
/-- heads of single lists -/
def heads (L : List (List Int)) : List Int := L.map fun l => rd l 0
theorem heads_rd {L : List (List Int)} {i : Nat} (hi : i < L.length) : rd (heads L) i = rd (rd_L1 L i) 0 := by
  rw [rd_in (show i < (heads L).length by simpa [heads] using hi)]
  simp [heads, rdL1_get L i hi]
theorem heads_in {L : List (List Int)} (hs : ∀ i : Nat, i < L.length → (rd_L1 L i).length = 1) : inL L (heads L) := by
  intro i hi
  have h := hs i hi
  obtain ⟨v, e⟩ := List.length_eq_one_iff.1 h
  rw [heads_rd hi, e]
  exact List.mem_singleton.2 rfl
theorem heads_only {L : List (List Int)} (hs : ∀ i : Nat, i < L.length → (rd_L1 L i).length = 1) {x : List Int} (hl : x.length = L.length) (hx : inL L x) : x = heads L := by
  refine list_eq_rd (by simp [heads, hl]) fun i hi => ?_
  have h := hs i (by omega)
  have h1 := hx i (by omega)
  rw [heads_rd (by omega)]
  obtain ⟨v, e⟩ := List.length_eq_one_iff.1 h
  rw [e] at h1 ⊢
  rw [List.mem_singleton.1 h1]
  rfl
theorem heads_took {L : List (List Int)} {i : Nat} (h : i < L.length) : (heads L).take (i + 1) = (heads L).take i ++ [rd (rd_L1 L i) 0] := by
  have hl : i < (heads L).length := by simpa [heads] using h
  rw [List.take_succ_eq_append_getElem hl, ← heads_rd h, rd_in hl]
/-- the first value whose branch has a row gives the least row -/
theorem best_branch {S : List Int → Prop} {L : List (List Int)} (hS : ∀ x, S x → x.length = L.length) {k j : Nat} (hk : k < L.length) (hs : ∀ i : Nat, i < k → (rd_L1 L i).length = 1) (asc : (rd_L1 L k).Pairwise fun a b => a < b)
    (hj : j < (rd_L1 L k).length) (hno : ∀ i : Nat, i < j → ∀ x, S x → ¬ inL (L.set k [rd (rd_L1 L k) i]) x) {x : List Int} (hB : Best S (L.set k [rd (rd_L1 L k) j]) x) : Best S L x := by
  obtain ⟨h1, h2, h3⟩ := hB
  have hv : rd (rd_L1 L k) j ∈ rd_L1 L k := by rw [rd_in hj]; exact List.getElem_mem _
  obtain ⟨h4, h5⟩ := inL_of_set hk hv h2
  refine ⟨h1, h4, fun y hy hyL => ?_⟩
  obtain ⟨i, hi, ei⟩ := List.mem_iff_getElem.1 (hyL k hk)
  have e1 : rd y k = rd (rd_L1 L k) i := by rw [rd_in hi, ei]
  have h6 := inL_set hyL hk
  rw [e1] at h6
  rcases Nat.lt_trichotomy i j with h | h | h
  · exact absurd h6 (hno i h y hy)
  · subst h; exact h3 y hy h6
  · refine .inr ⟨k, by rw [hS x h1]; exact hk, fun m hm => ?_, ?_⟩
    · have := hs m hm
      obtain ⟨v, e⟩ := List.length_eq_one_iff.1 this
      have a1 := h4 m (by omega)
      have a2 := hyL m (by omega)
      rw [e] at a1 a2
      rw [List.mem_singleton.1 a1, List.mem_singleton.1 a2]
    · rw [h5, e1, rd_in hj, rd_in hi]
      exact List.pairwise_iff_getElem.1 asc j i hj hi h
theorem best_red {S : List Int → Prop} {L L1 : List (List Int)} {b : Bool} (R : Red S L L1 b) {x : List Int} (h : Best S L1 x) : Best S L x :=
  ⟨h.1, fun i hi => (R.sub i hi).subset (h.2.1 i (by rw [R.len]; exact hi)), fun y hy hin => h.2.2 y hy (fun i hi => R.sol y hy hin i (by rw [← R.len]; exact hi))⟩
theorem none_red {S : List Int → Prop} {L L1 : List (List Int)} {b : Bool} (R : Red S L L1 b) (h : ∀ x, S x → ¬ inL L1 x) : ∀ x, S x → ¬ inL L x :=
  fun x hx hin => h x hx (fun i hi => R.sol x hx hin i (by rw [← R.len]; exact hi))
theorem none_branch {S : List Int → Prop} {L : List (List Int)} {k : Nat} (hk : k < L.length) (hno : ∀ i : Nat, i < (rd_L1 L k).length → ∀ x, S x → ¬ inL (L.set k [rd (rd_L1 L k) i]) x) : ∀ x, S x → ¬ inL L x := by
  intro x hx hin
  obtain ⟨i, hi, ei⟩ := List.mem_iff_getElem.1 (hin k hk)
  have e1 : rd x k = rd (rd_L1 L k) i := by rw [rd_in hi, ei]
  have h6 := inL_set hin hk
  rw [e1] at h6
  exact hno i hi x hx h6
end Go.Proofs.YtehekppkicjimaaDoor.QFK
