/- The walk of (*net).differ: a rule that keeps what is sound; when nothing goes, each value left has a way. Conditions: the constraint is well formed. -/
import Derived.Test.YtehekppkicjimaaDoorSMat
import Derived.Test.YtehekppkicjimaaDoorSDel
import Derived.Laws.CopyOwn
namespace Go.Proofs.YtehekppkicjimaaDoor.QFK
open Go.RowKit Go.Proofs.YtehekppkicjimaaDoorW.PrintWords Go.Proofs.YtehekppkicjimaaDoorW.PrintLast Go.Proofs.YtehekppkicjimaaDoorW.PrintMore
open Go.Deep
set_option linter.unusedVariables false
set_option linter.unusedSimpArgs false
/-- a row of lists in memory -/
structure RowN (w : World) (a g : Nat) (L : List (List Int)) : Prop where
  ex : ∃ cells : Array Value, w.heap[g]? = some (.cells cells 26 (0, 0)) ∧ ∀ (i : Nat) (hi : i < L.length), ∃ v, cells[i]? = some v ∧ Sl w a g v L[i]
theorem RowN.below {w w' : World} {a g : Nat} {L : List (List Int)} (R : RowN w a g L) (hb : Below w.heap.size w w') : RowN w' a g L := by
  obtain ⟨cells, e, hc⟩ := R.ex
  refine ⟨cells, (hb.block g (blk_lt e)).trans e, fun i hi => ?_⟩
  obtain ⟨v, h1, h2⟩ := hc i hi
  exact ⟨v, h1, h2.below hb⟩
theorem RowN.of {w w' : World} {a g g7 : Nat} {h : Value × Value} {L : List (List Int)} (N : Net w a g h L) (cs : List Value) (hcs : ∀ (i : Nat), i < L.length → ∃ cells : Array Value, w.heap[g]? = some (.cells cells 26 (0, 0)) ∧ cs[i]? = cells[i]?)
    (hb : Below w.heap.size w w') (hg : w.heap.size ≤ g7) (hblk : w'.heap[g7]? = some (.cells cs.toArray 26 (0, 0))) : RowN w' a g7 L := by
  refine ⟨_, hblk, fun i hi => ?_⟩
  obtain ⟨cells, e, hc⟩ := N.row (by intro e; rw [e] at hi; simp at hi)
  obtain ⟨v, h1, h2⟩ := hc i hi
  obtain ⟨cells', e', h3⟩ := hcs i hi
  rw [e] at e'
  cases e'
  refine ⟨v, by simpa [h3] using h1, ?_⟩
  obtain ⟨A, c, ev, hl, hC, hf⟩ := h2.ex
  refine ⟨A, c, ev, hl, Kd.C_below hC hb, fun hn ad ea => ⟨(hf hn ad ea).1, ?_, (hf hn ad ea).2.2⟩⟩
  obtain ⟨ad', e2, hcell⟩ := Kd.at_int hC (0 : Int) (by omega) (by have := List.length_pos_iff.2 hn; omega)
  rw [ea] at e2
  obtain rfl := Option.some.inj e2
  have := World.block_lt_of_cell? w _ hcell
  simp [Addr.add] at this
  omega
theorem RowN.at {w : World} {a g : Nat} {L : List (List Int)} (R : RowN w a g L) (k : Int) (h0 : 0 ≤ k) (h1 : k < L.length) :
    ∃ A1 c1, w.cell? ⟨g, k.toNat, none⟩ = some (.slice A1 (rd_L1 L k).length c1) ∧ (rd_L1 L k).length ≤ c1 ∧ Kd.C (Kd.int .i64) w A1 (rd_L1 L k).length (rd_L1 L k) ∧ w.frozen? ⟨g, k.toNat, none⟩ = false ∧ (rd_L1 L k ≠ [] → ∃ b o, A1 = some ⟨b, o, none⟩) := by
  obtain ⟨cells, er, hc⟩ := R.ex
  obtain ⟨v, hv, hs⟩ := hc k.toNat (by omega)
  obtain ⟨A1, c1, rfl, hl1, hC, hf⟩ := hs.ex
  have e1 : rd_L1 L k = L[k.toNat] := by simp [rd_L1, show k.toNat < L.length by omega]
  refine ⟨A1, c1, ?_, by rw [e1]; exact hl1, by rw [e1]; exact hC, blk_frozen er _, fun hn => ?_⟩
  · rw [e1]
    have := blk_cell er k.toNat
    rw [hv] at this
    exact this
  · rw [e1] at hn
    obtain ⟨ad, ea, _⟩ := Kd.at_int hC (0 : Int) (by omega) (by have := List.length_pos_iff.2 hn; omega)
    have := (hf hn ad ea).2.2
    exact ⟨ad.block, ad.off, by rw [ea]; cases ad; simp at this; rw [this]⟩
/-- a new list at one place -/
theorem RowN.put {w : World} {a g : Nat} {L : List (List Int)} (R : RowN w a g L) (k : Nat) (hk : k < L.length) {v : Value} {q : List Int} (hs : Sl w a g v q) : RowN (w.setCell ⟨g, k, none⟩ v) a g (L.set k q) := by
  obtain ⟨cells, er, hc⟩ := R.ex
  have F : Fr w (w.setCell ⟨g, k, none⟩ v) a g := ⟨rfl, rfl, rfl, by simp [World.setCell], fun i _ _ hi => Below.heap_setCell w ⟨g, k, none⟩ v i hi⟩
  refine ⟨_, blk_put er k v rfl, fun j hj => ?_⟩
  have hj' : j < L.length := by rwa [List.length_set] at hj
  obtain ⟨u, hu, hs'⟩ := hc j hj'
  by_cases hjk : k = j
  · subst hjk
    refine ⟨v, by rw [Array.getElem?_setIfInBounds]; simp [(Array.getElem?_eq_some_iff.1 hu).1], ?_⟩
    rw [List.getElem_set_self]
    exact hs.fr F
  · refine ⟨u, by rw [Array.getElem?_setIfInBounds]; simp [hjk]; exact hu, ?_⟩
    rw [List.getElem_set_ne hjk]
    exact hs'.fr F
/-- what a way has at a place -/
noncomputable def wayB (L : List (List Int)) (vars : List Int) (i : Nat) (v : Int) : Bool := @decide (Way (lstF L vars i v) vars.length) (Classical.propDecidable _)
theorem wayB_iff (L : List (List Int)) (vars : List Int) (i : Nat) (v : Int) : wayB L vars i v = true ↔ Way (lstF L vars i v) vars.length := by unfold wayB; exact @decide_eq_true_iff _ (Classical.propDecidable _)
theorem way_sound {L : List (List Int)} {vars x : List Int} (hin : ∀ v ∈ vars, 0 ≤ v ∧ v < L.length) (hx : ∀ i : Nat, i < L.length → rd x i ∈ rd_L1 L i) (hd : (vars.map fun i => rd x i).Nodup) (i : Nat) (hi : i < vars.length) : wayB L vars i (rd x (rd vars i)) = true := by
  rw [wayB_iff]
  refine ⟨fun j => rd x (rd vars j), fun j hj => ?_, fun p q hp hq e => ?_⟩
  · unfold lstF
    split
    · rename_i h; have : j = i := by omega
      subst this; simp
    · have h1 := hin (rd vars j) (by rw [rd_in hj]; exact List.getElem_mem _)
      have := hx (rd vars j).toNat (by omega)
      rwa [show (((rd vars j).toNat : Nat) : Int) = rd vars j by omega] at this
  · have key : ∀ j (hj : j < vars.length), (vars.map fun i => rd x i)[j]'(by simpa using hj) = rd x (rd vars j) := fun j hj => by rw [rd_in hj]; simp
    have e' : rd x (rd vars p) = rd x (rd vars q) := e
    rw [← key p hp, ← key q hq] at e'
    have hp' := List.pairwise_iff_getElem.1 hd
    rcases Nat.lt_trichotomy p q with h | h | h
    · exact absurd e' (hp' p q (by simpa using hp) (by simpa using hq) h)
    · exact h
    · exact absurd e'.symm (hp' q p (by simpa using hq) (by simpa using hp) h)
theorem below_of_grown {W w1 : World} (hg : W.grownBy w1 none) : Below W.heap.size W w1 := ⟨hg.os, hg.tape, hg.output, hg.size, fun k hk => hg.block k hk (by simp)⟩
theorem own_made {w : World} {base g n : Nat} {xs : List Value} (ho : w.ownsRow base 26 1 (.slice (some ⟨g, 0, none⟩) n n) n xs) : ∃ cur : List Value, cur.length = n ∧ w.heap[g]? = some (.cells cur.toArray 26 (0, 0)) := by
  rcases ho.2 with ⟨h, _⟩ | ⟨g', cap, cur, e, hb, hh, h1, h2, h3, _⟩
  · cases h
  · cases e
    exact ⟨cur.toList, by simpa using h3, by simpa using hh⟩
theorem univ_ok {L : List (List Int)} {v : Int} (G : Good1 L) (hL : L.length ≤ 60) (hv : -100000000 ≤ v ∧ v ≤ 100000000) : (∀ x ∈ univ L v, I64 x) ∧ (univ L v).length ≤ 15000 := by
  constructor
  · intro x hx
    rcases List.mem_cons.1 hx with rfl | hx
    · unfold I64; omega
    · obtain ⟨l, hl, hxl⟩ := List.mem_flatten.1 hx
      obtain ⟨i, hi, rfl⟩ := List.mem_iff_getElem.1 hl
      have := G.bd i x (by rw [rdL1_get L i hi]; exact hxl)
      unfold I64; omega
  · have key : ∀ M : List (List Int), (∀ l ∈ M, l.length ≤ 200) → M.flatten.length ≤ 200 * M.length := by
      intro M
      induction M with
      | nil => intro _; simp
      | cons l M ih =>
        intro h
        have h1 := h l (List.mem_cons_self ..)
        have h2 := ih (fun m hm => h m (List.mem_cons_of_mem _ hm))
        simp only [List.flatten_cons, List.length_append, List.length_cons]
        omega
    have := key L (fun l hl => by
      obtain ⟨i, hi, rfl⟩ := List.mem_iff_getElem.1 hl
      rw [← rdL1_get L i hi]; exact G.len i)
    simp only [univ, List.length_cons]
    omega
/-- what differ leaves at all places so far, when nothing went -/
def AllWay (L : List (List Int)) (vars : List Int) (i : Nat) : Prop := ∀ j : Nat, j < i → ∀ v ∈ rd_L1 L (rd vars j), wayB L vars j v = true
set_option maxHeartbeats 16000000 in
set_option maxRecDepth 100000 in
theorem differ_any {w : World} {a g : Nat} {h : Value × Value} {L : List (List Int)} (N : Net w a g h L) (kd lim : Int) (A1 : Option Addr) (c1 : Nat) (vars : List Int) (v2 v3 v5_ : Value)
    (hC1 : Kd.C (Kd.int .i64) w A1 vars.length vars) (hv : vars.length ≤ 60) (hin : ∀ v ∈ vars, 0 ≤ v ∧ v < L.length) (G : Good1 L) (hL : L.length ≤ 60)
    (sound : List Int → Prop) (hs : ∀ x, sound x → (vars.map fun i => rd x i).Nodup) :
    Calls Tryd.prog 93 #[.pointer (some ⟨a, 0, none⟩), .agg #[.int .i64 kd, .slice A1 vars.length c1, v2, v3, .int .i64 lim, v5_]] w fun e w' =>
      ∃ b L' g', e = .returned (.bool b) ∧ Net w' a g' h L' ∧ Fr w w' a g ∧ w.heap.size ≤ g' ∧ Red sound L L' b ∧ (b = false → AllWay L vars vars.length) := by
  have hu44 := Tryd.underlying44
  have hu54 := Tryd.underlying54
  obtain ⟨A, cap, eblk, hcap, hAg⟩ := N.blk
  have hc2 : w.cell? ⟨a, 2, none⟩ = some (.slice A L.length cap) := by simpa using blk_cell eblk 2
  have hc2A := Lib.cell?_alloc_some (.cells #[.int .i64 kd, .slice A1 vars.length c1, v2, v3, .int .i64 lim, v5_] 44) hc2
  obtain ⟨i26, hi26, hz0, hz1, hz2⟩ := info_parts info26
  have hsz26 : (Tryd.prog.info? 26).map (·.size) = some 1 := by rw [hi26]; simp [hz1]
  obtain ⟨cs, hcsl, hcs, hcs1, hcsr⟩ : ∃ cs : List Value, cs.length = L.length ∧ (0 < cs.length → ∃ ad, A = some ad ∧ ∀ j v, cs[j]? = some v → w.cell? (ad.add j) = some v) ∧ (∀ v ∈ cs, v.oneCell' = true) ∧ (∀ (i : Nat), i < L.length → ∃ cells : Array Value, w.heap[g]? = some (.cells cells 26 (0, 0)) ∧ cs[i]? = cells[i]?) := by
    by_cases hLn : L = []
    · subst hLn
      exact ⟨[], rfl, fun h => by simp at h, fun v h => by simp at h, fun i h => by simp at h⟩
    · obtain ⟨cells, er, hc⟩ := N.row hLn
      have hsz : L.length ≤ cells.size := by
        obtain ⟨v, hv, _⟩ := hc (L.length - 1) (by have := List.length_pos_iff.2 hLn; omega)
        have := (Array.getElem?_eq_some_iff.1 hv).1
        omega
      have hget : ∀ i, i < L.length → (cells.toList.take L.length)[i]? = cells[i]? := fun i hi => by
        rw [List.getElem?_take, if_pos hi]; simp
      refine ⟨cells.toList.take L.length, by simp; omega, fun _ => ⟨_, hAg hLn, fun j v hj => ?_⟩, fun v hv => ?_, fun i hi => ⟨cells, er, hget i hi⟩⟩
      · have hjl : j < L.length := by
          have := (List.getElem?_eq_some_iff.1 hj).1
          simp at this; omega
        rw [hget j hjl] at hj
        have := blk_cell er j
        rw [hj] at this
        have e0 : (⟨g, 0, none⟩ : Addr).add j = ⟨g, j, none⟩ := by simp [Addr.add]; omega
        rw [e0]; exact this
      · obtain ⟨j, hj, rfl⟩ := List.mem_iff_getElem.1 hv
        have hjl : j < L.length := by simp at hj; omega
        obtain ⟨u, hu, hs⟩ := hc j hjl
        obtain ⟨A', c', rfl, _⟩ := hs.ex
        have e1 := hget j hjl
        rw [List.getElem?_eq_getElem hj, hu] at e1
        rw [Option.some.inj e1]; rfl
  have HN := Aside0.mk N
  have HC1 := Aside0.mk hC1
  have HV := Aside0.mk hv
  have HIN := Aside0.mk hin
  have HG := Aside0.mk G
  have HLL := Aside0.mk hL
  have HS := Aside0.mk hs
  have HCS1 := Aside0.mk hcs1
  have HCSL := Aside0.mk hcsl
  have HI26 := Aside0.mk hi26
  have HZ0 := Aside0.mk hz0
  have HZ1 := Aside0.mk hz1
  have HZ2 := Aside0.mk hz2
  have HSZ := Aside0.mk hsz26
  obtain ⟨W0, eW0⟩ : ∃ W0 : World, W0 = w.alloc (.cells #[.int .i64 kd, .slice A1 vars.length c1, v2, v3, .int .i64 lim, v5_] 44) := ⟨_, rfl⟩
  have hB0 : Below w.heap.size w W0 := by rw [eW0]; exact below_alloc (Below.refl _ _) _
  have HCON := Aside0.mk (show W0.heap[w.heap.size]? = some (.cells #[.int .i64 kd, .slice A1 vars.length c1, v2, v3, .int .i64 lim, v5_] 44 (0, 0)) by rw [eW0]; exact blk_new _ _)
  have hc20 := (hB0.cell (World.block_lt_of_cell? w _ hc2)).trans hc2
  have HC2 := Aside0.mk hc20
  have HCS := Aside0.mk (show 0 < cs.length → ∃ ad, A = some ad ∧ ∀ j v, cs[j]? = some v → W0.cell? (ad.add j) = some v from fun hn => by
    obtain ⟨ad, ea, hc⟩ := hcs hn
    exact ⟨ad, ea, fun j v hj => (hB0.cell (World.block_lt_of_cell? w _ (hc j v hj))).trans (hc j v hj)⟩)
  have HCSR := Aside0.mk (show ∀ (i : Nat), i < L.length → ∃ cells : Array Value, W0.heap[g]? = some (.cells cells 26 (0, 0)) ∧ cs[i]? = cells[i]? from fun i hi => by
    obtain ⟨cells, e1, e2⟩ := hcsr i hi
    exact ⟨cells, (hB0.block g (blk_lt e1)).trans e1, e2⟩)
  have HN0 := Aside0.mk (N.below hB0)
  have HC10 := Aside0.mk (Kd.C_below hC1 hB0)
  have HB0 := Aside0.mk hB0
  have EW0 := Aside0.mk eW0
  clear N hC1 hv hin G hL hs hcs hcs1 hcsr hcsl eblk hcap hAg hi26 hz0 hz1 hz2 hsz26 hc2 hB0 hc2A
  go_enter Tryd.func93, Tryd.ntmps93
  go_upto_region 1 with fail
  rw [← EW0.out]
  clear eW0
  go_wp2_with (first
    | (at_make; (refine wpList_make_full _ rfl (.tmp 17) (.tmp 17) 22 rfl W0.heap.size 26 i26 (.slice none 0 0) 1 Tryd.underlying22 HI26.out HZ0.out HZ1.out .i64 .i64 (L.length : Int) (L.length : Int) L.length rfl rfl rfl rfl ?b2 ?b3 ?b4 ?_; (case b2 => have := HLL.out; have := HZ2.out; rw [this]; omega); (case b3 => have := HLL.out; unfold maxLen; omega); (case b4 => first | exact Nat.le_refl _ | exact below_size HBw2.out); intro w1 ho hg; obtain ⟨curw1, hclw1, hcbw1⟩ := own_made ho; have HCLw1 := Aside0.mk hclw1; have HCBw1 := Aside0.mk hcbw1; have HBw1 := Aside0.mk (below_step (Below.refl _ W0) (below_of_grown hg)); clear ho hg hclw1 hcbw1 hc20; have hc2w1 := (HBw1.out.cell (World.block_lt_of_cell? W0 _ HC2.out)).trans HC2.out))
    | ((with_reducible refine gate_builtin (b := .copy) (xs := #[.tmp 19, .tmp 23]) rfl ?_); (refine wpList_copy_splice rfl (.tmp 19) (.tmp 23) 22 22 rfl 26 Tryd.underlying22 HSZ.out (some ⟨W0.heap.size, 0, none⟩) A L.length L.length L.length cap rfl rfl W0.heap.size 0 curw1 26 HCBw1.out cs ?n1 ?n2 ?n3 HCS1.out W0.heap.size W0 HBw1.out ?n4 ?_; (case n1 => rw [HCSL.out]; simp); (case n2 => exact fun hn => ⟨rfl, by obtain ⟨ad, ea, hc⟩ := HCS.out hn; exact ⟨ad, ea, fun j v hj => (HBw1.out.cell (World.block_lt_of_cell? W0 _ (hc j v hj))).trans (hc j v hj)⟩⟩); (case n3 => rw [HCSL.out, HCLw1.out]; omega); (case n4 => first | exact Nat.le_refl _ | exact below_size HBw2.out); intro w2 hhw2 hb; have HHw2 := Aside0.mk hhw2.out; have HBw2 := Aside0.mk hb; clear hb hhw2 hc2w1; have hc2w2 := (HBw2.out.cell (World.block_lt_of_cell? W0 _ HC2.out)).trans HC2.out))
    | (at_make; (refine wpList_make_full _ rfl (.tmp 29) (.tmp 29) 22 rfl W0.heap.size 26 i26 (.slice none 0 0) 1 Tryd.underlying22 HI26.out HZ0.out HZ1.out .i64 .i64 (L.length : Int) (L.length : Int) L.length rfl rfl rfl rfl ?b2 ?b3 ?b4 ?_; (case b2 => have := HLL.out; have := HZ2.out; rw [this]; omega); (case b3 => have := HLL.out; unfold maxLen; omega); (case b4 => first | exact Nat.le_refl _ | exact below_size HBw2.out); intro w3 ho hg; obtain ⟨curw3, hclw3, hcbw3⟩ := own_made ho; have HCLw3 := Aside0.mk hclw3; have HCBw3 := Aside0.mk hcbw3; have HBw3 := Aside0.mk (below_step HBw2.out (below_of_grown hg)); clear ho hg hclw3 hcbw3 hc2w2; have hc2w3 := (HBw3.out.cell (World.block_lt_of_cell? W0 _ HC2.out)).trans HC2.out))
    | ((with_reducible refine gate_builtin (b := .copy) (xs := #[.tmp 31, .tmp 35]) rfl ?_); (refine wpList_copy_splice rfl (.tmp 31) (.tmp 35) 22 22 rfl 26 Tryd.underlying22 HSZ.out (some ⟨w2.heap.size, 0, none⟩) A L.length L.length L.length cap rfl rfl w2.heap.size 0 curw3 26 HCBw3.out cs ?n1 ?n2 ?n3 HCS1.out W0.heap.size W0 HBw3.out ?n4 ?_; (case n1 => rw [HCSL.out]; simp); (case n2 => exact fun hn => ⟨rfl, by obtain ⟨ad, ea, hc⟩ := HCS.out hn; exact ⟨ad, ea, fun j v hj => (HBw3.out.cell (World.block_lt_of_cell? W0 _ (hc j v hj))).trans (hc j v hj)⟩⟩); (case n3 => rw [HCSL.out, HCLw3.out]; omega); (case n4 => first | exact Nat.le_refl _ | exact below_size HBw2.out); intro w4 hhw4 hb; have HHw4 := Aside0.mk hhw4.out; have HBw4 := Aside0.mk hb; clear hb hhw4 hc2w3; have hc2w4 := (HBw4.out.cell (World.block_lt_of_cell? W0 _ HC2.out)).trans HC2.out; have hk1 : w4.cell? ⟨w.heap.size, 1, none⟩ = some (.slice A1 vars.length c1) := (by simpa using blk_cell ((HBw4.out.block _ (blk_lt HCON.out)).trans HCON.out) 1))))
  have hRN : RowN w4 a w2.heap.size L := RowN.of HN0.out cs HCSR.out HBw4.out (below_size HBw2.out) (by
    have := HHw4.out
    rwa [show splice curw3 0 cs = cs by simp [splice, HCLw3.out, HCSL.out]] at this)
  have HG7 := Aside0.mk (show W0.heap.size ≤ w2.heap.size from below_size HBw2.out)
  obtain ⟨g7, eg7⟩ : ∃ g7, g7 = w2.heap.size := ⟨_, rfl⟩
  rw [← eg7] at hRN HG7 ⊢
  have HRN := Aside0.mk hRN
  clear hRN hc2w4 hk1 eg7
  go_loopw [40, 6] (fun v40 v6 wr => ∃ (i : Nat) (b : Bool) (Lx : List (List Int)), i ≤ vars.length ∧ v40 = .int .i64 i ∧ v6 = .bool b ∧ Aside0 (RowN wr a g7 Lx) ∧ Aside0 (Below W0.heap.size W0 wr) ∧ Aside0 (Red sound L Lx b) ∧ Aside0 (b = false → AllWay L vars i)) (fun v40 _ _ => vars.length - (intOf v40).toNat)
  case atStart => exact ⟨0, false, L, Nat.zero_le _, rfl, rfl, HRN, HBw4, ⟨Red.refl _ _⟩, ⟨fun _ j hj => absurd hj (Nat.not_lt_zero _)⟩⟩
  case round =>
    obtain ⟨i, b, Lx, hi, rfl, rfl, HRW, HBR, HRED, HALL⟩ := hrel
    obtain ⟨w1, rfl⟩ : ∃ w1 : World, w1 = wr := ⟨_, rfl⟩
    have HI := Aside0.mk hi
    by_cases hlt : i < vars.length
    · have hC1f := Kd.C_below HC10.out HBR.out
      obtain ⟨ad1, e1, hcv⟩ := Kd.at_int hC1f (i : Int) (by omega) (by omega)
      cases e1
      simp only [Int.toNat_natCast] at hcv
      have HCF := Aside0.mk hC1f
      have hkin := HIN.out (rd vars i) (by rw [rd_in hlt]; exact List.getElem_mem hlt)
      obtain ⟨k, ek⟩ : ∃ k, k = rd vars i := ⟨_, rfl⟩
      rw [← ek] at hcv hkin
      have N1 := HN0.out.below HBR.out
      obtain ⟨Aq, capq, A1q, c1q, eblkq, eAq, ecellq, hlq, hCq⟩ := N1.at k hkin.1 hkin.2
      cases eAq
      have hc2q := blk_cell (blk_alloc eblkq (.cells #[.slice none 0 0] 26)) 2
      replace hc2q : (w1.alloc (.cells #[.slice none 0 0] 26)).cell? ⟨a, 2, none⟩ = some (.slice (some ⟨g, 0, none⟩) L.length capq) := by simpa using hc2q
      replace ecellq := Lib.cell?_alloc_some (.cells #[.slice none 0 0] 26) ecellq
      have hk0 := eq_true hkin.1
      have hk1 := eq_true hkin.2
      obtain ⟨ks, eks⟩ : ∃ ks, ks = rd_L1 L k := ⟨_, rfl⟩
      rw [← eks] at ecellq hlq hCq
      have EKS := Aside0.mk eks
      have EK := Aside0.mk ek
      have HCQ1 := Aside0.mk hCq
      have HN1 := Aside0.mk N1
      have HKS := Aside0.mk (show ks.length ≤ 200 by rw [eks]; exact HG.out.len k)
      have HKB := Aside0.mk (show ∀ v ∈ ks, -100000000 ≤ v ∧ v ≤ 100000000 by rw [eks]; exact HG.out.bd k)
      have HKIN := Aside0.mk hkin
      have HLT := Aside0.mk hlt
      have HW := Aside0.mk (show wrap64 ((i : Int) + 1) = ((i + 1 : Nat) : Int) by have := HV.out; unfold wrap64; omega)
      obtain ⟨p, ep⟩ : ∃ p, p = wayB L vars i := ⟨_, rfl⟩
      have EP := Aside0.mk ep
      clear hC1f hkin N1 hlq hCq eks ek eblkq hi ep
      go_wp2
      clear hc2q ecellq hk0 hk1 hcv
      go_loopw [53] (fun v53 wq => ∃ (j : Nat) (v10 : Value), j ≤ ks.length ∧ v53 = .int .i64 j ∧ Aside0 (wq.heap[w1.heap.size]? = some (.cells #[v10] 26 (0, 0))) ∧ Aside0 (Kd.R (Kd.int .i64) 3 wq w1.heap.size (fun _ => True) v10 ((ks.take j).filter p)) ∧ Aside0 (Below w1.heap.size w1 wq)) (fun v53 _ => ks.length - (intOf v53).toNat)
      case atStart => exact ⟨0, _, Nat.zero_le _, rfl, ⟨blk_new _ _⟩, ⟨by simpa using Kd.R_nil (Kd.int .i64) 3 _ _ _⟩, ⟨below_alloc (Below.refl _ _) _⟩⟩
      case round =>
        obtain ⟨j, v10, hj, rfl, H10, HR, HBQ⟩ := hrel
        obtain ⟨wq, rfl⟩ : ∃ wq : World, wq = wr := ⟨_, rfl⟩
        obtain ⟨q, eq⟩ : ∃ q, q = (ks.take j).filter p := ⟨_, rfl⟩
        rw [← eq] at HR
        have EQ := Aside0.mk eq
        have HQL := Aside0.mk (show q.length ≤ j by rw [eq]; exact Nat.le_trans (List.length_filter_le _ _) (by simp; omega))
        obtain ⟨Av, cv, rfl⟩ := Kd.R_slice HR.out
        have h10c : wq.cell? ⟨w1.heap.size, 0, none⟩ = some (.slice Av q.length cv) := by simpa using blk_cell H10.out 0
        have HJ := Aside0.mk hj
        clear eq
        by_cases hjl : j < ks.length
        · obtain ⟨adq, e, hc1⟩ := Kd.at_int (Kd.C_below HCQ1.out HBQ.out) (j : Int) (by omega) (by omega)
          cases e
          simp only [Int.toNat_natCast] at hc1
          obtain ⟨v, ev⟩ : ∃ v, v = rd ks j := ⟨_, rfl⟩
          rw [← ev] at hc1
          have hk1 : wq.cell? ⟨w.heap.size, 1, none⟩ = some (.slice (some ad1) vars.length c1) := by simpa using blk_cell ((HBQ.out.block _ (blk_lt ((HBR.out.block _ (blk_lt HCON.out)).trans HCON.out))).trans ((HBR.out.block _ (blk_lt HCON.out)).trans HCON.out)) 1
          have HVM := Aside0.mk (show v ∈ ks by rw [ev, rd_in hjl]; exact List.getElem_mem _)
          have HTK := Aside0.mk (show ks.take (j + 1) = ks.take j ++ [v] by rw [List.take_succ_eq_append_getElem hjl, ev, rd_in hjl])
          have HNQ := Aside0.mk (HN1.out.below HBQ.out)
          have HCQ := Aside0.mk (Kd.C_below HCF.out HBQ.out)
          have BUN := Aside0.mk (univ_ok HG.out HLL.out (HKB.out v HVM.out)).1
          have HUN := Aside0.mk (univ_ok HG.out HLL.out (HKB.out v HVM.out)).2
          have HJL := Aside0.mk hjl
          have HWJ := Aside0.mk (show wrap64 ((j : Int) + 1) = ((j + 1 : Nat) : Int) by have := HKS.out; unfold wrap64; omega)
          clear ev
          go_wp2_with (first
            | (go_at_call 94; (with_reducible refine (match_any HNQ.out i v (some ad1) c1 vars HCQ.out HV.out HIN.out BUN.out HUN.out HG.out.len).mono ?_); rintro e w5 ⟨b', rfl, hb', hbel⟩; have HBW := Aside0.mk hb'; have HB5 := Aside0.mk hbel; have HBB := Aside0.mk (below_step HBQ.out hbel); have HR5 := Aside0.mk (Kd.R_below HR.out hbel); have H105 := Aside0.mk ((hbel.block _ (blk_lt H10.out)).trans H10.out); clear hb' hbel h10c hk1; have h10c : w5.cell? ⟨w1.heap.size, 0, none⟩ = some (.slice Av q.length cv) := (by simpa using blk_cell H105.out 0))
            | ((with_reducible refine gate_builtin (b := .append) (xs := #[.tmp 63, .tmp 65]) rfl ?_); at_builtin; refine Kd.R_append (Kd.int .i64) (w0 := w1) w1.heap.size rfl (.tmp 63) (.tmp 65) 26 3 (.int .i64 0) 8 rfl Tryd.underlying26 info3 rfl (by decide) (by omega) (.slice Av q.length cv) q v [.int .i64 v] (fun _ => True) (fun _ => False) rfl rfl ?aP (fun _ hk => hk.elim) ?aF ?aO ?aB ?aS ?aL ?_; (case aP => exact rfl); (case aB => exact HBB.out); (case aF => exact (fun _ _ => trivial)); (case aO => exact HR5.out); (case aS => exact below_size HBB.out); (case aL => have := HQL.out; have := HKS.out; omega); intro v1 w6 ho hb hg hat; obtain ⟨Av1, cv1, rfl⟩ := Kd.R_slice ho; have HR6 := Aside0.mk ho; have HB6 := Aside0.mk hb; have H106 := Aside0.mk (blk_grown H105.out hg (Kd.R_ne HR5.out H105.out (by decide))); clear ho hb hg hat h10c; have h10c : w6.cell? ⟨w1.heap.size, 0, none⟩ = some (.slice Av q.length cv) := (by simpa using blk_cell H106.out 0); have h10f := blk_frozen H106.out 0))
          · have hb' : b' = true := by assumption
            subst hb'
            have hw := HWJ.out
            have hpv : p v = true := by rw [EP.out, wayB_iff]; exact HBW.out.1 rfl
            refine ⟨⟨j + 1, .slice Av1 (q.length + 1) cv1, by have := HJL.out; omega, by rw [hw], ⟨blk_put H106.out 0 _ rfl⟩, ⟨?_⟩, ⟨below_set HB6.out (Nat.le_refl _)⟩⟩, ?_⟩
            · rw [HTK.out, List.filter_append, ← EQ.out, show [v].filter p = [v] by simp [hpv]]
              have h6 := HR6.out
              rw [List.length_append, List.length_singleton] at h6
              exact Kd.R_set h6 H106.out (by intro q hq; have e : q = 3 := (by simpa [Kd.int, Kd.scalar] using hq); rw [e]; decide) 0 _
            · rw [hw]; have := HJL.out; simp [intOf]; omega
          · have hb' : b' = false := by assumption
            subst hb'
            have hw := HWJ.out
            have hpv : p v = false := by
              cases e : p v with
              | false => rfl
              | true => rw [EP.out, wayB_iff] at e; exact absurd (HBW.out.2 e) (by simp)
            refine ⟨⟨j + 1, .slice Av q.length cv, by have := HJL.out; omega, by rw [hw], H105, ⟨?_⟩, HBB⟩, ?_⟩
            · rw [HTK.out, List.filter_append, ← EQ.out, show [v].filter p = [] by simp [hpv], List.append_nil]
              exact HR5.out
            · rw [hw]; have := HJL.out; simp [intOf]; omega
        · obtain rfl : j = ks.length := by omega
          clear hjl hj
          have hqe : q = ks.filter p := by have := EQ.out; rwa [List.take_length] at this
          have HQE := Aside0.mk hqe
          have hLx := HRED.out.len
          have hRQ := HRW.out.below HBQ.out
          obtain ⟨An, cn, hnc, hnl, hnC, hnf, hnb⟩ := hRQ.at k HKIN.out.1 (by rw [hLx]; exact HKIN.out.2)
          obtain ⟨nx, enx⟩ : ∃ nx, nx = rd_L1 Lx k := ⟨_, rfl⟩
          rw [← enx] at hnc hnl hnC hnb
          have ENX := Aside0.mk enx
          have HRQ := Aside0.mk hRQ
          have HNL := Aside0.mk hnl
          have HNC := Aside0.mk hnC
          have HNB := Aside0.mk hnb
          have HLX := Aside0.mk hLx
          have hkx0 := eq_true HKIN.out.1
          have hkx1 := eq_true HKIN.out.2
          have HNX := Aside0.mk (show nx.length ≤ 200 by rw [enx]; exact HRED.out.lens HG.out.len k)
          clear hqe hLx hRQ enx hnl hnC hnb
          by_cases hcmp : q.length < nx.length
          · have hcb : ((q.length : Int) < (nx.length : Int)) = True := eq_true (by omega)
            have hcbn : (q.length < nx.length) = True := eq_true hcmp
            have HCMP := Aside0.mk hcmp
            clear hcmp
            have hne : nx ≠ [] := by intro e; have := HCMP.out; rw [e] at this; simp at this
            obtain ⟨bn, on, rfl⟩ := HNB.out hne
            have HNE := Aside0.mk hne
            have HCELLS : Aside0 (∀ j, j < nx.length → wq.cell? ⟨bn, on + j, none⟩ = some (.int .i64 (nx.getD j 0))) := by
              refine ⟨fun j hj => ?_⟩
              obtain ⟨ad, e, hc⟩ := (Kd.reads_of_C (d := (0 : Int)) HNC.out).2.2 (by omega)
              cases e
              have := hc j hj
              have e1 : (⟨bn, on, none⟩ : Addr).add j = ⟨bn, on + j, none⟩ := by simp [Addr.add]
              rwa [e1] at this
            have HFF : Aside0 (∀ (W6 : World) (v' : Value), Below wq.heap.size wq W6 → (∀ m, v'.ownBlock = some m → wq.heap.size ≤ m) → ∀ (W : World) (x : Int), W6.grownBy W v'.ownBlock → Calls Tryd.prog 96 (#[.int .i64 x] ++ #[.pointer (some ⟨w1.heap.size, 0, none⟩)]) W fun e w' => e = .returned (.bool (!q.contains x)) ∧ Drawn0 W w') := by
              refine ⟨fun W6 v' hb hm W x hg => ?_⟩
              have key : ∀ m, m < wq.heap.size → W.heap[m]? = wq.heap[m]? := fun m hml => (hg.block m (by have := hb.size; omega) (fun e => by have := hm m e.symm; omega)).trans (hb.block m hml)
              have hRq := Kd.R_step (w1 := W) HR.out (fun m _ hml => key m hml)
              obtain ⟨_, hcl, hCl⟩ := Kd.R_reads' hRq
              have h10w := (key _ (blk_lt H10.out)).trans H10.out
              exact differ1_any w1.heap.size x Av cv q (by simpa using blk_cell h10w 0) hcl hCl (by have := HQL.out; have := HKS.out; omega)
            have HNCC := Aside0.mk hnc
            have HNF : Aside0 (∀ W : World, Below wq.heap.size wq W → W.frozen? ⟨g7, k.toNat, none⟩ = false) := ⟨fun W hb => by
              obtain ⟨cells, er, _⟩ := HRQ.out.ex
              exact blk_frozen ((hb.block g7 (blk_lt er)).trans er) _⟩
            clear hne
            go_wp2
            go_quiet (fail)
            go_wp2_with (first
              | (go_at_call 27; (with_reducible refine (Tryd.slices_Clone_int bn on nx.length cn nx _ (Nat.le_refl _) ?hbig ?hcells).mono ?_); (case hbig => have := HNX.out; omega); (case hcells => exact HCELLS.out); rintro e w6 ⟨v', rfl, hown, hvn, hb6⟩; rw [List.take_length] at hown; have hRV : Kd.R (Kd.int .i64) 3 w6 wq.heap.size (fun _ => True) v' nx := Kd.R_of_own (by simpa [encs] using hown) (fun _ _ => trivial); obtain ⟨A8, c8, rfl⟩ := Kd.R_slice hRV; have HRV := Aside0.mk hRV; have HB6 := Aside0.mk (show Below wq.heap.size wq w6 from below_step (pw_below_drewN (Below.refl _ _) _) hb6); clear hown hvn hb6 hRV)
              | (go_at_call 95; (with_reducible refine (delete_any (.slice A8 nx.length c8) nx _ wq.heap.size (fun _ => True) HRV.out HNE.out HNX.out 96 #[.pointer (some ⟨w1.heap.size, 0, none⟩)] (fun v => !q.contains v) (enters_ Tryd.func96 (by kernel_rfl) (by kernel_rfl)) ?hF).mono ?_); (case hF => exact HFF.out w6 _ HB6.out (Kd.R_base HRV.out)); rintro e w7 ⟨g8, c9, hob, hg8, rfl, hl8, hC8, hgr8⟩; have HG8 := Aside0.mk hg8; have HL8 := Aside0.mk hl8; have HC8 := Aside0.mk hC8; have HB7 := Aside0.mk (show Below wq.heap.size wq w7 from HB6.out.trans ⟨hgr8.os, hgr8.tape, hgr8.output, hgr8.size, fun m hm => hgr8.block m (by have := HB6.out.size; omega) (by simp; omega)⟩); clear hob hg8 hl8 hC8 hgr8 hnc hnf; have hnc := (HB7.out.cell (World.block_lt_of_cell? wq _ HNCC.out)).trans HNCC.out; have hnf := HNF.out w7 HB7.out))
            have hw := HW.out
            go_roundw
            case rel =>
              have hkl : k.toNat < Lx.length := by have := HLX.out; have := HKIN.out; omega
              have hgr7 : g7 < wq.heap.size := by obtain ⟨cells, er, _⟩ := HRQ.out.ex; exact blk_lt er
              have hal : a < wq.heap.size := by have := HN.out.lt; have := HB0.out.size; have := HBR.out.size; have := HBQ.out.size; omega
              have hsl : Sl w7 a g7 (.slice (some ⟨g8, 0, none⟩) (nx.filter fun x => !(!q.contains x)).length c9) (nx.filter fun x => !(!q.contains x)) :=
                ⟨_, _, rfl, HL8.out, HC8.out, fun _ ad e => by cases e; have := HG8.out; exact ⟨by show g8 ≠ a; omega, by show g8 ≠ g7; omega, rfl⟩⟩
              have hput := (HRQ.out.below HB7.out).put k.toNat hkl hsl
              have hkp := Red.keep (sound := sound) (L := Lx) k HKIN.out.1 (by have := HLX.out; have := HKIN.out; omega) (fun x => !(!q.contains x)) (fun x hx hin => by
                have hin2 : ∀ m : Nat, m < L.length → rd x m ∈ rd_L1 L m := fun m hm => (HRED.out.sub m hm).subset (hin m (by rw [HLX.out]; exact hm))
                have h1 := way_sound HIN.out hin2 (HS.out x hx) i HLT.out
                simp only [Bool.not_not, List.contains_iff_mem]
                rw [HQE.out, List.mem_filter]
                refine ⟨?_, by rw [EP.out, EK.out]; exact h1⟩
                rw [EKS.out]
                have := hin2 k.toNat (by have := HKIN.out; omega)
                rwa [show ((k.toNat : Nat) : Int) = k by have := HKIN.out; omega] at this)
              rw [← ENX.out] at hkp
              have hlt2 : (nx.filter fun x => !(!q.contains x)).length < nx.length := by
                refine Nat.lt_of_le_of_lt (nodup_len _ q ?_ ?_) HCMP.out
                · have := (HRED.out.good HG.out).asc k
                  rw [← ENX.out] at this
                  exact (this.imp (fun h => Int.ne_of_lt h)).sublist List.filter_sublist
                · intro x hx
                  have := (List.mem_filter.1 hx).2
                  simpa using this
              rw [decide_eq_true hlt2] at hkp
              have htr := HRED.out.trans hkp
              rw [Bool.or_true] at htr
              have hfe : (fun x => decide (x ∈ q)) = (fun x => !(!q.contains x)) := by funext x; simp
              rw [hfe]
              exact ⟨i + 1, true, _, by have := HLT.out; omega, by rw [hw], rfl, ⟨hput⟩, ⟨(HBR.out.trans ((HBQ.out.trans (HB7.out.mono HBQ.out.size)).mono HBR.out.size)).setCell (p := ⟨g7, k.toNat, none⟩) HG7.out _⟩, ⟨htr⟩, ⟨fun e => by cases e⟩⟩
            case measure => rw [hw]; have := HLT.out; simp [intOf]; omega
          · have hcb : ((q.length : Int) < (nx.length : Int)) = False := eq_false (by omega)
            have hcbn : (q.length < nx.length) = False := eq_false hcmp
            have HCMP := Aside0.mk hcmp
            clear hcmp
            go_wp2
            go_quiet (fail)
            go_wp2
            have hw := HW.out
            go_roundw
            case rel =>
              refine ⟨i + 1, b, Lx, by have := HLT.out; omega, by rw [hw], rfl, ⟨HRQ.out.below (pw_below_drewN (Below.refl _ _) _)⟩, ⟨HBR.out.trans ((HBQ.out.trans (pw_below_drewN (Below.mono (Below.refl _ _) HBQ.out.size) _)).mono HBR.out.size)⟩, HRED, ⟨fun e j hj v hv => ?_⟩⟩
              by_cases hji : j = i
              · have hsame := HRED.out.same e
                have h1 : nx = ks := by rw [ENX.out, hsame, EKS.out]
                have h2 : q = ks := by rw [HQE.out]; exact List.filter_sublist.eq_of_length_le (by have := HCMP.out; rw [← HQE.out, ← h1]; omega)
                rw [hji, ← EK.out, ← EKS.out] at hv
                have h3 : v ∈ ks.filter p := by rw [← HQE.out, h2]; exact hv
                have := (List.mem_filter.1 h3).2
                rw [EP.out] at this
                rw [hji]; exact this
              · exact HALL.out e j (by omega) v hv
            case measure => rw [hw]; have := HLT.out; simp [intOf]; omega
    · obtain rfl : i = vars.length := by omega
      have N1 := HN0.out.below HBR.out
      obtain ⟨A9, cap9, eblk9, hcap9, _⟩ := N1.blk
      have hca := blk_cell eblk9 2
      replace hca : w1.cell? ⟨a, 2, none⟩ = some (.slice A9 L.length cap9) := by simpa using hca
      have hfa := blk_frozen eblk9 2
      have EB9 := Aside0.mk eblk9
      clear N1 eblk9 hcap9
      go_wp2
      go_ret
      obtain ⟨cells, er, hrow⟩ := HRW.out.ex
      have hag : a ≠ g7 := by have := HN0.out.lt; have := HG7.out; omega
      have hsz := HRED.out.len
      have F : Fr w1 (w1.setCell ⟨a, 2, none⟩ (.slice (some ⟨g7, 0, none⟩) L.length L.length)) a g7 := ⟨rfl, rfl, rfl, by simp [World.setCell], fun m _ hm _ => Below.heap_setCell w1 ⟨a, 2, none⟩ _ m hm⟩
      refine ⟨b, Lx, g7, rfl, ⟨⟨some ⟨g7, 0, none⟩, L.length, ?_, by omega, fun _ => rfl⟩, fun _ => ⟨cells, blk_far er (p := ⟨a, 2, none⟩) (Ne.symm hag) _, fun m hm => ?_⟩, hag, ?_, ?_⟩, ?_, ?_, HRED.out, HALL.out⟩
      · rw [hsz]; exact blk_put EB9.out 2 _ rfl
      · obtain ⟨v, h1, h2⟩ := hrow m hm
        exact ⟨v, h1, h2.fr F⟩
      · exact Nat.lt_of_lt_of_le (Nat.lt_of_lt_of_le HN0.out.lt HBR.out.size) F.size
      · exact Nat.lt_of_lt_of_le (blk_lt er) F.size
      · have h0 := Fr.of_below HB0.out a g
        have h1 := Fr.of_below HBR.out a g
        have h2 : Fr w1 (w1.setCell ⟨a, 2, none⟩ (.slice (some ⟨g7, 0, none⟩) L.length L.length)) a g := ⟨rfl, rfl, rfl, by simp [World.setCell], fun m _ hm _ => Below.heap_setCell w1 ⟨a, 2, none⟩ _ m hm⟩
        exact (h0.trans h1 (.inl rfl)).trans h2 (.inl rfl)
      · have := HB0.out.size; have := HG7.out; omega
end Go.Proofs.YtehekppkicjimaaDoor.QFK
