/- The walks of slices.Clone over any ints and of finite.fresh. Conditions: what they read lies in memory. -/
import Derived.Test.YtehekppkicjimaaDoorSNar
namespace Go.Proofs.YtehekppkicjimaaDoor.QFK
open Go.RowKit Go.Proofs.YtehekppkicjimaaDoorW.PrintWords Go.Proofs.YtehekppkicjimaaDoorW.PrintLast Go.Proofs.YtehekppkicjimaaDoorW.PrintMore
open Go.Deep
set_option linter.unusedVariables false
set_option linter.unusedSimpArgs false
set_option maxHeartbeats 8000000 in
set_option maxRecDepth 100000 in
/-- slices.Clone of any ints that are read -/
theorem cloneI_any (A : Option Addr) (c : Nat) (xs : List Int) (w : World) (hC : Kd.C (Kd.int .i64) w A xs.length xs) (hl : xs.length ≤ 200) :
    Calls Tryd.prog 27 #[.slice A xs.length c] w fun e w' => ∃ v', e = .returned v' ∧ Kd.R (Kd.int .i64) 3 w' w.heap.size (fun _ => True) v' xs ∧ Below w.heap.size w w' := by
  cases A with
  | none =>
    have h0 : xs = [] := by
      rcases Nat.eq_zero_or_pos xs.length with h | h
      · exact List.eq_nil_of_length_eq_zero h
      · obtain ⟨ad, e, _⟩ := Kd.at_int hC (0 : Int) (by omega) (by omega)
        cases e
    subst h0
    refine (Tryd.slices_Clone_int_nil _ c w).mono ?_
    rintro e w' ⟨rfl, rfl⟩
    exact ⟨_, rfl, Kd.R_nil _ _ _ _ _, Below.refl _ _⟩
  | some ad =>
    obtain ⟨i3, hi3, hz0, hz1, hz2⟩ := info_parts info3
    have q26 : ∀ (w : World) (a : Option Addr) (n c n' c' : Nat), (binOp .eql 26 (.slice a n c) (.slice none n' c')).run Tryd.prog w = .ok (.bool a.isNone) w := fun w a n c n' c' => Lib.run_eql_slice_nil w _ _ a n c n' c' Tryd.underlying26
    obtain ⟨cs, hcs⟩ : ∃ cs : List Value, cs = xs.map (Value.int .i64) := ⟨_, rfl⟩
    have hcell : ∀ j u, cs[j]? = some u → w.cell? (ad.add j) = some u := by
      intro j u hj
      rw [hcs, List.getElem?_map] at hj
      cases hx : xs[j]? with
      | none => rw [hx] at hj; cases hj
      | some x =>
        rw [hx] at hj
        cases hj
        obtain ⟨hjl, ej⟩ := List.getElem?_eq_some_iff.1 hx
        obtain ⟨ad', e, hc⟩ := Kd.at_int hC (j : Int) (by omega) (by omega)
        cases e
        rw [rd_in hjl, ej] at hc
        simpa using hc
    have HCELL := Aside0.mk hcell
    have HCS := Aside0.mk hcs
    have HI := Aside0.mk hi3
    have HZ0 := Aside0.mk hz0
    have HZ1 := Aside0.mk hz1
    have HZ2 := Aside0.mk hz2
    have HL := Aside0.mk hl
    clear hcell hcs hi3 hz0 hz1 hz2 hl hC
    go_enter Tryd.func27, Tryd.ntmps27
    go_wp2_with (at_builtin; (refine wpList_append_own _ rfl (.tmp 5) (.tmp 6) 26 rfl w.heap.size 3 i3 (.int .i64 0) 1 8 Tryd.underlying26 HI.out HZ0.out HZ1.out HZ2.out rfl (by decide) (.slice (some ⟨w.heap.size, 0, none⟩) 0 0) 0 [] rfl ?o1 ad xs.length c cs rfl ?o2 ?o3 ?o4 ?o5 ?o6 ?o7 ?_; (case o1 => exact World.ownsRow_lit (base := w.heap.size) (e := 3) (size := 1) w #[] 0 (Nat.le_refl _) (by decide) rfl); (case o2 => rw [HCS.out]; simp); (case o3 => exact fun j u hj => Lib.cell?_alloc_some _ (HCELL.out j u hj)); (case o4 => intro u hu; rw [HCS.out, List.mem_map] at hu; obtain ⟨x, _, rfl⟩ := hu; rfl); (case o5 => have := HL.out; unfold maxLen; omega); (case o6 => have := HL.out; omega); (case o7 => exact below_size (below_alloc (Below.refl _ _) _)); intro v' w' ho hg hnil; have HO := Aside0.mk ho; have HG := Aside0.mk hg; clear ho hg hnil))
    go_ret
    refine ⟨v', rfl, ?_, ?_⟩
    · have := HO.out
      rw [HCS.out] at this
      exact Kd.R_of_own (by simpa [encs] using this) (fun _ _ => trivial)
    · exact (below_alloc (Below.refl _ w) _).trans ⟨HG.out.os, HG.out.tape, HG.out.output, by have := HG.out.size; have h2 := below_size (below_alloc (Below.refl w.heap.size w) (.cells #[] 3)); omega, fun k hk => HG.out.block k (by have h2 := below_size (below_alloc (Below.refl w.heap.size w) (.cells #[] 3)); omega) (by simp [Value.ownBlock]; omega)⟩
theorem tookL1 {vals : List (List Int)} {i : Nat} (h : i < vals.length) : vals.take (i + 1) = vals.take i ++ [rd_L1 vals i] := by
  rw [List.take_succ_eq_append_getElem h, rdL1_get vals i h]
/-- a row of lists of the call's own, as a net's row -/
theorem row_of_R {w : World} {base a g : Nat} {v : Value} {xs : List (List Int)} (hR : Kd.R (Kd.slice 3 (Kd.int .i64)) 26 w base (fun k => k ≠ a) v xs) (hv : v.ownBlock = some g) :
    ∃ c, v = .slice (some ⟨g, 0, none⟩) xs.length c ∧ xs.length ≤ c ∧ RowN w a g xs := by
  obtain ⟨h0, inner, ho, hrep⟩ := hR
  rcases ho.2 with ⟨rfl, _⟩ | ⟨g', cap, cur, rfl, hg, hh, h1, h2, h3, h4⟩
  · simp [Value.ownBlock] at hv
  · have hgg : g' = g := by simpa [Value.ownBlock] using hv
    subst hgg
    refine ⟨cap, rfl, h1, ⟨⟨cur, hh, fun i hi => ?_⟩⟩⟩
    have hr := hrep.2 i _ (List.getElem?_eq_getElem hi)
    obtain ⟨u, hu, hRu⟩ := hr
    have hil : i < inner.length := by have := hrep.1; simp [Kd.slice] at this; omega
    have hu2 : inner[i] = u := by
      have hu' : (inner.drop (i * 1)).take 1 = [u] := hu
      rw [Nat.mul_one, List.drop_eq_getElem_cons hil] at hu'
      have h5 := congrArg List.head? hu'
      rw [List.take_succ_cons] at h5
      exact Option.some.inj h5
    refine ⟨u, ?_, ?_⟩
    · have h6 : (cur.toList.take (xs.length * 1))[i]? = inner[i]? := by
        have := h4; simp only [Kd.slice] at this; rw [this]
      rw [List.getElem?_take, if_pos (by omega), List.getElem?_eq_getElem hil, hu2] at h6
      simpa using h6
    · obtain ⟨A, c, e, hl, hC⟩ := Kd.R_reads hRu
      refine ⟨A, c, e, hl, hC, fun _ ad hA => ?_⟩
      have hob : u.ownBlock = some ad.block := by rw [e, hA]; simp [Value.ownBlock]
      have hok := hRu.1 ad.block hob
      have hown := Kd.own_of_R hRu
      refine ⟨hok.1, fun e2 => hok.2 (by rw [e2]; simp [Value.ownBlock]), ?_⟩
      rcases hown.2 with ⟨h7, _⟩ | ⟨g2, _, _, h7, _⟩
      · rw [e, hA] at h7; cases h7
      · rw [e, hA] at h7; cases h7; rfl
set_option maxHeartbeats 16000000 in
set_option maxRecDepth 100000 in
theorem fresh_any {w : World} (A0 : Option Addr) (c0 : Nat) (vals : List (List Int)) (Ac : Option Addr) (nc cc : Nat) (hC : Kd.C (Kd.slice 3 (Kd.int .i64)) w A0 vals.length vals) (hl : vals.length ≤ 60) (hls : ∀ i : Nat, i < vals.length → (rd_L1 vals i).length ≤ 200) :
    Calls Tryd.prog 23 #[.agg #[.slice A0 vals.length c0, .slice Ac nc cc]] w fun e w' => ∃ a g, e = .returned (.pointer (some ⟨a, 0, none⟩)) ∧ Net w' a g (.slice A0 vals.length c0, .slice Ac nc cc) vals ∧ w.heap.size ≤ a ∧ w.heap.size ≤ g ∧ Below w.heap.size w w' := by
  have hu54 := Tryd.underlying54
  have hu25 := Tryd.underlying25
  have HC := Aside0.mk hC
  have HL := Aside0.mk hl
  have HLS := Aside0.mk hls
  clear hC hl hls
  go_enter Tryd.func23, Tryd.ntmps23
  go_wp2
  go_loopw [12] (fun v12 wr => ∃ (i : Nat) (v : Value), i ≤ vals.length ∧ v12 = .int .i64 i ∧ Aside0 (wr.heap[w.heap.size + 1]? = some (.cells #[.slice A0 vals.length c0, .slice Ac nc cc, v] 54 (0, 0))) ∧ Aside0 (Kd.R (Kd.slice 3 (Kd.int .i64)) 26 wr w.heap.size (fun k => k ≠ w.heap.size + 1) v (vals.take i)) ∧ Aside0 (Below w.heap.size w wr) ∧ Aside0 (w.heap.size + 2 ≤ wr.heap.size)) (fun v12 _ => vals.length - (intOf v12).toNat)
  case atStart =>
    have h2 := blk_new (w.alloc (.cells #[.slice A0 vals.length c0, .slice Ac nc cc] 25)) (.cells #[.slice A0 vals.length c0, .slice Ac nc cc, .slice none 0 0] 54)
    rw [show (w.alloc (.cells #[.slice A0 vals.length c0, .slice Ac nc cc] 25)).heap.size = w.heap.size + 1 from by simp only [World.alloc, Array.size_push]] at h2
    exact ⟨0, _, Nat.zero_le _, rfl, ⟨h2⟩, ⟨by simpa using Kd.R_nil (Kd.slice 3 (Kd.int .i64)) 26 _ _ _⟩, ⟨below_alloc (below_alloc (Below.refl _ _) _) _⟩, ⟨by simp only [World.alloc, Array.size_push]; omega⟩⟩
  case round =>
    obtain ⟨i, v, hi, rfl, HBK, HR, HB, HSZ⟩ := hrel
    obtain ⟨w1, rfl⟩ : ∃ w1 : World, w1 = wr := ⟨_, rfl⟩
    by_cases hlt : i < vals.length
    · obtain ⟨ad, Al, cl, e, hrow, hll, hCl⟩ := at_L1 HC.out (i : Int) (by omega) (by omega)
      cases e
      simp only [Int.toNat_natCast] at hrow
      replace hrow := (HB.out.cell (World.block_lt_of_cell? w _ hrow)).trans hrow
      have HCl := Aside0.mk (Kd.C_below hCl HB.out)
      have HLl := Aside0.mk (HLS.out i hlt)
      have HTK := Aside0.mk (tookL1 hlt)
      have HLT := Aside0.mk hlt
      obtain ⟨l, el⟩ : ∃ l, l = rd_L1 vals i := ⟨_, rfl⟩
      rw [← el] at hrow HCl HLl HTK
      obtain ⟨q, eq⟩ : ∃ q, q = vals.take i := ⟨_, rfl⟩
      rw [← eq] at HR HTK
      have HQL := Aside0.mk (show q.length ≤ i by rw [eq]; simp; omega)
      obtain ⟨Av, cv, rfl⟩ := Kd.R_slice HR.out
      have h2c : w1.cell? ⟨w.heap.size + 1, 2, none⟩ = some (.slice Av q.length cv) := by simpa using blk_cell HBK.out 2
      have h2f := blk_frozen HBK.out 2
      have HW := Aside0.mk (show wrap64 ((i : Int) + 1) = ((i + 1 : Nat) : Int) by have := HL.out; unfold wrap64; omega)
      have HOK := Aside0.mk (show ∀ k, w1.heap.size ≤ k → k ≠ w.heap.size + 1 ∧ some k ≠ (Value.slice Av q.length cv).ownBlock from fun k hk => ⟨by have := HSZ.out; omega, fun e => by have := Kd.R_lt HR.out k e.symm; omega⟩)
      clear hCl hll el eq
      go_wp2_with fail
      go_region_law ((first | (go_simp; go_at_call 27; (with_reducible refine (cloneI_any Al cl l _ ?hC1 HLl.out).mono ?_); (case hC1 => (with_reducible repeat (first | apply Kd.C_drewN | apply Kd.C_drew)); exact HCl.out); rintro e w2 ⟨v', rfl, hR2, hb2⟩; have HR2 := Aside0.mk hR2; have HB2 := Aside0.mk (below_step (below_drew (Below.refl _ w1)) hb2); have H2c := Aside0.mk ((HB2.out.block _ (blk_lt HBK.out)).trans HBK.out); obtain ⟨A8, c8, rfl⟩ := Kd.R_slice hR2; have HR2' := Aside0.mk (Kd.R_lower (Kd.R_mono (Kd.R_bound hR2) (fun k hk => (hk.2.1 : w1.heap.size ≤ k))) (show w.heap.size ≤ w1.heap.size from HB.out.size)); clear hR2 hb2 h2c h2f; have h2c : w2.cell? ⟨w.heap.size + 1, 2, none⟩ = some (.slice Av q.length cv) := (by simpa using blk_cell H2c.out 2); have h2f := blk_frozen H2c.out 2; have h2ca := Lib.cell?_alloc_some (.cells #[.slice A8 l.length c8] 26) h2c) | (refine Kd.R_append_step (P := Tryd.prog) (Kd.slice 3 (Kd.int .i64)) (w0 := w) (W := w2) w.heap.size rfl (.tmp 20) (.tmp 23) 22 26 (.slice none 0 0) 24 rfl Tryd.underlying22 info26 rfl (by decide) (by decide) (.slice Av q.length cv) q l [.slice A8 l.length c8] (fun k => k ≠ w.heap.size + 1) (fun k => w1.heap.size ≤ k) (by simp [Act.eval, Act.put]) (by simp [Act.eval, Act.put]) ⟨_, rfl, HR2'.out⟩ ?o1 ?o2 ?o3 ?o4 ?o5 ?o6 ?_; (case o1 => exact HOK.out); (case o2 => exact fun k hk => by have := HB2.out.size; have := HSZ.out; omega); (case o3 => exact Kd.R_below HR.out HB2.out); (case o4 => exact HB.out.trans (HB2.out.mono HB.out.size)); (case o5 => have := HB2.out.size; have := HB.out.size; omega); (case o6 => have := HQL.out; have := HL.out; have := HLT.out; omega); intro v1 w3 hR3 hB3 hG3 hAt3; obtain ⟨A9, c9, rfl⟩ := Kd.R_slice hR3; have HR3 := Aside0.mk hR3; have HB3 := Aside0.mk hB3; have HG3 := Aside0.mk hG3; have H3b := Aside0.mk (blk_grown H2c.out hG3 (Kd.R_ne (Kd.R_below HR.out HB2.out) H2c.out (by decide))); clear hR3 hB3 hG3 hAt3 h2c h2f h2ca; have h2c : w3.cell? ⟨w.heap.size + 1, 2, none⟩ = some (.slice Av q.length cv) := (by simpa using blk_cell H3b.out 2); have h2f := blk_frozen H3b.out 2)))
      all_goals
        clear h2c h2f
        go_wp2
        have hw := HW.out
        go_roundw
        case rel =>
          refine ⟨i + 1, .slice A9 (q.length + 1) c9, by have := HLT.out; omega, by rw [hw], ⟨blk_put H3b.out 2 _ rfl⟩, ⟨?_⟩, ⟨(HB3.out).setCell (p := ⟨w.heap.size + 1, 2, none⟩) (by show w.heap.size ≤ w.heap.size + 1; omega) _⟩, ⟨by have := HG3.out.size; have := HB2.out.size; have := HSZ.out; simp only [World.setCell, Array.size_modify]; omega⟩⟩
          rw [HTK.out]
          have h3 := HR3.out
          rw [List.length_append, List.length_singleton] at h3
          exact Kd.R_far (p := ⟨w.heap.size + 1, 2, none⟩) h3 (fun k hk => hk) _
        case measure => rw [hw]; have := HLT.out; simp [intOf]; omega
    · obtain rfl : i = vals.length := by omega
      go_wp2
      go_ret
      have hR := HR.out
      rw [List.take_length] at hR
      by_cases hv : vals = []
      · obtain ⟨Av, cv, rfl⟩ := Kd.R_slice hR
        exact ⟨w.heap.size + 1, w.heap.size, rfl, ⟨⟨Av, cv, HBK.out, (Kd.R_reads' hR).2.1, fun h => absurd hv h⟩, fun h => absurd hv h, by omega, by have := HSZ.out; omega, by have := HSZ.out; omega⟩, by omega, Nat.le_refl _, HB.out⟩
      · obtain ⟨g, hg⟩ : ∃ g, v.ownBlock = some g := by
          obtain ⟨inner, ho⟩ := Kd.R_own hR
          rcases ho.2 with ⟨rfl, h0⟩ | ⟨g, cap, cur, rfl, _⟩
          · have h1 := ho.1
            rw [h0] at h1
            have := List.length_pos_iff.2 hv
            simp [Kd.slice] at h1; omega
          · exact ⟨g, by simp [Value.ownBlock]⟩
        have hgb := Kd.R_base hR g hg
        have hgl := Kd.R_lt hR g hg
        have hga := hR.1 g hg
        obtain ⟨c, rfl, hc, hrow⟩ := row_of_R (a := w.heap.size + 1) hR hg
        obtain ⟨cells, er, hcs⟩ := hrow.ex
        exact ⟨w.heap.size + 1, g, rfl, ⟨⟨_, c, HBK.out, hc, fun _ => rfl⟩, fun _ => ⟨cells, er, hcs⟩, fun e => hga e.symm, by have := HSZ.out; omega, hgl⟩, by omega, hgb, HB.out⟩
end Go.Proofs.YtehekppkicjimaaDoor.QFK
