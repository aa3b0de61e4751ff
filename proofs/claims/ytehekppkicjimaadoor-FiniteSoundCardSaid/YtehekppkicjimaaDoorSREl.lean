/- The walk of (*net).element: a rule that keeps what is sound. Conditions: the constraint is well formed, no list is empty. -/
import Derived.Test.YtehekppkicjimaaDoorSStep
import Derived.RegionTactic
import Derived.ChangeAlike
import Derived.StillTailTactics
namespace Go.Proofs.YtehekppkicjimaaDoor.QFK
open Go.RowKit Go.Proofs.YtehekppkicjimaaDoorW.PrintWords Go.Proofs.YtehekppkicjimaaDoorW.PrintLast Go.Proofs.YtehekppkicjimaaDoorW.PrintMore
open Go.Deep
set_option linter.unusedVariables false
set_option linter.unusedSimpArgs false
theorem drop2_of (A : Option Addr) (c : Nat) (xs : List Int) (hc : xs.length ≤ c) (h2 : 2 ≤ xs.length) :
    ∃ A2 c2, (∀ W : World, (Instr.slice 26 (.slice A xs.length c) (some (.int .i64 2)) none none).run Tryd.prog W = .ok (.slice A2 (xs.drop 2).length c2) W) ∧ (∀ w : World, Kd.C (Kd.int .i64) w A xs.length xs → Kd.C (Kd.int .i64) w A2 (xs.drop 2).length (xs.drop 2)) ∧ (xs.drop 2).length ≤ c2 ∧ ∀ ad2, A2 = some ad2 → ∃ ad, A = some ad ∧ ad2.block = ad.block := by
  refine ⟨if c = 2 then A else A.map (·.add (2 * 1)), c - 2, fun W => ?_, fun w hC => ?_, by rw [List.length_drop]; omega, fun ad2 e => ?_⟩
  · have hel : Tryd.prog.elem 26 = 3 := by simp [Program.elem, Tryd.underlying26]
    have hu : Tryd.prog.underlying 26 = some (.slice (Tryd.prog.elem 26)) := by rw [hel]; exact Tryd.underlying26
    rw [run_slice_l W 26 A xs.length c hu .i64 2 (by omega) (by omega), hel, Tryd.sizeOf3]
    simp [sliced, Result.andThen]
  · have h := Kd.reads_of_C (d := (0 : Int)) hC
    refine Kd.C_of_reads (d := (0 : Int)) ⟨rfl, by rw [List.length_drop]; have := h.2.1; omega, fun hn => ?_⟩
    obtain ⟨ad, rfl, hcell⟩ := h.2.2 (by omega)
    rw [List.length_drop] at hn
    refine ⟨ad.add 2, by rw [if_neg (by omega)]; rfl, fun j hj => ?_⟩
    rw [List.length_drop] at hj
    have := hcell (2 + j) (by omega)
    have e1 : (ad.add 2).add j = ad.add (2 + j) := by simp [Addr.add]; split <;> simp [Addr.add, *] <;> omega
    rw [e1, this]
    simp [List.getD_eq_getElem?_getD]
  · split at e
    · exact ⟨ad2, e, rfl⟩
    · cases A with
      | none => simp at e
      | some ad => simp at e; exact ⟨ad, rfl, by rw [← e]; simp [Addr.add]⟩
theorem five (w : World) (c0 c1 x y z : Obj) : let W := (((((w.alloc c0).alloc c1).alloc x).alloc y).alloc z).drew
    W.heap[w.heap.size]? = some c0 ∧ W.heap[w.heap.size + 1]? = some c1 ∧ W.heap[w.heap.size + 1 + 1]? = some x ∧ W.heap[w.heap.size + 1 + 1 + 1]? = some y ∧ W.heap[w.heap.size + 1 + 1 + 1 + 1]? = some z ∧ Below w.heap.size w W := by
  have e1 : (w.alloc c0).heap.size = w.heap.size + 1 := by simp only [World.alloc, Array.size_push]
  have e2 : ((w.alloc c0).alloc c1).heap.size = w.heap.size + 1 + 1 := by simp only [World.alloc, Array.size_push]
  have e3 : (((w.alloc c0).alloc c1).alloc x).heap.size = w.heap.size + 1 + 1 + 1 := by simp only [World.alloc, Array.size_push]
  have e4 : ((((w.alloc c0).alloc c1).alloc x).alloc y).heap.size = w.heap.size + 1 + 1 + 1 + 1 := by simp only [World.alloc, Array.size_push]
  refine ⟨blk_drew (blk_alloc (blk_alloc (blk_alloc (blk_alloc (blk_new w c0) _) _) _) _), ?_, ?_, ?_, ?_, below_drew (below_alloc (below_alloc (below_alloc (below_alloc (below_alloc (Below.refl _ _) _) _) _) _) _)⟩
  · rw [← e1]; exact blk_drew (blk_alloc (blk_alloc (blk_alloc (blk_new _ c1) _) _) _)
  · rw [← e2]; exact blk_drew (blk_alloc (blk_alloc (blk_new _ x) _) _)
  · rw [← e3]; exact blk_drew (blk_alloc (blk_new _ y) _)
  · rw [← e4]; exact blk_drew (blk_new _ z)
set_option maxHeartbeats 16000000 in
set_option maxRecDepth 100000 in
theorem element_any {w : World} {a g : Nat} {h : Value × Value} {L : List (List Int)} (N : Net w a g h L) (kd lim : Int) (A1 : Option Addr) (c1 : Nat) (vars : List Int) (v2 v3 v5_ : Value)
    (hC1 : Kd.C (Kd.int .i64) w A1 vars.length vars) (hc1 : vars.length ≤ c1) (hf1 : vars ≠ [] → ∀ ad, A1 = some ad → ad.block ≠ a ∧ ad.block ≠ g)
    (hv : vars.length ≤ 60) (h2 : 2 ≤ vars.length) (hin : ∀ v ∈ vars, 0 ≤ v ∧ v < L.length) (hlen : ∀ k, (rd_L1 L k).length ≤ 200) (hL : L.length ≤ 60) (hne : ∀ k : Int, 0 ≤ k → k < L.length → 0 < (rd_L1 L k).length)
    (sound : List Int → Prop) (hs : ∀ x, sound x → 0 ≤ rd x (rd vars 0) ∧ rd x (rd vars 0) < (vars.length : Int) - 2 ∧ rd x (rd vars (2 + rd x (rd vars 0))) = rd x (rd vars 1)) :
    Calls Tryd.prog 111 #[.pointer (some ⟨a, 0, none⟩), .agg #[.int .i64 kd, .slice A1 vars.length c1, v2, v3, .int .i64 lim, v5_]] w fun e w' =>
      ∃ b L', e = .returned (.bool b) ∧ Net w' a g h L' ∧ Fr w w' a g ∧ Red sound L L' b := by
  have hu44 := Tryd.underlying44
  have hu54 := Tryd.underlying54
  obtain ⟨A2, c2, hcut, hcutC, hcutc, hcutb⟩ := drop2_of A1 c1 vars hc1 h2
  obtain ⟨ad, e, hcv0⟩ := Kd.at_int hC1 (0 : Int) (by omega) (by omega)
  cases e
  obtain ⟨ad', e, hcv1⟩ := Kd.at_int hC1 (1 : Int) (by omega) (by omega)
  cases e
  simp only [Int.toNat_zero, show Int.toNat 1 = 1 from rfl] at hcv0 hcv1
  have hk0 : ((0 : Int) < (vars.length : Int)) = True := eq_true (by omega)
  have hk1 : ((1 : Int) < (vars.length : Int)) = True := eq_true (by omega)
  have hkn0 : (0 < vars.length) = True := eq_true (by omega)
  have hkn1 : (1 < vars.length) = True := eq_true (by omega)
  have HFL := Aside0.mk (show ∀ ad2, A2 = some ad2 → ad2.block ≠ a ∧ ad2.block ≠ g by
    intro ad2 e
    obtain ⟨ad3, e3, e4⟩ := hcutb ad2 e
    rw [e4]; exact hf1 (by rintro rfl; simp at h2) ad3 e3)
  clear hcutb
  have HN := Aside0.mk N
  have HC1 := Aside0.mk hC1
  have HF1 := Aside0.mk hf1
  have HIN := Aside0.mk hin
  have HS := Aside0.mk hs
  have HV := Aside0.mk hv
  have HLEN := Aside0.mk hlen
  have HLL := Aside0.mk hL
  have H2 := Aside0.mk h2
  have HNE := Aside0.mk hne
  have HCUTC := Aside0.mk hcutC
  have HCUTc := Aside0.mk hcutc
  obtain ⟨l, el⟩ : ∃ l, l = vars.drop 2 := ⟨_, rfl⟩
  rw [← el] at hcut HCUTC HCUTc
  have EL := Aside0.mk el
  clear N hC1 hc1 hf1 hin hlen hs hv hL h2 hcutC hcutc el hne
  replace hcv0 : w.cell? ad = some (.int .i64 (rd vars 0)) := by simpa [Addr.add] using hcv0
  replace hcv1 : w.cell? ⟨ad.block, ad.off + 1, none⟩ = some (.int .i64 (rd vars 1)) := by simpa [Addr.add] using hcv1
  have hcwp0 : ((w.alloc (.cells #[.pointer (some ⟨a, 0, none⟩)] 51)).alloc (.cells #[.int .i64 kd, .slice (some ad) vars.length c1, v2, v3, .int .i64 lim, v5_] 44)).cell? ad = some (.int .i64 (rd vars 0)) := (Lib.cell?_alloc_some _ (Lib.cell?_alloc_some _ hcv0))
  have hcwp1 : ∀ o1 : Obj, (((w.alloc (.cells #[.pointer (some ⟨a, 0, none⟩)] 51)).alloc (.cells #[.int .i64 kd, .slice (some ad) vars.length c1, v2, v3, .int .i64 lim, v5_] 44)).alloc o1).cell? ad = some (.int .i64 (rd vars 0)) := fun o1 => (Lib.cell?_alloc_some o1 (Lib.cell?_alloc_some _ (Lib.cell?_alloc_some _ hcv0)))
  have hcwp2 : ∀ o1 o2 : Obj, ((((w.alloc (.cells #[.pointer (some ⟨a, 0, none⟩)] 51)).alloc (.cells #[.int .i64 kd, .slice (some ad) vars.length c1, v2, v3, .int .i64 lim, v5_] 44)).alloc o1).alloc o2).cell? ad = some (.int .i64 (rd vars 0)) := fun o1 o2 => (Lib.cell?_alloc_some o2 (Lib.cell?_alloc_some o1 (Lib.cell?_alloc_some _ (Lib.cell?_alloc_some _ hcv0))))
  have hcwp3 : ∀ o1 o2 o3 : Obj, (((((w.alloc (.cells #[.pointer (some ⟨a, 0, none⟩)] 51)).alloc (.cells #[.int .i64 kd, .slice (some ad) vars.length c1, v2, v3, .int .i64 lim, v5_] 44)).alloc o1).alloc o2).alloc o3).cell? ad = some (.int .i64 (rd vars 0)) := fun o1 o2 o3 => (Lib.cell?_alloc_some o3 (Lib.cell?_alloc_some o2 (Lib.cell?_alloc_some o1 (Lib.cell?_alloc_some _ (Lib.cell?_alloc_some _ hcv0)))))
  have hcwq0 : ((w.alloc (.cells #[.pointer (some ⟨a, 0, none⟩)] 51)).alloc (.cells #[.int .i64 kd, .slice (some ad) vars.length c1, v2, v3, .int .i64 lim, v5_] 44)).cell? ⟨ad.block, ad.off + 1, none⟩ = some (.int .i64 (rd vars 1)) := (Lib.cell?_alloc_some _ (Lib.cell?_alloc_some _ hcv1))
  have hcwq1 : ∀ o1 : Obj, (((w.alloc (.cells #[.pointer (some ⟨a, 0, none⟩)] 51)).alloc (.cells #[.int .i64 kd, .slice (some ad) vars.length c1, v2, v3, .int .i64 lim, v5_] 44)).alloc o1).cell? ⟨ad.block, ad.off + 1, none⟩ = some (.int .i64 (rd vars 1)) := fun o1 => (Lib.cell?_alloc_some o1 (Lib.cell?_alloc_some _ (Lib.cell?_alloc_some _ hcv1)))
  have hcwq2 : ∀ o1 o2 : Obj, ((((w.alloc (.cells #[.pointer (some ⟨a, 0, none⟩)] 51)).alloc (.cells #[.int .i64 kd, .slice (some ad) vars.length c1, v2, v3, .int .i64 lim, v5_] 44)).alloc o1).alloc o2).cell? ⟨ad.block, ad.off + 1, none⟩ = some (.int .i64 (rd vars 1)) := fun o1 o2 => (Lib.cell?_alloc_some o2 (Lib.cell?_alloc_some o1 (Lib.cell?_alloc_some _ (Lib.cell?_alloc_some _ hcv1))))
  have hcwq3 : ∀ o1 o2 o3 : Obj, (((((w.alloc (.cells #[.pointer (some ⟨a, 0, none⟩)] 51)).alloc (.cells #[.int .i64 kd, .slice (some ad) vars.length c1, v2, v3, .int .i64 lim, v5_] 44)).alloc o1).alloc o2).alloc o3).cell? ⟨ad.block, ad.off + 1, none⟩ = some (.int .i64 (rd vars 1)) := fun o1 o2 o3 => (Lib.cell?_alloc_some o3 (Lib.cell?_alloc_some o2 (Lib.cell?_alloc_some o1 (Lib.cell?_alloc_some _ (Lib.cell?_alloc_some _ hcv1)))))
  clear hcv0 hcv1
  go_enter Tryd.func111, Tryd.ntmps111
  go_upto_region 1 with fail
  go_cut [5, 6, 7] (fun v5 v6 v7 wc => ∃ g5 g6 g7 : Nat, v5 = .pointer (some ⟨g5, 0, none⟩) ∧ v6 = .pointer (some ⟨g6, 0, none⟩) ∧ v7 = .pointer (some ⟨g7, 0, none⟩) ∧ Aside0 (wc.heap[g5]? = some (.cells #[.int .i64 (rd vars 0)] 3 (0, 0))) ∧ Aside0 (wc.heap[g6]? = some (.cells #[.int .i64 (rd vars 1)] 3 (0, 0))) ∧ Aside0 (wc.heap[g7]? = some (.cells #[.slice A2 l.length c2] 26 (0, 0))) ∧ Aside0 (wc.heap[w.heap.size]? = some (.cells #[.pointer (some ⟨a, 0, none⟩)] 51 (0, 0))) ∧ Aside0 (w.heap.size ≤ g5 ∧ w.heap.size ≤ g6 ∧ w.heap.size ≤ g7) ∧ Aside0 (Below w.heap.size w wc))
  case first =>
    go_region
    all_goals (go_wp2; go_meet; case rel => exact ⟨_, _, _, rfl, rfl, rfl, ⟨by first | exact (five w _ _ _ _ _).2.2.1 | exact (five w _ _ _ _ _).2.2.2.1 | exact (five w _ _ _ _ _).2.2.2.2.1⟩, ⟨by first | exact (five w _ _ _ _ _).2.2.1 | exact (five w _ _ _ _ _).2.2.2.1 | exact (five w _ _ _ _ _).2.2.2.2.1⟩, ⟨by first | exact (five w _ _ _ _ _).2.2.1 | exact (five w _ _ _ _ _).2.2.2.1 | exact (five w _ _ _ _ _).2.2.2.2.1⟩, ⟨(five w _ _ _ _ _).1⟩, ⟨by omega⟩, ⟨(five w _ _ _ _ _).2.2.2.2.2⟩⟩)
  case rest =>
    obtain ⟨g5, g6, g7, rfl, rfl, rfl, H5, H6, H7, H0, HGE, HB⟩ := hcut
    rename_i wc
    obtain ⟨w1, rfl⟩ : ∃ w1 : World, w1 = wc := ⟨_, rfl⟩
    obtain ⟨k0, ek0⟩ : ∃ k0, k0 = rd vars 0 := ⟨_, rfl⟩
    obtain ⟨k1, ek1⟩ : ∃ k1, k1 = rd vars 1 := ⟨_, rfl⟩
    rw [← ek0] at H5
    rw [← ek1] at H6
    have b0 : 0 ≤ k0 ∧ k0 < L.length := by rw [ek0]; exact HIN.out _ (by have := H2.out; have e := @rd_in vars 0 (by omega); simp only [Int.natCast_zero] at e; rw [e]; exact List.getElem_mem _)
    have b1 : 0 ≤ k1 ∧ k1 < L.length := by rw [ek1]; exact HIN.out _ (by have := H2.out; have e := @rd_in vars 1 (by omega); rw [show ((1 : Nat) : Int) = 1 from rfl] at e; rw [e]; exact List.getElem_mem _)
    have hlin : ∀ i ∈ l, 0 ≤ i ∧ i < L.length := fun i hi => HIN.out i (by rw [EL.out] at hi; exact List.mem_of_mem_drop hi)
    have hll : l.length ≤ 200 := by rw [EL.out, List.length_drop]; have := HV.out; omega
    have hlv : ∀ i : Int, 0 ≤ i → i < l.length → rd l i = rd vars (2 + i) := by
      intro i h0 h1
      obtain ⟨m, rfl⟩ : ∃ m : Nat, i = m := ⟨i.toNat, by omega⟩
      have hm2 : 2 + m < vars.length := by rw [EL.out, List.length_drop] at h1; omega
      rw [rd_in (by omega), show (2 : Int) + (m : Int) = ((2 + m : Nat) : Int) by omega, rd_in hm2]
      simp [EL.out]
    have hll2 : (l.length : Int) = vars.length - 2 := by rw [EL.out, List.length_drop]; have := H2.out; omega
    have hs : ∀ x, sound x → 0 ≤ rd x k0 ∧ rd x k0 < l.length ∧ rd x (rd l (rd x k0)) = rd x k1 := by
      intro x hx
      obtain ⟨s1, s2, s3⟩ := HS.out x hx
      rw [← ek0, ← ek1] at s3
      rw [← ek0] at s1 s2
      refine ⟨s1, by omega, ?_⟩
      rw [hlv _ s1 (by omega)]; exact s3
    have HlIN := Aside0.mk hlin
    have HlL := Aside0.mk hll
    have HSS := Aside0.mk hs
    have B0 := Aside0.mk b0
    have B1 := Aside0.mk b1
    clear hlin hll hs b0 b1 hlv hll2 ek0 ek1
    have N1 := HN.out.below HB.out
    have hCl := Kd.C_below (HCUTC.out w HC1.out) HB.out
    have c5 : w1.cell? ⟨g5, 0, none⟩ = some (.int .i64 k0) := by simpa using blk_cell H5.out 0
    have c6 : w1.cell? ⟨g6, 0, none⟩ = some (.int .i64 k1) := by simpa using blk_cell H6.out 0
    have c7 : w1.cell? ⟨g7, 0, none⟩ = some (.slice A2 l.length c2) := by simpa using blk_cell H7.out 0
    have cn : w1.cell? ⟨w.heap.size, 0, none⟩ = some (.pointer (some ⟨a, 0, none⟩)) := by simpa using blk_cell H0.out 0
    have mem_in : ∀ {M : List (List Int)} {k : Int} {x : List Int}, 0 ≤ k → k < M.length → (∀ i : Nat, i < M.length → rd x i ∈ rd_L1 M i) → rd x k ∈ rd_L1 M k := by
      intro M k x h0 h1 hx
      have := hx k.toNat (by omega)
      rwa [show ((k.toNat : Nat) : Int) = k by omega] at this
    -- the first keep
    obtain ⟨bb1, L2, hK1, R1, hq1⟩ := keep_step N1 k0 B0.out.1 B0.out.2 112 #[.pointer (some ⟨g7, 0, none⟩), .pointer (some ⟨w.heap.size, 0, none⟩), .pointer (some ⟨g6, 0, none⟩)] (fun i => decide (0 ≤ i) && decide (i < l.length) && (rd_L1 L (rd l i)).any fun v => (rd_L1 L k1).contains v) HLEN.out (enters_ Tryd.func112 (by kernel_rfl) (by kernel_rfl))
      (fun v W hv hW => (el1_any (N1.below hW) g7 w.heap.size g6 k1 v A2 c2 l ((hW.cell (World.block_lt_of_cell? w1 _ cn)).trans cn) ((hW.cell (World.block_lt_of_cell? w1 _ c6)).trans c6) ((hW.cell (World.block_lt_of_cell? w1 _ c7)).trans c7) (Kd.C_below hCl hW) B1.out.1 B1.out.2 HlIN.out HLEN.out HlL.out).mono (by
        rintro e w' ⟨rfl, ⟨n, rfl⟩⟩
        exact ⟨rfl, pw_below_drewN (Below.refl _ _) _⟩)) sound (fun x hx hin => by
        obtain ⟨s1, s2, s3⟩ := HSS.out x hx
        have hli := HlIN.out (rd l (rd x k0)) (by
          obtain ⟨m, hm⟩ : ∃ m : Nat, rd x k0 = m := ⟨(rd x k0).toNat, by omega⟩
          rw [hm] at s2 ⊢
          rw [rd_in (by omega)]; exact List.getElem_mem _)
        rw [decide_eq_true s1, decide_eq_true s2, Bool.true_and, Bool.true_and, List.any_eq_true]
        exact ⟨_, mem_in hli.1 hli.2 hin, by rw [List.contains_iff_mem, s3]; exact mem_in B1.out.1 B1.out.2 hin⟩)
    have hq : ∀ i ∈ rd_L1 L2 k0, 0 ≤ i ∧ i < l.length := by
      intro i hi
      have := (hq1 i hi).2
      simp only [Bool.and_eq_true, decide_eq_true_eq] at this
      exact this.1
    have hLne : L ≠ [] := by intro e; have h1 := B0.out.2; rw [e] at h1; simp at h1; have := B0.out.1; omega
    have HFAR : Aside0 (∀ (W W' : World), Fr W W' a g → ∀ (gg : Nat) (o : Obj), W.heap[gg]? = some o → w.heap.size ≤ gg → W'.heap[gg]? = some o) :=
      ⟨fun W W' hF gg o hb hge => (hF.block _ (blk_lt hb) (by have := HN.out.lt; omega) (by have := HN.out.hg hLne; omega)).trans hb⟩
    have HQ1 := Aside0.mk hq
    have HK1 := Aside0.mk hK1
    have R1' := Aside0.mk R1
    have HMEM := Aside0.mk @mem_in
    have B0' := Aside0.mk (show 0 ≤ k0 ∧ k0 < L2.length from Red.inR R1 B0.out.1 B0.out.2)
    have B1' := Aside0.mk (show 0 ≤ k1 ∧ k1 < L2.length from Red.inR R1 B1.out.1 B1.out.2)
    have HCl := Aside0.mk hCl
    have HLEN2 := Aside0.mk (R1.lens HLEN.out)
    have HLIN2 := Aside0.mk (show ∀ i ∈ l, 0 ≤ i ∧ i < L2.length from fun i hi => Red.inR R1 (HlIN.out i hi).1 (HlIN.out i hi).2)
    clear hq hq1 hK1 R1 N1 hCl mem_in c6 c7 hLne
    by_cases hz : (rd_L1 L2 k0).length = 0
    · have hzb : (((rd_L1 L2 k0).length : Int) == 0) = true := by simp [hz]
      have HZ := Aside0.mk hz
      clear hz
      have HBB := Aside0.mk (show bb1 = true by
        cases e : bb1 with
        | true => rfl
        | false =>
          have := HNE.out k0 B0.out.1 B0.out.2
          have h3 := R1'.out.same e
          rw [← h3] at this
          have := HZ.out; omega)
      go_wp2_with (go_at_call 104; (with_reducible refine (HK1.out _ ?hb).mono ?_); (case hb => repeat (first | exact Below.refl _ _ | apply below_drew | apply pw_below_drewN)); rintro e w2 ⟨rfl, hn, hf⟩; have HN2 := Aside0.mk hn; have HF2 := Aside0.mk hf; clear hn hf c5 cn; have c5 : w2.cell? ⟨g5, 0, none⟩ = some (.int .i64 k0) := (by simpa using blk_cell (HFAR.out _ _ HF2.out _ _ H5.out HGE.out.1) 0); have cn : w2.cell? ⟨w.heap.size, 0, none⟩ = some (.pointer (some ⟨a, 0, none⟩)) := (by simpa using blk_cell (HFAR.out _ _ HF2.out _ _ H0.out (Nat.le_refl _)) 0); obtain ⟨Aq, capq, A1q, c1q, eblkq, eAq, ecellq, hlq, hCq⟩ := HN2.out.at k0 B0'.out.1 B0'.out.2; cases eAq; have hc2q : w2.cell? ⟨a, 2, none⟩ = some (.slice (some ⟨g, 0, none⟩) L2.length capq) := (by simpa using blk_cell eblkq 2); have hkk0 := eq_true B0'.out.1; have hkk1 : (k0 < (L2.length : Int)) = True := eq_true B0'.out.2; clear eblkq hlq hCq)
      go_quiet (fail)
      go_wp2
      go_ret
      refine ⟨true, L2, rfl, HN2.out.drewN _, ?_, by have := R1'.out; rw [HBB.out] at this; exact this⟩
      exact ((Fr.of_below HB.out a g).trans HF2.out (.inl rfl)).trans (Fr.of_below (pw_below_drewN (Below.refl _ _) _) a g) (.inl rfl)
    · have hzb : (((rd_L1 L2 k0).length : Int) == 0) = false := beq_eq_false_iff_ne.2 (by omega)
      clear hz
      go_wp2_with (go_at_call 104; (with_reducible refine (HK1.out _ ?hb).mono ?_); (case hb => repeat (first | exact Below.refl _ _ | apply below_drew | apply pw_below_drewN)); rintro e w2 ⟨rfl, hn, hf⟩; have HN2 := Aside0.mk hn; have HF2 := Aside0.mk hf; clear hn hf c5 cn; have c5 : w2.cell? ⟨g5, 0, none⟩ = some (.int .i64 k0) := (by simpa using blk_cell (HFAR.out _ _ HF2.out _ _ H5.out HGE.out.1) 0); have cn : w2.cell? ⟨w.heap.size, 0, none⟩ = some (.pointer (some ⟨a, 0, none⟩)) := (by simpa using blk_cell (HFAR.out _ _ HF2.out _ _ H0.out (Nat.le_refl _)) 0); obtain ⟨Aq, capq, A1q, c1q, eblkq, eAq, ecellq, hlq, hCq⟩ := HN2.out.at k0 B0'.out.1 B0'.out.2; cases eAq; have hc2q : w2.cell? ⟨a, 2, none⟩ = some (.slice (some ⟨g, 0, none⟩) L2.length capq) := (by simpa using blk_cell eblkq 2); have hkk0 := eq_true B0'.out.1; have hkk1 : (k0 < (L2.length : Int)) = True := eq_true B0'.out.2; clear eblkq hlq hCq)
      go_quiet (fail)
      clear hc2q ecellq hkk0 hkk1 hzb
      have hK0 := HFAR.out _ _ HF2.out _ _ H0.out (Nat.le_refl _)
      have hK5 := HFAR.out _ _ HF2.out _ _ H5.out HGE.out.1
      have hK6 := HFAR.out _ _ HF2.out _ _ H6.out HGE.out.2.1
      have hK7 := HFAR.out _ _ HF2.out _ _ H7.out HGE.out.2.2
      have c6 : w2.cell? ⟨g6, 0, none⟩ = some (.int .i64 k1) := by simpa using blk_cell hK6 0
      have c7 : w2.cell? ⟨g7, 0, none⟩ = some (.slice A2 l.length c2) := by simpa using blk_cell hK7 0
      obtain ⟨W2, eW2⟩ : ∃ W2 : World, W2 = w2.drewN nq := ⟨_, rfl⟩
      have hF02 := ((Fr.of_below HB.out a g).trans HF2.out (.inl rfl)).trans (Fr.of_below (pw_below_drewN (Below.refl _ w2) nq) a g) (.inl rfl)
      have N2 := HN2.out.drewN nq
      rw [← eW2] at hF02 N2 ⊢
      replace c5 : W2.cell? ⟨g5, 0, none⟩ = some (.int .i64 k0) := by rw [eW2]; exact c5
      replace c6 : W2.cell? ⟨g6, 0, none⟩ = some (.int .i64 k1) := by rw [eW2]; exact c6
      replace c7 : W2.cell? ⟨g7, 0, none⟩ = some (.slice A2 l.length c2) := by rw [eW2]; exact c7
      replace cn : W2.cell? ⟨w.heap.size, 0, none⟩ = some (.pointer (some ⟨a, 0, none⟩)) := by rw [eW2]; exact cn
      replace hK0 : W2.heap[w.heap.size]? = some (.cells #[.pointer (some ⟨a, 0, none⟩)] 51 (0, 0)) := by rw [eW2]; exact hK0
      replace hK5 : W2.heap[g5]? = some (.cells #[.int .i64 k0] 3 (0, 0)) := by rw [eW2]; exact hK5
      replace hK6 : W2.heap[g6]? = some (.cells #[.int .i64 k1] 3 (0, 0)) := by rw [eW2]; exact hK6
      replace hK7 : W2.heap[g7]? = some (.cells #[.slice A2 l.length c2] 26 (0, 0)) := by rw [eW2]; exact hK7
      have hCl2 := Kd.C_below (C_fr HF2.out HCl.out (fun _ => HFL.out)) (pw_below_drewN (Below.refl _ w2) nq)
      rw [← eW2] at hCl2
      obtain ⟨bb2, L3, hK2, R2, hq2⟩ := keep_step N2 k1 B1'.out.1 B1'.out.2 115 #[.pointer (some ⟨w.heap.size, 0, none⟩), .pointer (some ⟨g5, 0, none⟩), .pointer (some ⟨g7, 0, none⟩)] (fun v => (rd_L1 L2 k0).any fun i => (rd_L1 L2 (rd l i)).contains v) HLEN2.out (enters_ Tryd.func115 (by kernel_rfl) (by kernel_rfl))
        (fun v W hv hW => el2_any (N2.below hW) w.heap.size g5 g7 k0 v A2 c2 l ((hW.cell (World.block_lt_of_cell? W2 _ cn)).trans cn) ((hW.cell (World.block_lt_of_cell? W2 _ c5)).trans c5) ((hW.cell (World.block_lt_of_cell? W2 _ c7)).trans c7) (Kd.C_below hCl2 hW) B0'.out.1 B0'.out.2 HQ1.out HLIN2.out HLEN2.out) sound (fun x hx hin => by
          obtain ⟨s1, s2, s3⟩ := HSS.out x hx
          have hli := HLIN2.out (rd l (rd x k0)) (by
            obtain ⟨m, hm⟩ : ∃ m : Nat, rd x k0 = m := ⟨(rd x k0).toNat, by omega⟩
            rw [hm] at s2 ⊢
            rw [rd_in (by omega)]; exact List.getElem_mem _)
          rw [List.any_eq_true]
          exact ⟨_, HMEM.out B0'.out.1 B0'.out.2 hin, by rw [List.contains_iff_mem, ← s3]; exact HMEM.out hli.1 hli.2 hin⟩)
      have HK2 := Aside0.mk hK2
      have R2' := Aside0.mk R2
      have HF02 := Aside0.mk hF02
      have HK_0 := Aside0.mk hK0
      have HK_5 := Aside0.mk hK5
      have HK_6 := Aside0.mk hK6
      have HK_7 := Aside0.mk hK7
      have HCl2 := Aside0.mk hCl2
      have B0'' := Aside0.mk (show 0 ≤ k0 ∧ k0 < L3.length from Red.inR R2 B0'.out.1 B0'.out.2)
      have B1'' := Aside0.mk (show 0 ≤ k1 ∧ k1 < L3.length from Red.inR R2 B1'.out.1 B1'.out.2)
      have HLEN3 := Aside0.mk (R2.lens HLEN2.out)
      have HLIN3 := Aside0.mk (show ∀ i ∈ l, 0 ≤ i ∧ i < L3.length from fun i hi => Red.inR R2 (HLIN2.out i hi).1 (HLIN2.out i hi).2)
      have HQ3 := Aside0.mk (show ∀ i ∈ rd_L1 L3 k0, 0 ≤ i ∧ i < l.length from fun i hi => HQ1.out i (by
        have h := (R2.sub k0.toNat (by have := B0'.out; omega)).subset
        rw [show ((k0.toNat : Nat) : Int) = k0 by have := B0'.out; omega] at h
        exact h hi))
      clear hK2 R2 hq2 hF02 hK0 hK5 hK6 hK7 hCl2 N2 eW2 c7
      cases bb2 with
      | true =>
        by_cases hone : (rd_L1 L3 k0).length = 1
        · have hzb : (((rd_L1 L3 k0).length : Int) == 1) = true := by simp [hone]
          have HONE := Aside0.mk hone
          clear hone
          go_wp2_with (go_at_call 104; (with_reducible refine (HK2.out _ ?hb).mono ?_); (case hb => repeat (first | exact Below.refl _ _ | apply below_drew | apply pw_below_drewN)); rintro e w3 ⟨rfl, hn, hf⟩; have HN3 := Aside0.mk hn; have HF3 := Aside0.mk hf; clear hn hf c5 cn c6; have c5 : w3.cell? ⟨g5, 0, none⟩ = some (.int .i64 k0) := (by simpa using blk_cell (HFAR.out _ _ HF3.out _ _ HK_5.out HGE.out.1) 0); have c7 : w3.cell? ⟨g7, 0, none⟩ = some (.slice A2 l.length c2) := (by simpa using blk_cell (HFAR.out _ _ HF3.out _ _ HK_7.out HGE.out.2.2) 0); have cn : w3.cell? ⟨w.heap.size, 0, none⟩ = some (.pointer (some ⟨a, 0, none⟩)) := (by simpa using blk_cell (HFAR.out _ _ HF3.out _ _ HK_0.out (Nat.le_refl _)) 0); obtain ⟨Aq, capq, A1q, c1q, eblkq, eAq, ecellq, hlq, hCq⟩ := HN3.out.at k0 B0''.out.1 B0''.out.2; cases eAq; have hc2q : w3.cell? ⟨a, 2, none⟩ = some (.slice (some ⟨g, 0, none⟩) L3.length capq) := (by simpa using blk_cell eblkq 2); have hkk0 := eq_true B0''.out.1; have hkk1 : (k0 < (L3.length : Int)) = True := eq_true B0''.out.2; clear eblkq)
          go_quiet (fail)
          obtain ⟨m0, em0⟩ : ∃ m0, m0 = rd (rd_L1 L3 k0) 0 := ⟨_, rfl⟩
          obtain ⟨ad3, e3, hcm⟩ := Kd.at_int hCq (0 : Int) (by omega) (by have := HONE.out; omega)
          cases e3
          replace hcm : w3.cell? ad3 = some (.int .i64 m0) := by rw [em0]; simpa [Addr.add] using hcm
          have hm0mem : m0 ∈ rd_L1 L3 k0 := by rw [em0]; have := HONE.out; have e := @rd_in (rd_L1 L3 k0) 0 (by omega); simp only [Int.natCast_zero] at e; rw [e]; exact List.getElem_mem _
          have hm0 := HQ3.out m0 hm0mem
          have hCl3 := C_fr HF3.out HCl2.out (fun _ => HFL.out)
          obtain ⟨ad4, e4, hcl⟩ := Kd.at_int hCl3 m0 hm0.1 hm0.2
          cases e4
          obtain ⟨k3, ek3⟩ : ∃ k3, k3 = rd l m0 := ⟨_, rfl⟩
          rw [← ek3] at hcl
          have hk3 : 0 ≤ k3 ∧ k3 < L3.length := by
            rw [ek3]
            refine HLIN3.out _ ?_
            obtain ⟨m, rfl⟩ : ∃ m : Nat, m0 = m := ⟨m0.toNat, by omega⟩
            rw [rd_in (by omega)]; exact List.getElem_mem _
          have hH0 := HFAR.out _ _ HF3.out _ _ HK_0.out (Nat.le_refl _)
          have hH6 := HFAR.out _ _ HF3.out _ _ HK_6.out HGE.out.2.1
          have c6 : w3.cell? ⟨g6, 0, none⟩ = some (.int .i64 k1) := by simpa using blk_cell hH6 0
          obtain ⟨bb3, L4, hK3, R3, hq3⟩ := keep_step HN3.out k3 hk3.1 hk3.2 117 #[.pointer (some ⟨w.heap.size, 0, none⟩), .pointer (some ⟨g6, 0, none⟩)] (fun v => (rd_L1 L3 k1).contains v) HLEN3.out (enters_ Tryd.func117 (by kernel_rfl) (by kernel_rfl))
            (fun v W hv hW => (el3_any (HN3.out.below hW) w.heap.size g6 v k1 ((hW.cell (World.block_lt_of_cell? w3 _ cn)).trans cn) ((hW.cell (World.block_lt_of_cell? w3 _ c6)).trans c6) B1''.out.1 B1''.out.2 (HLEN3.out k1)).mono (by
              rintro e w' ⟨rfl, ⟨n, rfl⟩⟩
              exact ⟨rfl, pw_below_drewN (Below.refl _ _) _⟩)) sound (fun x hx hin => by
              obtain ⟨s1, s2, s3⟩ := HSS.out x hx
              have hx0 : rd x k0 = m0 := by
                have h1 := HMEM.out B0''.out.1 B0''.out.2 hin
                obtain ⟨y, hy⟩ := List.length_eq_one_iff.1 HONE.out
                rw [hy, List.mem_singleton] at h1 hm0mem
                rw [h1, hm0mem]
              rw [hx0, ← ek3] at s3
              rw [List.contains_iff_mem, s3]
              exact HMEM.out B1''.out.1 B1''.out.2 hin)
          have HK3 := Aside0.mk hK3
          have R3' := Aside0.mk R3
          have hm1 := eq_true hm0.1
          have hm2 := eq_true hm0.2
          have hkz : ((0 : Int) < ((rd_L1 L3 k0).length : Int)) = True := eq_true (by have := HONE.out; omega)
          have hkzn : (0 < (rd_L1 L3 k0).length) = True := eq_true (by have := HONE.out; omega)
          clear hK3 R3 hq3 hm0mem hm0 hCl3 hk3 hH0 hH6 c6 hCq hlq em0 ek3 hzb
          obtain ⟨w5, ew5⟩ : ∃ w5 : World, w5 = (w3.drewN nq).drew := ⟨_, rfl⟩
          have f5 : w5.cell? ⟨g5, 0, none⟩ = some (.int .i64 k0) := by rw [ew5]; exact c5
          have f7 : w5.cell? ⟨g7, 0, none⟩ = some (.slice (some ad4) l.length c2) := by rw [ew5]; exact c7
          have fn : w5.cell? ⟨w.heap.size, 0, none⟩ = some (.pointer (some ⟨a, 0, none⟩)) := by rw [ew5]; exact cn
          have fa : w5.cell? ⟨a, 2, none⟩ = some (.slice (some ⟨g, 0, none⟩) L3.length capq) := by rw [ew5]; exact hc2q
          have fg : w5.cell? ⟨g, k0.toNat, none⟩ = some (.slice (some ad3) (rd_L1 L3 k0).length c1q) := by rw [ew5]; exact ecellq
          have fm : w5.cell? ad3 = some (.int .i64 m0) := by rw [ew5]; exact hcm
          have fl : w5.cell? (ad4.add m0.toNat) = some (.int .i64 k3) := by rw [ew5]; exact hcl
          go_wp2
          refine wp_region_still_tail 14 (by kernel_rfl) (by kernel_rfl) ?_
          change wpStill _ _ (w3.drewN nq).drew (fun a' => wpList _ _ _ _ a' (w3.drewN nq).drew) _ _
          rw [← ew5]
          have HB35 := Aside0.mk (show Below w3.heap.size w3 w5 by rw [ew5]; exact below_drew (pw_below_drewN (Below.refl _ _) _))
          clear ew5 c7 cn hc2q ecellq hcm hcl
          simp only [List.take_succ_cons, List.take_zero, List.drop_succ_cons, List.drop_zero]
          repeat still_step
          refine wpStill_nil ?_
          cases bb3 with
          | true =>
            go_wp2_with (go_at_call 104; (with_reducible refine (HK3.out _ HB35.out).mono ?_); rintro e w4 ⟨rfl, hn, hf⟩; have HN4 := Aside0.mk hn; have HF4 := Aside0.mk hf; clear hn hf)
            go_ret
            refine ⟨true, L4, rfl, HN4.out, ((HF02.out.trans HF3.out (.inl rfl)).trans (Fr.of_below HB35.out a g) (.inl rfl)).trans HF4.out (.inl rfl), ?_⟩
            have := (R1'.out.trans R2'.out).trans R3'.out
            simpa using this
          | false =>
            go_wp2_with (go_at_call 104; (with_reducible refine (HK3.out _ HB35.out).mono ?_); rintro e w4 ⟨rfl, hn, hf⟩; have HN4 := Aside0.mk hn; have HF4 := Aside0.mk hf; clear hn hf)
            go_ret
            refine ⟨true, L4, rfl, HN4.out, ((HF02.out.trans HF3.out (.inl rfl)).trans (Fr.of_below HB35.out a g) (.inl rfl)).trans HF4.out (.inl rfl), ?_⟩
            have := (R1'.out.trans R2'.out).trans R3'.out
            simpa using this
        · have hzb : (((rd_L1 L3 k0).length : Int) == 1) = false := beq_eq_false_iff_ne.2 (by omega)
          clear hone
          go_wp2_with (go_at_call 104; (with_reducible refine (HK2.out _ ?hb).mono ?_); (case hb => repeat (first | exact Below.refl _ _ | apply below_drew | apply pw_below_drewN)); rintro e w3 ⟨rfl, hn, hf⟩; have HN3 := Aside0.mk hn; have HF3 := Aside0.mk hf; clear hn hf c5 cn c6; have c5 : w3.cell? ⟨g5, 0, none⟩ = some (.int .i64 k0) := (by simpa using blk_cell (HFAR.out _ _ HF3.out _ _ HK_5.out HGE.out.1) 0); have c7 : w3.cell? ⟨g7, 0, none⟩ = some (.slice A2 l.length c2) := (by simpa using blk_cell (HFAR.out _ _ HF3.out _ _ HK_7.out HGE.out.2.2) 0); have cn : w3.cell? ⟨w.heap.size, 0, none⟩ = some (.pointer (some ⟨a, 0, none⟩)) := (by simpa using blk_cell (HFAR.out _ _ HF3.out _ _ HK_0.out (Nat.le_refl _)) 0); obtain ⟨Aq, capq, A1q, c1q, eblkq, eAq, ecellq, hlq, hCq⟩ := HN3.out.at k0 B0''.out.1 B0''.out.2; cases eAq; have hc2q : w3.cell? ⟨a, 2, none⟩ = some (.slice (some ⟨g, 0, none⟩) L3.length capq) := (by simpa using blk_cell eblkq 2); have hkk0 := eq_true B0''.out.1; have hkk1 : (k0 < (L3.length : Int)) = True := eq_true B0''.out.2; clear eblkq hlq hCq)
          go_quiet (fail)
          go_wp2
          go_ret
          refine ⟨true, L3, rfl, HN3.out.drewN _, (HF02.out.trans HF3.out (.inl rfl)).trans (Fr.of_below (pw_below_drewN (Below.refl _ _) _) a g) (.inl rfl), ?_⟩
          have := R1'.out.trans R2'.out
          simpa using this
      | false =>
        by_cases hone : (rd_L1 L3 k0).length = 1
        · have hzb : (((rd_L1 L3 k0).length : Int) == 1) = true := by simp [hone]
          have HONE := Aside0.mk hone
          clear hone
          go_wp2_with (go_at_call 104; (with_reducible refine (HK2.out _ ?hb).mono ?_); (case hb => repeat (first | exact Below.refl _ _ | apply below_drew | apply pw_below_drewN)); rintro e w3 ⟨rfl, hn, hf⟩; have HN3 := Aside0.mk hn; have HF3 := Aside0.mk hf; clear hn hf c5 cn c6; have c5 : w3.cell? ⟨g5, 0, none⟩ = some (.int .i64 k0) := (by simpa using blk_cell (HFAR.out _ _ HF3.out _ _ HK_5.out HGE.out.1) 0); have c7 : w3.cell? ⟨g7, 0, none⟩ = some (.slice A2 l.length c2) := (by simpa using blk_cell (HFAR.out _ _ HF3.out _ _ HK_7.out HGE.out.2.2) 0); have cn : w3.cell? ⟨w.heap.size, 0, none⟩ = some (.pointer (some ⟨a, 0, none⟩)) := (by simpa using blk_cell (HFAR.out _ _ HF3.out _ _ HK_0.out (Nat.le_refl _)) 0); obtain ⟨Aq, capq, A1q, c1q, eblkq, eAq, ecellq, hlq, hCq⟩ := HN3.out.at k0 B0''.out.1 B0''.out.2; cases eAq; have hc2q : w3.cell? ⟨a, 2, none⟩ = some (.slice (some ⟨g, 0, none⟩) L3.length capq) := (by simpa using blk_cell eblkq 2); have hkk0 := eq_true B0''.out.1; have hkk1 : (k0 < (L3.length : Int)) = True := eq_true B0''.out.2; clear eblkq)
          go_quiet (fail)
          obtain ⟨m0, em0⟩ : ∃ m0, m0 = rd (rd_L1 L3 k0) 0 := ⟨_, rfl⟩
          obtain ⟨ad3, e3, hcm⟩ := Kd.at_int hCq (0 : Int) (by omega) (by have := HONE.out; omega)
          cases e3
          replace hcm : w3.cell? ad3 = some (.int .i64 m0) := by rw [em0]; simpa [Addr.add] using hcm
          have hm0mem : m0 ∈ rd_L1 L3 k0 := by rw [em0]; have := HONE.out; have e := @rd_in (rd_L1 L3 k0) 0 (by omega); simp only [Int.natCast_zero] at e; rw [e]; exact List.getElem_mem _
          have hm0 := HQ3.out m0 hm0mem
          have hCl3 := C_fr HF3.out HCl2.out (fun _ => HFL.out)
          obtain ⟨ad4, e4, hcl⟩ := Kd.at_int hCl3 m0 hm0.1 hm0.2
          cases e4
          obtain ⟨k3, ek3⟩ : ∃ k3, k3 = rd l m0 := ⟨_, rfl⟩
          rw [← ek3] at hcl
          have hk3 : 0 ≤ k3 ∧ k3 < L3.length := by
            rw [ek3]
            refine HLIN3.out _ ?_
            obtain ⟨m, rfl⟩ : ∃ m : Nat, m0 = m := ⟨m0.toNat, by omega⟩
            rw [rd_in (by omega)]; exact List.getElem_mem _
          have hH0 := HFAR.out _ _ HF3.out _ _ HK_0.out (Nat.le_refl _)
          have hH6 := HFAR.out _ _ HF3.out _ _ HK_6.out HGE.out.2.1
          have c6 : w3.cell? ⟨g6, 0, none⟩ = some (.int .i64 k1) := by simpa using blk_cell hH6 0
          obtain ⟨bb3, L4, hK3, R3, hq3⟩ := keep_step HN3.out k3 hk3.1 hk3.2 117 #[.pointer (some ⟨w.heap.size, 0, none⟩), .pointer (some ⟨g6, 0, none⟩)] (fun v => (rd_L1 L3 k1).contains v) HLEN3.out (enters_ Tryd.func117 (by kernel_rfl) (by kernel_rfl))
            (fun v W hv hW => (el3_any (HN3.out.below hW) w.heap.size g6 v k1 ((hW.cell (World.block_lt_of_cell? w3 _ cn)).trans cn) ((hW.cell (World.block_lt_of_cell? w3 _ c6)).trans c6) B1''.out.1 B1''.out.2 (HLEN3.out k1)).mono (by
              rintro e w' ⟨rfl, ⟨n, rfl⟩⟩
              exact ⟨rfl, pw_below_drewN (Below.refl _ _) _⟩)) sound (fun x hx hin => by
              obtain ⟨s1, s2, s3⟩ := HSS.out x hx
              have hx0 : rd x k0 = m0 := by
                have h1 := HMEM.out B0''.out.1 B0''.out.2 hin
                obtain ⟨y, hy⟩ := List.length_eq_one_iff.1 HONE.out
                rw [hy, List.mem_singleton] at h1 hm0mem
                rw [h1, hm0mem]
              rw [hx0, ← ek3] at s3
              rw [List.contains_iff_mem, s3]
              exact HMEM.out B1''.out.1 B1''.out.2 hin)
          have HK3 := Aside0.mk hK3
          have R3' := Aside0.mk R3
          have hm1 := eq_true hm0.1
          have hm2 := eq_true hm0.2
          have hkz : ((0 : Int) < ((rd_L1 L3 k0).length : Int)) = True := eq_true (by have := HONE.out; omega)
          have hkzn : (0 < (rd_L1 L3 k0).length) = True := eq_true (by have := HONE.out; omega)
          clear hK3 R3 hq3 hm0mem hm0 hCl3 hk3 hH0 hH6 c6 hCq hlq em0 ek3 hzb
          obtain ⟨w5, ew5⟩ : ∃ w5 : World, w5 = (w3.drewN nq).drew := ⟨_, rfl⟩
          have f5 : w5.cell? ⟨g5, 0, none⟩ = some (.int .i64 k0) := by rw [ew5]; exact c5
          have f7 : w5.cell? ⟨g7, 0, none⟩ = some (.slice (some ad4) l.length c2) := by rw [ew5]; exact c7
          have fn : w5.cell? ⟨w.heap.size, 0, none⟩ = some (.pointer (some ⟨a, 0, none⟩)) := by rw [ew5]; exact cn
          have fa : w5.cell? ⟨a, 2, none⟩ = some (.slice (some ⟨g, 0, none⟩) L3.length capq) := by rw [ew5]; exact hc2q
          have fg : w5.cell? ⟨g, k0.toNat, none⟩ = some (.slice (some ad3) (rd_L1 L3 k0).length c1q) := by rw [ew5]; exact ecellq
          have fm : w5.cell? ad3 = some (.int .i64 m0) := by rw [ew5]; exact hcm
          have fl : w5.cell? (ad4.add m0.toNat) = some (.int .i64 k3) := by rw [ew5]; exact hcl
          go_wp2
          refine wp_region_still_tail 14 (by kernel_rfl) (by kernel_rfl) ?_
          change wpStill _ _ (w3.drewN nq).drew (fun a' => wpList _ _ _ _ a' (w3.drewN nq).drew) _ _
          rw [← ew5]
          have HB35 := Aside0.mk (show Below w3.heap.size w3 w5 by rw [ew5]; exact below_drew (pw_below_drewN (Below.refl _ _) _))
          clear ew5 c7 cn hc2q ecellq hcm hcl
          simp only [List.take_succ_cons, List.take_zero, List.drop_succ_cons, List.drop_zero]
          repeat still_step
          refine wpStill_nil ?_
          cases bb3 with
          | true =>
            go_wp2_with (go_at_call 104; (with_reducible refine (HK3.out _ HB35.out).mono ?_); rintro e w4 ⟨rfl, hn, hf⟩; have HN4 := Aside0.mk hn; have HF4 := Aside0.mk hf; clear hn hf)
            go_ret
            refine ⟨true, L4, rfl, HN4.out, ((HF02.out.trans HF3.out (.inl rfl)).trans (Fr.of_below HB35.out a g) (.inl rfl)).trans HF4.out (.inl rfl), ?_⟩
            have := (R1'.out.trans R2'.out).trans R3'.out
            simpa using this
          | false =>
            go_wp2_with (go_at_call 104; (with_reducible refine (HK3.out _ HB35.out).mono ?_); rintro e w4 ⟨rfl, hn, hf⟩; have HN4 := Aside0.mk hn; have HF4 := Aside0.mk hf; clear hn hf)
            go_ret
            refine ⟨bb1, L4, rfl, HN4.out, ((HF02.out.trans HF3.out (.inl rfl)).trans (Fr.of_below HB35.out a g) (.inl rfl)).trans HF4.out (.inl rfl), ?_⟩
            have := (R1'.out.trans R2'.out).trans R3'.out
            simpa using this
        · have hzb : (((rd_L1 L3 k0).length : Int) == 1) = false := beq_eq_false_iff_ne.2 (by omega)
          clear hone
          go_wp2_with (go_at_call 104; (with_reducible refine (HK2.out _ ?hb).mono ?_); (case hb => repeat (first | exact Below.refl _ _ | apply below_drew | apply pw_below_drewN)); rintro e w3 ⟨rfl, hn, hf⟩; have HN3 := Aside0.mk hn; have HF3 := Aside0.mk hf; clear hn hf c5 cn c6; have c5 : w3.cell? ⟨g5, 0, none⟩ = some (.int .i64 k0) := (by simpa using blk_cell (HFAR.out _ _ HF3.out _ _ HK_5.out HGE.out.1) 0); have c7 : w3.cell? ⟨g7, 0, none⟩ = some (.slice A2 l.length c2) := (by simpa using blk_cell (HFAR.out _ _ HF3.out _ _ HK_7.out HGE.out.2.2) 0); have cn : w3.cell? ⟨w.heap.size, 0, none⟩ = some (.pointer (some ⟨a, 0, none⟩)) := (by simpa using blk_cell (HFAR.out _ _ HF3.out _ _ HK_0.out (Nat.le_refl _)) 0); obtain ⟨Aq, capq, A1q, c1q, eblkq, eAq, ecellq, hlq, hCq⟩ := HN3.out.at k0 B0''.out.1 B0''.out.2; cases eAq; have hc2q : w3.cell? ⟨a, 2, none⟩ = some (.slice (some ⟨g, 0, none⟩) L3.length capq) := (by simpa using blk_cell eblkq 2); have hkk0 := eq_true B0''.out.1; have hkk1 : (k0 < (L3.length : Int)) = True := eq_true B0''.out.2; clear eblkq hlq hCq)
          go_quiet (fail)
          go_wp2
          go_ret
          refine ⟨bb1, L3, rfl, HN3.out.drewN _, (HF02.out.trans HF3.out (.inl rfl)).trans (Fr.of_below (pw_below_drewN (Below.refl _ _) _) a g) (.inl rfl), ?_⟩
          have := R1'.out.trans R2'.out
          simpa using this
end Go.Proofs.YtehekppkicjimaaDoor.QFK
