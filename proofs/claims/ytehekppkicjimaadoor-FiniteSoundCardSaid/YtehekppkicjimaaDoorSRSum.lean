/- The walk of (*net).sum: a rule that keeps what is sound. Conditions: the constraint is well formed, no list is empty. -/
import Derived.Test.YtehekppkicjimaaDoorSRul
import Derived.RegionTactic
import Derived.ChangeAlike
import Derived.Deep.RegionLaw
import Derived.Deep.RegionWith
namespace Go.Proofs.YtehekppkicjimaaDoor.QFK
open Go.RowKit Go.Proofs.YtehekppkicjimaaDoorW.PrintWords Go.Proofs.YtehekppkicjimaaDoorW.PrintLast Go.Proofs.YtehekppkicjimaaDoorW.PrintMore
open Go.Deep
set_option linter.unusedVariables false
set_option linter.unusedSimpArgs false
theorem max2_i (k k' : IntKind) (x y : Int) : Builtin.max2 (.int k x) (.int k' y) = pure (.int k (if x < y then y else x)) := by simp only [Builtin.max2]
attribute [local go_sem] max2_i min2_int max_two min_two
set_option maxHeartbeats 16000000 in
set_option maxRecDepth 100000 in
theorem sum_any {w : World} {a g : Nat} {h : Value × Value} {L : List (List Int)} (N : Net w a g h L) (kd lim : Int) (A1 : Option Addr) (c1 : Nat) (vars : List Int) (A2 : Option Addr) (c2 : Nat) (nums : List Int) (v3 v5_ : Value)
    (hC1 : Kd.C (Kd.int .i64) w A1 vars.length vars) (hf1 : vars ≠ [] → ∀ ad, A1 = some ad → ad.block ≠ a ∧ ad.block ≠ g) (hC2 : Kd.C (Kd.int .i64) w A2 nums.length nums) (hf2 : nums ≠ [] → ∀ ad, A2 = some ad → ad.block ≠ a ∧ ad.block ≠ g)
    (hv : vars.length ≤ 60) (hn : nums.length = vars.length) (hin : ∀ v ∈ vars, 0 ≤ v ∧ v < L.length) (bn : ∀ x ∈ nums, -100000000 ≤ x ∧ x ≤ 100000000) (bl : -100000000 ≤ lim ∧ lim ≤ 100000000) (G : Good1 L) (hne : ∀ i : Nat, i < L.length → 0 < (rd_L1 L i).length) (hL : L.length ≤ 60)
    (sound : List Int → Prop) (hs : ∀ x, sound x → (List.zipWith (· * ·) nums (vars.map fun i => rd x i)).sum = lim) :
    Calls Tryd.prog 101 #[.pointer (some ⟨a, 0, none⟩), .agg #[.int .i64 kd, .slice A1 vars.length c1, .slice A2 nums.length c2, v3, .int .i64 lim, v5_]] w fun e w' =>
      ∃ b L', e = .returned (.bool b) ∧ Net w' a g h L' ∧ Fr w w' a g ∧ Red sound L L' b := by
  have hu44 := Tryd.underlying44
  have hu54 := Tryd.underlying54
  have HN := Aside0.mk N
  have HC1 := Aside0.mk hC1
  have HC2 := Aside0.mk hC2
  have HF1 := Aside0.mk hf1
  have HF2 := Aside0.mk hf2
  have HIN := Aside0.mk hin
  have BN := Aside0.mk bn
  have HG := Aside0.mk G
  have HNE := Aside0.mk hne
  have HS := Aside0.mk hs
  have HV := Aside0.mk hv
  have HNL := Aside0.mk hn
  have BL := Aside0.mk bl
  have HLL := Aside0.mk hL
  clear N hC1 hC2 hf1 hf2 hin bn G hne hs hv hn bl hL
  go_enter Tryd.func101, Tryd.ntmps101
  go_wp2
  go_loopw [17, 5] (fun v17 v5 wr => ∃ (i : Nat) (b : Bool) (Lk : List (List Int)), i ≤ vars.length ∧ v17 = .int .i64 i ∧ v5 = .bool b ∧
      Aside0 (wr.heap[w.heap.size]? = some (.cells #[.int .i64 kd, .slice A1 vars.length c1, .slice A2 nums.length c2, v3, .int .i64 lim, v5_] 44 (0, 0))) ∧
      Aside0 (Net wr a g h Lk) ∧ Aside0 (Fr w wr a g) ∧ Aside0 (Red sound L Lk b) ∧ Aside0 (∀ i : Nat, i < Lk.length → 0 < (rd_L1 Lk i).length))
    (fun v17 _ _ => vars.length - (intOf v17).toNat)
  case atStart =>
    refine ⟨0, false, L, Nat.zero_le _, rfl, rfl, ⟨blk_new _ _⟩, ⟨HN.out.below (below_alloc (Below.refl _ _) _)⟩, ⟨Fr.of_below (below_alloc (Below.refl _ _) _) _ _⟩, ⟨Red.refl _ _⟩, ⟨HNE.out⟩⟩
  case round =>
    obtain ⟨i, b, Lk, hi, rfl, rfl, HC, HNk, HFR, HRED, HNEk⟩ := hrel
    obtain ⟨w1, rfl⟩ : ∃ w1 : World, w1 = wr := ⟨_, rfl⟩
    have HI := Aside0.mk hi
    by_cases hlt : i < vars.length
    · have hc1f := C_fr HFR.out HC1.out HF1.out
      obtain ⟨ad, e, hcv⟩ := Kd.at_int hc1f (i : Int) (by omega) (by omega)
      cases e
      simp only [Int.toNat_natCast] at hcv
      have HC1F := Aside0.mk hc1f
      clear hc1f
      have hcc1 : w1.cell? ⟨w.heap.size, 1, none⟩ = some (.slice (some ad) vars.length c1) := by simpa using blk_cell HC.out 1
      have hcc2 : w1.cell? ⟨w.heap.size, 2, none⟩ = some (.slice A2 nums.length c2) := by simpa using blk_cell HC.out 2
      have hsz := blk_lt HC.out
      have hb3 := blk_alloc (blk_alloc (blk_alloc HC.out (.cells #[.int .i64 i] 3)) (.cells #[.int .i64 0] 3)) (.cells #[.int .i64 0] 3)
      have hcc3 : (((w1.alloc (.cells #[.int .i64 i] 3)).alloc (.cells #[.int .i64 0] 3)).alloc (.cells #[.int .i64 0] 3)).cell? ⟨w.heap.size, 1, none⟩ = some (.slice (some ad) vars.length c1) := blk_cell hb3 1
      clear hb3
      go_wp2
      clear hcc3 hcv hcc1 hcc2
      go_loopw [25] (fun v25 wq => ∃ (j : Nat), j ≤ vars.length ∧ v25 = .int .i64 j ∧ Aside0 (wq.heap[w1.heap.size]? = some (.cells #[.int .i64 i] 3 (0, 0))) ∧ Aside0 (wq.heap[w1.heap.size + 1]? = some (.cells #[.int .i64 (partLo nums vars Lk i j)] 3 (0, 0))) ∧
          Aside0 (wq.heap[w1.heap.size + 1 + 1]? = some (.cells #[.int .i64 (partHi nums vars Lk i j)] 3 (0, 0))) ∧ Aside0 (Below w1.heap.size w1 wq))
        (fun v25 _ => vars.length - (intOf v25).toNat)
      case atStart =>
        refine ⟨0, Nat.zero_le _, rfl, ⟨blk_alloc (blk_alloc (blk_new _ _) _) _⟩, ⟨?_⟩, ⟨?_⟩, ⟨below_alloc (below_alloc (below_alloc (Below.refl _ _) _) _) _⟩⟩
        · have := blk_alloc (blk_new (w1.alloc (.cells #[.int .i64 i] 3)) (.cells #[.int .i64 0] 3)) (.cells #[.int .i64 0] 3)
          rwa [show (w1.alloc (.cells #[.int .i64 i] 3)).heap.size = w1.heap.size + 1 from by simp only [World.alloc, Array.size_push]] at this
        · have := blk_new ((w1.alloc (.cells #[.int .i64 i] 3)).alloc (.cells #[.int .i64 0] 3)) (.cells #[.int .i64 0] 3)
          rwa [show ((w1.alloc (.cells #[.int .i64 i] 3)).alloc (.cells #[.int .i64 0] 3)).heap.size = w1.heap.size + 1 + 1 from by simp only [World.alloc, Array.size_push]] at this
      case round =>
        obtain ⟨j, hj, rfl, H6, H8, H9, HBQ⟩ := hrel
        obtain ⟨wq, rfl⟩ : ∃ wq : World, wq = wr := ⟨_, rfl⟩
        have HJ := Aside0.mk hj
        by_cases hjl : j < vars.length
        · have hcvj := Kd.at_int HC1F.out (j : Int) (by omega) (by omega)
          obtain ⟨_, e, hcv⟩ := hcvj
          cases e
          simp only [Int.toNat_natCast] at hcv
          replace hcv := (HBQ.out.cell (World.block_lt_of_cell? w1 _ hcv)).trans hcv
          have h6c : wq.cell? ⟨w1.heap.size, 0, none⟩ = some (.int .i64 i) := by simpa using blk_cell H6.out 0
          by_cases hji : j = i
          · subst hji
            go_wp2
            have hw : wrap64 ((j : Int) + 1) = ((j + 1 : Nat) : Int) := by have := HV.out; unfold wrap64; omega
            go_roundw
            case rel => exact ⟨j + 1, by omega, by rw [hw], ⟨H6.out⟩, ⟨by have := H8.out; simpa [partLo] using this⟩, ⟨by have := H9.out; simpa [partHi] using this⟩, HBQ⟩
            case measure => rw [hw]; simp [intOf]; omega
          · have hjb : ((j : Int) == (i : Int)) = false := by simp; omega
            have HJI := Aside0.mk hji
            have hlen : nums.length = vars.length := HNL.out
            have hc2f := Kd.C_below (C_fr HFR.out HC2.out HF2.out) HBQ.out
            obtain ⟨ad2, e2, hcn⟩ := Kd.at_int hc2f (j : Int) (by omega) (by omega)
            cases e2
            simp only [Int.toNat_natCast] at hcn
            have hkq := HIN.out (rd vars j) (by simp [rd, hjl])
            have hLk : Lk.length = L.length := HRED.out.len
            have NQ := HNk.out.below HBQ.out
            have HNQ := Aside0.mk NQ
            have hcq := (HBQ.out.block _ (blk_lt HC.out)).trans HC.out
            have hcc2 : wq.cell? ⟨w.heap.size, 2, none⟩ = some (.slice (some ad2) nums.length c2) := by simpa using blk_cell hcq 2
            have HCQ := Aside0.mk hcq
            have h8c : wq.cell? ⟨w1.heap.size + 1, 0, none⟩ = some (.int .i64 (partLo nums vars Lk i j)) := by simpa using blk_cell H8.out 0
            have h9c : wq.cell? ⟨w1.heap.size + 1 + 1, 0, none⟩ = some (.int .i64 (partHi nums vars Lk i j)) := by simpa using blk_cell H9.out 0
            have HK := Aside0.mk hkq
            have HLEN := Aside0.mk hlen
            clear hlen
            have HLK := Aside0.mk hLk
            have hjn : ((j : Int) < (nums.length : Int)) = True := eq_true (by have := HLEN.out; omega)
            clear NQ hcq hkq hLk hc2f
            obtain ⟨lo, elo⟩ : ∃ lo, lo = rd (rd_L1 Lk (rd vars j)) 0 := ⟨_, rfl⟩
            obtain ⟨hi9, ehi⟩ : ∃ x, x = rd (rd_L1 Lk (rd vars j)) (((rd_L1 Lk (rd vars j)).length - 1 : Nat) : Int) := ⟨_, rfl⟩
            have ELO := Aside0.mk elo
            have EHI := Aside0.mk ehi
            have GK := HRED.out.good HG.out
            have b1 : -100000000 ≤ lo ∧ lo ≤ 100000000 := by rw [elo]; exact rd_bd (B := 100000000) (by decide) (GK.bd _) 0
            have b2 : -100000000 ≤ hi9 ∧ hi9 ≤ 100000000 := by rw [ehi]; exact rd_bd (B := 100000000) (by decide) (GK.bd _) _
            have b3 := rd_bd (B := 100000000) (by decide) BN.out j
            have m1 := mul_bd _ _ b3 b1
            have m2 := mul_bd _ _ b3 b2
            have w1_ : IntKind.i64.wrap (rd nums j * lo) = rd nums j * lo := i64_mid (by omega) (by omega)
            have w2_ : IntKind.i64.wrap (rd nums j * hi9) = rd nums j * hi9 := i64_mid (by omega) (by omega)
            have M1 := Aside0.mk m1
            have M2 := Aside0.mk m2
            have HLOW : ∀ (W : World), Below wq.heap.size wq W → Calls Tryd.prog 102 #[.pointer (some ⟨a, 0, none⟩), .int .i64 (rd vars j)] W fun e w' => e = .returned (.int .i64 lo) ∧ Drawn0 W w' := by
              intro W hW
              rw [elo]
              exact low_any (HNQ.out.below hW) (rd vars j) HK.out.1 (by have := HK.out.2; have := HLK.out; omega) (by have := HNEk.out (rd vars j).toNat (by have := HK.out; have := HLK.out; omega); rwa [show (((rd vars j).toNat : Nat) : Int) = rd vars j by have := HK.out; omega] at this)
            have HHIGH : ∀ (W : World), Below wq.heap.size wq W → Calls Tryd.prog 103 #[.pointer (some ⟨a, 0, none⟩), .int .i64 (rd vars j)] W fun e w' => e = .returned (.int .i64 hi9) ∧ Drawn0 W w' := by
              intro W hW
              rw [ehi]
              exact high_any (HNQ.out.below hW) (rd vars j) HK.out.1 (by have := HK.out.2; have := HLK.out; omega) (by have := HNEk.out (rd vars j).toNat (by have := HK.out; have := HLK.out; omega); rwa [show (((rd vars j).toNat : Nat) : Int) = rd vars j by have := HK.out; omega] at this) (by have := GK.len (rd vars j); omega)
            have HLOW' := Aside0.mk HLOW
            have HHIGH' := Aside0.mk HHIGH
            clear HLOW HHIGH GK b1 b2 b3 m1 m2 elo ehi
            go_wp2
            go_quiet (first
              | (go_at_call 102; (with_reducible refine (HLOW'.out _ ?hb).mono ?_); (case hb => repeat (first | exact Below.refl _ _ | apply below_drew | apply pw_below_drewN)); rintro e w' ⟨rfl, ⟨nd, rfl⟩⟩; exact ⟨rfl, _, World.drewN_drewN _ _ _⟩)
              | (go_at_call 103; (with_reducible refine (HHIGH'.out _ ?hb).mono ?_); (case hb => repeat (first | exact Below.refl _ _ | apply below_drew | apply pw_below_drewN)); rintro e w' ⟨rfl, ⟨nd, rfl⟩⟩; exact ⟨rfl, _, World.drewN_drewN _ _ _⟩))
            clear w1_ w2_
            go_wp2
            obtain ⟨X, eX⟩ : ∃ X, X = rd nums j * lo := ⟨_, rfl⟩
            obtain ⟨Y, eY⟩ : ∃ Y, Y = rd nums j * hi9 := ⟨_, rfl⟩
            rw [← eX, ← eY]
            have EX := Aside0.mk eX
            have EY := Aside0.mk eY
            clear eX eY
            have hpl := partLo_bd nums vars Lk i BN.out (fun k => (HRED.out.good HG.out).bd k) j
            have hph := partHi_bd nums vars Lk i BN.out (fun k => (HRED.out.good HG.out).bd k) j
            have bX := M1.out
            have bY := M2.out
            rw [← EX.out] at bX
            rw [← EY.out] at bY
            have hV60 := HV.out
            have hwl : wrap64 (partLo nums vars Lk i j + if Y < X then Y else X) = partLo nums vars Lk i j + min X Y := by
              unfold wrap64; rw [Int.min_def]; split <;> split <;> omega
            have hwh : wrap64 (partHi nums vars Lk i j + if X < Y then Y else X) = partHi nums vars Lk i j + max X Y := by
              unfold wrap64; rw [Int.max_def]; split <;> split <;> omega
            have h8f := blk_frozen H8.out 0
            have h9f := blk_frozen H9.out 0
            have HJL := Aside0.mk hjl
            clear hpl hph bX bY hV60 hjl hj hi hlt hji
            go_region
            clear h8f h9f h8c h9c
            go_wp2
            have hw : wrap64 ((j : Int) + 1) = ((j + 1 : Nat) : Int) := by have := HV.out; have := HJ.out; unfold wrap64; omega
            have hpl1 : partLo nums vars Lk i (j + 1) = partLo nums vars Lk i j + min X Y := by rw [EX.out, EY.out, ELO.out, EHI.out]; simp only [partLo, if_neg HJI.out]
            have hph1 : partHi nums vars Lk i (j + 1) = partHi nums vars Lk i j + max X Y := by rw [EX.out, EY.out, ELO.out, EHI.out]; simp only [partHi, if_neg HJI.out]
            go_roundw
            case rel =>
              refine ⟨j + 1, by have := HJL.out; omega, by rw [hw], ⟨?_⟩, ⟨?_⟩, ⟨?_⟩, ⟨?_⟩⟩
              · exact blk_far (blk_far (blk_drewN H6.out _) (p := ⟨w1.heap.size + 1, 0, none⟩) (by show w1.heap.size ≠ w1.heap.size + 1; omega) _) (p := ⟨w1.heap.size + 1 + 1, 0, none⟩) (by show w1.heap.size ≠ w1.heap.size + 1 + 1; omega) _
              · rw [hpl1]
                exact blk_far (blk_put (blk_drewN H8.out _) 0 _ rfl) (p := ⟨w1.heap.size + 1 + 1, 0, none⟩) (by show w1.heap.size + 1 ≠ w1.heap.size + 1 + 1; omega) _
              · rw [hph1]
                exact blk_put (blk_far (blk_drewN H9.out _) (p := ⟨w1.heap.size + 1, 0, none⟩) (by show w1.heap.size + 1 + 1 ≠ w1.heap.size + 1; omega) _) 0 _ rfl
              · exact below_set (below_set (pw_below_drewN HBQ.out _) (by omega)) (by omega)
            case measure => rw [hw]; have := HJL.out; simp [intOf]; omega
        · obtain rfl : j = vars.length := by omega
          clear hjl hj
          have NQ := HNk.out.below HBQ.out
          have HNQ := Aside0.mk NQ
          have hcq := (HBQ.out.block _ (blk_lt HC.out)).trans HC.out
          have HCQ := Aside0.mk hcq
          have hLk : Lk.length = L.length := HRED.out.len
          have hkq := HIN.out (rd vars i) (by simp [rd, hlt])
          have HK := Aside0.mk (show 0 ≤ rd vars i ∧ rd vars i < Lk.length by omega)
          have GK := HRED.out.good HG.out
          have HGK := Aside0.mk GK
          obtain ⟨p, ep⟩ : ∃ p : Int → Bool, p = fun v => decide (lim - partHi nums vars Lk i vars.length ≤ rd nums i * v) && decide (rd nums i * v ≤ lim - partLo nums vars Lk i vars.length) := ⟨_, rfl⟩
          have hpl := partLo_bd nums vars Lk i BN.out (fun k => GK.bd k) vars.length
          have hph := partHi_bd nums vars Lk i BN.out (fun k => GK.bd k) vars.length
          have h8c : wq.cell? ⟨w1.heap.size + 1, 0, none⟩ = some (.int .i64 (partLo nums vars Lk i vars.length)) := by simpa using blk_cell H8.out 0
          have h9c : wq.cell? ⟨w1.heap.size + 1 + 1, 0, none⟩ = some (.int .i64 (partHi nums vars Lk i vars.length)) := by simpa using blk_cell H9.out 0
          have h6c : wq.cell? ⟨w1.heap.size, 0, none⟩ = some (.int .i64 i) := by simpa using blk_cell H6.out 0
          have hcc2 : wq.cell? ⟨w.heap.size, 2, none⟩ = some (.slice A2 nums.length c2) := by simpa using blk_cell hcq 2
          have hcc4 : wq.cell? ⟨w.heap.size, 4, none⟩ = some (.int .i64 lim) := by simpa using blk_cell hcq 4
          have hc2f := Kd.C_below (C_fr HFR.out HC2.out HF2.out) HBQ.out
          have hKEEP : Calls Tryd.prog 104 #[.pointer (some ⟨a, 0, none⟩), .int .i64 (rd vars i), .func (.func 105) #[] #[.pointer (some ⟨w.heap.size, 0, none⟩), .pointer (some ⟨w1.heap.size, 0, none⟩), .pointer (some ⟨w1.heap.size + 1 + 1, 0, none⟩), .pointer (some ⟨w1.heap.size + 1, 0, none⟩)]] wq fun e w' =>
              e = .returned (.bool (decide (((rd_L1 Lk (rd vars i)).filter p).length < (rd_L1 Lk (rd vars i)).length))) ∧ Net w' a g h (Lk.set (rd vars i).toNat ((rd_L1 Lk (rd vars i)).filter p)) ∧ Fr wq w' a g := by
            refine keep_any NQ (rd vars i) HK.out.1 HK.out.2 105 _ p (by have := GK.len (rd vars i); omega) (enters_ Tryd.func105 (by kernel_rfl) (by kernel_rfl)) (fun v W hv hW => ?_)
            have hv' := GK.bd _ v hv
            have := HV.out
            rw [ep]
            refine (sum1_any w.heap.size w1.heap.size (w1.heap.size + 1 + 1) (w1.heap.size + 1) v lim i (partHi nums vars Lk i vars.length) (partLo nums vars Lk i vars.length) A2 c2 nums W (Kd.C_below hc2f hW) ?_ ?_ ?_ ?_ ?_ (by omega) (by rw [HNL.out]; omega) hv' (rd_bd (B := 100000000) (by decide) BN.out i) BL.out (by omega) (by omega)).mono ?_
            · exact (hW.cell (World.block_lt_of_cell? wq _ hcc2)).trans hcc2
            · exact (hW.cell (World.block_lt_of_cell? wq _ hcc4)).trans hcc4
            · exact (hW.cell (World.block_lt_of_cell? wq _ h6c)).trans h6c
            · exact (hW.cell (World.block_lt_of_cell? wq _ h9c)).trans h9c
            · exact (hW.cell (World.block_lt_of_cell? wq _ h8c)).trans h8c
            · rintro e w' ⟨rfl, ⟨n, rfl⟩⟩
              exact ⟨rfl, pw_below_drewN (Below.refl _ _) _⟩
          obtain ⟨q, eq⟩ : ∃ q, q = (rd_L1 Lk (rd vars i)).filter p := ⟨_, rfl⟩
          obtain ⟨L2, eL2⟩ : ∃ L2, L2 = Lk.set (rd vars i).toNat q := ⟨_, rfl⟩
          obtain ⟨b', eb⟩ : ∃ b', b' = decide (q.length < (rd_L1 Lk (rd vars i)).length) := ⟨_, rfl⟩
          rw [← eq, ← eb, ← eL2] at hKEEP
          have hkp : ∀ x, sound x → (∀ i : Nat, i < Lk.length → rd x i ∈ rd_L1 Lk i) → p (rd x (rd vars i)) = true := by
            intro x hx hin
            rw [ep]
            exact sum_keep GK HNL.out (fun v hv => by rw [hLk]; exact HIN.out v hv) hin (HS.out x hx) i hlt
          have hred := Red.keep (sound := sound) (rd vars i) HK.out.1 HK.out.2 p hkp
          rw [← eq, ← eb, ← eL2] at hred
          have HR2 := Aside0.mk (HRED.out.trans hred)
          have HQ2 := Aside0.mk (show rd_L1 L2 (rd vars i) = q by rw [eL2]; have := rd_set_same Lk (rd vars i).toNat (by have := HK.out; omega) q; rwa [show (((rd vars i).toNat : Nat) : Int) = rd vars i by have := HK.out; omega] at this)
          have HNE2 := Aside0.mk (show 0 < q.length → ∀ i : Nat, i < L2.length → 0 < (rd_L1 L2 i).length by
            intro hq m hm
            rw [eL2]
            rw [eL2, List.length_set] at hm
            by_cases e : (rd vars i).toNat = m
            · rw [e, rd_set_same Lk m hm]; exact hq
            · rw [rd_set_ne Lk _ m e]; exact HNEk.out m hm)
          have HL2 := Aside0.mk (show L2.length = Lk.length by rw [eL2, List.length_set])
          have HNEQ := Aside0.mk (show b' = false → 0 < q.length by
            intro e
            rw [eb, decide_eq_false_iff_not] at e
            have := HNEk.out (rd vars i).toNat (by have := HK.out; omega)
            rw [show (((rd vars i).toNat : Nat) : Int) = rd vars i by have := HK.out; omega] at this
            omega)
          have HQM := Aside0.mk (show q.length ≤ 200 by rw [eq]; exact Nat.le_trans (List.length_filter_le _ _) (GK.len _))
          have HKP := Aside0.mk hKEEP
          have HI' := Aside0.mk hlt
          clear hKEEP hred hkp eb eL2 eq ep h8c h9c h6c hcc2 hcc4 hc2f hpl hph GK hkq hLk hcq NQ hlt hi
          cases b' with
          | true =>
            by_cases hq : q.length = 0
            · have hqb : ((q.length : Int) == 0) = true := by simp [hq]
              have HQ0 := Aside0.mk hq
              clear hq
              go_wp2_with (go_at_call 104; (with_reducible refine HKP.out.mono ?_); rintro e w2 ⟨rfl, hn, hf⟩; have HN2 := Aside0.mk hn; have HF2' := Aside0.mk hf; clear hn hf; obtain ⟨Aq, capq, A1q, c1q, eblkq, eAq, ecellq, hlq, hCq⟩ := HN2.out.at (rd vars i) HK.out.1 (by rw [HL2.out]; exact HK.out.2); cases eAq; rw [HQ2.out] at ecellq; have hc2q : w2.cell? ⟨a, 2, none⟩ = some (.slice (some ⟨g, 0, none⟩) L2.length capq) := (by simpa using blk_cell eblkq 2); have hkk0 := eq_true HK.out.1; have hkk1 : ((rd vars i) < (L2.length : Int)) = True := eq_true (by rw [HL2.out]; exact HK.out.2); clear eblkq hlq hCq)
              go_ret
              exact ⟨true, L2, rfl, HN2.out, (HFR.out.trans (Fr.of_below HBQ.out a g) (.inl rfl)).trans HF2'.out (.inl rfl), by have := HR2.out; simpa using this⟩
            · skip
              have hqb : ((q.length : Int) == 0) = false := beq_eq_false_iff_ne.2 (by omega)
              have HQP := Aside0.mk (show 0 < q.length by omega)
              clear hq
              go_wp2_with (go_at_call 104; (with_reducible refine HKP.out.mono ?_); rintro e w2 ⟨rfl, hn, hf⟩; have HN2 := Aside0.mk hn; have HF2' := Aside0.mk hf; clear hn hf; obtain ⟨Aq, capq, A1q, c1q, eblkq, eAq, ecellq, hlq, hCq⟩ := HN2.out.at (rd vars i) HK.out.1 (by rw [HL2.out]; exact HK.out.2); cases eAq; rw [HQ2.out] at ecellq; have hc2q : w2.cell? ⟨a, 2, none⟩ = some (.slice (some ⟨g, 0, none⟩) L2.length capq) := (by simpa using blk_cell eblkq 2); have hkk0 := eq_true HK.out.1; have hkk1 : ((rd vars i) < (L2.length : Int)) = True := eq_true (by rw [HL2.out]; exact HK.out.2); clear eblkq hlq hCq)
              have hw : wrap64 ((i : Int) + 1) = ((i + 1 : Nat) : Int) := by have := HV.out; have := HI'.out; unfold wrap64; omega
              go_roundw
              case rel =>
                have hLne : L ≠ [] := by intro e; have h1 := HK.out; have h2 := HRED.out.len; have h3 : L.length = 0 := (by rw [e]; rfl); omega
                refine ⟨i + 1, true, L2, by have := HI'.out; omega, by rw [hw], rfl, ⟨?_⟩, HN2, ⟨(HFR.out.trans (Fr.of_below HBQ.out a g) (.inl rfl)).trans HF2'.out (.inl rfl)⟩, ⟨by have := HR2.out; simpa using this⟩, ⟨HNE2.out HQP.out⟩⟩
                exact (HF2'.out.block _ (blk_lt HCQ.out) (by have := HN.out.lt; exact Nat.ne_of_gt this) (by have := HN.out.hg hLne; exact Nat.ne_of_gt this)).trans HCQ.out
              case measure => rw [hw]; have := HI'.out; simp [intOf]; omega
          | false =>
            have hq : ¬ q.length = 0 := by have := HNEQ.out rfl; omega
            have hqb : ((q.length : Int) == 0) = false := beq_eq_false_iff_ne.2 (by omega)
            have HQP := Aside0.mk (show 0 < q.length by omega)
            clear hq
            go_wp2_with (go_at_call 104; (with_reducible refine HKP.out.mono ?_); rintro e w2 ⟨rfl, hn, hf⟩; have HN2 := Aside0.mk hn; have HF2' := Aside0.mk hf; clear hn hf; obtain ⟨Aq, capq, A1q, c1q, eblkq, eAq, ecellq, hlq, hCq⟩ := HN2.out.at (rd vars i) HK.out.1 (by rw [HL2.out]; exact HK.out.2); cases eAq; rw [HQ2.out] at ecellq; have hc2q : w2.cell? ⟨a, 2, none⟩ = some (.slice (some ⟨g, 0, none⟩) L2.length capq) := (by simpa using blk_cell eblkq 2); have hkk0 := eq_true HK.out.1; have hkk1 : ((rd vars i) < (L2.length : Int)) = True := eq_true (by rw [HL2.out]; exact HK.out.2); clear eblkq hlq hCq)
            have hw : wrap64 ((i : Int) + 1) = ((i + 1 : Nat) : Int) := by have := HV.out; have := HI'.out; unfold wrap64; omega
            go_roundw
            case rel =>
              have hLne : L ≠ [] := by intro e; have h1 := HK.out; have h2 := HRED.out.len; have h3 : L.length = 0 := (by rw [e]; rfl); omega
              refine ⟨i + 1, b, L2, by have := HI'.out; omega, by rw [hw], rfl, ⟨?_⟩, HN2, ⟨(HFR.out.trans (Fr.of_below HBQ.out a g) (.inl rfl)).trans HF2'.out (.inl rfl)⟩, ⟨by have := HR2.out; simpa using this⟩, ⟨HNE2.out HQP.out⟩⟩
              exact (HF2'.out.block _ (blk_lt HCQ.out) (by have := HN.out.lt; exact Nat.ne_of_gt this) (by have := HN.out.hg hLne; exact Nat.ne_of_gt this)).trans HCQ.out
            case measure => rw [hw]; have := HI'.out; simp [intOf]; omega
    · obtain rfl : i = vars.length := by omega
      go_wp2
      go_ret
      exact ⟨b, Lk, rfl, HNk.out, HFR.out, HRED.out⟩
end Go.Proofs.YtehekppkicjimaaDoor.QFK
