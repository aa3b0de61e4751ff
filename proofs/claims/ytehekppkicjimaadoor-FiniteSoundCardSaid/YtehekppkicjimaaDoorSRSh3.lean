/- The walk of (*net).share: a rule that keeps what is sound. Conditions: the constraint is well formed, no list is empty. -/
import Derived.Test.YtehekppkicjimaaDoorSRSh2
namespace Go.Proofs.YtehekppkicjimaaDoor.QFK
open Go.RowKit Go.Proofs.YtehekppkicjimaaDoorW.PrintWords Go.Proofs.YtehekppkicjimaaDoorW.PrintLast Go.Proofs.YtehekppkicjimaaDoorW.PrintMore
open Go.Deep
set_option linter.unusedVariables false
set_option linter.unusedSimpArgs false
theorem Red.bounds {sound : List Int → Prop} {L L' : List (List Int)} {b : Bool} (h : Red sound L L' b) (k : Int) (h0 : 0 ≤ k) (h1 : k < L.length) (hz : 0 < (rd_L1 L k).length) (hq : (rd_L1 L' k).length = 0) : b = true := by
  cases e : b with
  | true => rfl
  | false => have := h.same e; rw [this] at hq; omega
theorem keep_step2 {w : World} {a g : Nat} {h : Value × Value} {L : List (List Int)} (N : Net w a g h L) (k : Int) (h0 : 0 ≤ k) (h1 : k < L.length) (f : Nat) (caps : Array Value) (p : Int → Bool)
    (hm : ∀ k, (rd_L1 L k).length ≤ 200)
    (hent : ∀ (ar : Array Value) (W : World), (callFunc f ar).run Tryd.prog W = .ok (.enter f ar) W)
    (hF : ∀ (v : Int) (W : World), v ∈ rd_L1 L k → Below w.heap.size w W → Calls Tryd.prog f (#[.int .i64 v] ++ caps) W fun e W' => e = .returned (.bool (p v)) ∧ Below W.heap.size W W')
    (sound : List Int → Prop) (hp : ∀ x, sound x → (∀ i : Nat, i < L.length → rd x i ∈ rd_L1 L i) → p (rd x k) = true) :
    ∃ b L2, (∀ W : World, Below w.heap.size w W → Calls Tryd.prog 104 #[.pointer (some ⟨a, 0, none⟩), .int .i64 k, .func (.func f) #[] caps] W fun e w' => e = .returned (.bool b) ∧ Net w' a g h L2 ∧ Fr W w' a g) ∧ Red sound L L2 b ∧ (∀ v ∈ rd_L1 L2 k, v ∈ rd_L1 L k ∧ p v = true) ∧ ∀ m : Int, 0 ≤ m → m ≠ k → rd_L1 L2 m = rd_L1 L m := by
  refine ⟨_, _, fun W hW => keep_any (N.below hW) k h0 h1 f caps p (by have := hm k; omega) hent (fun v W' hv hW' => hF v W' hv (below_step hW hW')), Red.keep k h0 h1 p hp, fun v hv => ?_, fun m h0' hne => ?_⟩
  · have := rd_set_same L k.toNat (by omega) ((rd_L1 L k).filter p)
    rw [show ((k.toNat : Nat) : Int) = k by omega] at this
    rw [this, List.mem_filter] at hv
    exact hv
  · have := rd_set_ne L k.toNat m.toNat (by omega) ((rd_L1 L k).filter p)
    rwa [show ((m.toNat : Nat) : Int) = m by omega] at this
set_option maxHeartbeats 16000000 in
set_option maxRecDepth 100000 in
theorem share_any {w : World} {a g : Nat} {h : Value × Value} {L : List (List Int)} (N : Net w a g h L) (kd lim : Int) (A1 : Option Addr) (c1 : Nat) (vars : List Int) (A2 : Option Addr) (c2 : Nat) (nums : List Int) (A3 : Option Addr) (c3 : Nat) (uses : List Int) (v5_ : Value)
    (hC1 : Kd.C (Kd.int .i64) w A1 vars.length vars) (hf1 : vars ≠ [] → ∀ ad, A1 = some ad → ad.block ≠ a ∧ ad.block ≠ g) (hC2 : Kd.C (Kd.int .i64) w A2 nums.length nums) (hf2 : nums ≠ [] → ∀ ad, A2 = some ad → ad.block ≠ a ∧ ad.block ≠ g) (hC3 : Kd.C (Kd.int .i64) w A3 uses.length uses) (hf3 : uses ≠ [] → ∀ ad, A3 = some ad → ad.block ≠ a ∧ ad.block ≠ g)
    (hv : vars.length ≤ 60) (hnn : nums.length = vars.length) (hun : uses.length = vars.length) (hin : ∀ v ∈ vars, 0 ≤ v ∧ v < L.length) (G : Good1 L) (hne : ∀ k : Int, 0 ≤ k → k < L.length → 0 < (rd_L1 L k).length)
    (bn : ∀ x ∈ nums, -100000000 ≤ x ∧ x ≤ 100000000) (bu : ∀ x ∈ uses, -100000000 ≤ x ∧ x ≤ 100000000) (bl : -100000000 ≤ lim ∧ lim ≤ 100000000) (hn0 : ∀ k : Nat, 0 ≤ rd nums k) (hu0 : ∀ k : Nat, 0 ≤ rd uses k)
    (sound : List Int → Prop) (hs : ∀ x, sound x → ∀ i : Nat, i < vars.length → shareB nums uses (vars.map fun i => rd x i) lim i = true) :
    Calls Tryd.prog 119 #[.pointer (some ⟨a, 0, none⟩), .agg #[.int .i64 kd, .slice A1 vars.length c1, .slice A2 nums.length c2, .slice A3 uses.length c3, .int .i64 lim, v5_]] w fun e w' =>
      ∃ b L', e = .returned (.bool b) ∧ Net w' a g h L' ∧ Fr w w' a g ∧ Red sound L L' b := by
  have hu44 := Tryd.underlying44
  have hu54 := Tryd.underlying54
  have HN := Aside0.mk N
  have HC1 := Aside0.mk hC1
  have HF1 := Aside0.mk hf1
  have HC2 := Aside0.mk hC2
  have HF2 := Aside0.mk hf2
  have HC3 := Aside0.mk hC3
  have HF3 := Aside0.mk hf3
  have HV := Aside0.mk hv
  have HNN := Aside0.mk hnn
  have HUN := Aside0.mk hun
  have HIN := Aside0.mk hin
  have HG := Aside0.mk G
  have HNE := Aside0.mk hne
  have BN := Aside0.mk bn
  have BU := Aside0.mk bu
  have BL := Aside0.mk bl
  have HN0 := Aside0.mk hn0
  have HU0 := Aside0.mk hu0
  have HS := Aside0.mk hs
  have HFAR : Aside0 (∀ (W W' : World), Fr W W' a g → ∀ (gg : Nat) (o : Obj), W.heap[gg]? = some o → w.heap.size ≤ gg → W'.heap[gg]? = some o) :=
    ⟨fun W W' hF gg o hb hge => (hF.block _ (blk_lt hb) (by have := N.lt; omega) (by have := N.gl; omega)).trans hb⟩
  clear N hC1 hf1 hC2 hf2 hC3 hf3 hv hnn hun hin G hne bn bu bl hn0 hu0 hs
  go_enter Tryd.func119, Tryd.ntmps119
  go_wp2
  go_loopw [11, 5] (fun v11 v5 wr => ∃ (i : Nat) (b : Bool) (Lk : List (List Int)), i ≤ vars.length ∧ v11 = .int .i64 i ∧ v5 = .bool b ∧
      Aside0 (wr.heap[w.heap.size]? = some (.cells #[.pointer (some ⟨a, 0, none⟩)] 51 (0, 0))) ∧
      Aside0 (wr.heap[w.heap.size + 1]? = some (.cells #[.int .i64 kd, .slice A1 vars.length c1, .slice A2 nums.length c2, .slice A3 uses.length c3, .int .i64 lim, v5_] 44 (0, 0))) ∧
      Aside0 (Net wr a g h Lk) ∧ Aside0 (Fr w wr a g) ∧ Aside0 (Red sound L Lk b) ∧ Aside0 (∀ k : Int, 0 ≤ k → k < Lk.length → 0 < (rd_L1 Lk k).length))
    (fun v11 _ _ => vars.length - (intOf v11).toNat)
  case atStart =>
    have h2 := blk_new (w.alloc (.cells #[.pointer (some ⟨a, 0, none⟩)] 51)) (.cells #[.int .i64 kd, .slice A1 vars.length c1, .slice A2 nums.length c2, .slice A3 uses.length c3, .int .i64 lim, v5_] 44)
    rw [show (w.alloc (.cells #[.pointer (some ⟨a, 0, none⟩)] 51)).heap.size = w.heap.size + 1 from by simp only [World.alloc, Array.size_push]] at h2
    exact ⟨0, false, L, Nat.zero_le _, rfl, rfl, ⟨blk_alloc (blk_new _ _) _⟩, ⟨h2⟩, ⟨HN.out.below (below_alloc (below_alloc (Below.refl _ _) _) _)⟩, ⟨Fr.of_below (below_alloc (below_alloc (Below.refl _ _) _) _) _ _⟩, ⟨Red.refl _ _⟩, HNE⟩
  case round =>
    obtain ⟨i, b, Lk, hi, rfl, rfl, HB0, HCON, HNk, HFR, HRED, HNEk⟩ := hrel
    obtain ⟨w1, rfl⟩ : ∃ w1 : World, w1 = wr := ⟨_, rfl⟩
    by_cases hlt : i < vars.length
    · have hC1f := C_fr HFR.out HC1.out HF1.out
      have hC2f := C_fr HFR.out HC2.out HF2.out
      have hC3f := C_fr HFR.out HC3.out HF3.out
      obtain ⟨ad1, e1, hcv⟩ := Kd.at_int hC1f (i : Int) (by omega) (by omega)
      cases e1
      obtain ⟨ad2, e2, hcm⟩ := Kd.at_int hC2f (i : Int) (by omega) (by have := HNN.out; omega)
      cases e2
      obtain ⟨ad3, e3, hcu⟩ := Kd.at_int hC3f (i : Int) (by omega) (by have := HUN.out; omega)
      cases e3
      simp only [Int.toNat_natCast] at hcv hcm hcu
      have HC2F := Aside0.mk hC2f
      have HC3F := Aside0.mk hC3f
      have HC1F := Aside0.mk hC1f
      obtain ⟨nu, enu⟩ : ∃ x, x = rd nums i := ⟨_, rfl⟩
      obtain ⟨us, eus⟩ : ∃ x, x = rd uses i := ⟨_, rfl⟩
      rw [← enu] at hcm
      rw [← eus] at hcu
      have hcmA := Lib.cell?_alloc_some (.cells #[.int .i64 i] 3) hcm
      have hcuA := Lib.cell?_alloc_some (.cells #[.int .i64 i] 3) hcu
      have hcvA := Lib.cell?_alloc_some (.cells #[.int .i64 i] 3) hcv
      have hk1 : w1.cell? ⟨w.heap.size + 1, 1, none⟩ = some (.slice (some ad1) vars.length c1) := by simpa using blk_cell HCON.out 1
      have hk2 : (w1.alloc (.cells #[.int .i64 i] 3)).cell? ⟨w.heap.size + 1, 2, none⟩ = some (.slice (some ad2) nums.length c2) := by simpa using blk_cell (blk_alloc HCON.out (.cells #[.int .i64 i] 3)) 2
      have hk3 : (w1.alloc (.cells #[.int .i64 i] 3)).cell? ⟨w.heap.size + 1, 3, none⟩ = some (.slice (some ad3) uses.length c3) := by simpa using blk_cell (blk_alloc HCON.out (.cells #[.int .i64 i] 3)) 3
      have hk0 : (w1.alloc (.cells #[.int .i64 i] 3)).cell? ⟨w.heap.size, 0, none⟩ = some (.pointer (some ⟨a, 0, none⟩)) := by simpa using blk_cell (blk_alloc HB0.out (.cells #[.int .i64 i] 3)) 0
      have hni : ((i : Int) < (nums.length : Int)) = True := eq_true (by have := HNN.out; omega)
      have hui : ((i : Int) < (uses.length : Int)) = True := eq_true (by have := HUN.out; omega)
      have hnin : (i < nums.length) = True := eq_true (by have := HNN.out; omega)
      have huin : (i < uses.length) = True := eq_true (by have := HUN.out; omega)
      have ENU := Aside0.mk enu
      have EUS := Aside0.mk eus
      have HI' := Aside0.mk hlt
      have HWB := Aside0.mk (show wrap64 ((i : Int) + 1) = ((i + 1 : Nat) : Int) by have := HV.out; unfold wrap64; omega)
      clear hC1f hC2f hC3f enu eus hi hcm hcu
      by_cases hnz : nu = 0
      · have hnb : (nu == 0) = true := by simp [hnz]
        clear hnz
        go_wp2
        have hw := HWB.out
        go_roundw
        case rel => exact ⟨i + 1, b, Lk, by have := HI'.out; omega, by rw [hw], rfl, ⟨blk_alloc HB0.out _⟩, ⟨blk_alloc HCON.out _⟩, ⟨HNk.out.below (below_alloc (Below.refl _ _) _)⟩, ⟨HFR.out.trans (Fr.of_below (below_alloc (Below.refl _ _) _) a g) (.inl rfl)⟩, HRED, HNEk⟩
        case measure => rw [hw]; have := HI'.out; simp [intOf]; omega
      · have hnb : (nu == 0) = false := by simp [hnz]
        have HNZ := Aside0.mk hnz
        clear hnz
        by_cases huz : us = 0
        · have hub : (us == 0) = true := by simp [huz]
          clear huz
          go_wp2
          have hw := HWB.out
          go_roundw
          case rel => exact ⟨i + 1, b, Lk, by have := HI'.out; omega, by rw [hw], rfl, ⟨blk_alloc HB0.out _⟩, ⟨blk_alloc HCON.out _⟩, ⟨HNk.out.below (below_alloc (Below.refl _ _) _)⟩, ⟨HFR.out.trans (Fr.of_below (below_alloc (Below.refl _ _) _) a g) (.inl rfl)⟩, HRED, HNEk⟩
          case measure => rw [hw]; have := HI'.out; simp [intOf]; omega
        · have hub : (us == 0) = false := by simp [huz]
          have HUZ := Aside0.mk huz
          clear huz
          have hkin := HIN.out (rd vars i) (by rw [rd_in HI'.out]; exact List.getElem_mem _)
          obtain ⟨k, ek⟩ : ∃ k, k = rd vars i := ⟨_, rfl⟩
          rw [← ek] at hcvA hkin
          rw [← ek] at hcv
          have hLk := HRED.out.len
          have N1 := HNk.out.below (below_alloc (Below.refl _ w1) (.cells #[.int .i64 i] 3))
          have GK := HRED.out.good HG.out
          have hBC := blk_alloc HCON.out (.cells #[.int .i64 i] 3)
          have hBI := blk_new w1 (.cells #[.int .i64 i] 3)
          obtain ⟨bb, L2, hK, R, hq, hoth⟩ := keep_step2 N1 k hkin.1 (by omega) 120 #[.pointer (some ⟨w.heap.size + 1, 0, none⟩), .pointer (some ⟨w.heap.size, 0, none⟩), .pointer (some ⟨w1.heap.size, 0, none⟩)] (shareP Lk vars nums uses lim i) GK.len (enters_ Tryd.func120 (by kernel_rfl) (by kernel_rfl))
            (fun v W hv hW => share1_any (N1.below hW) (w.heap.size + 1) w.heap.size w1.heap.size v i kd lim (some ad1) c1 vars (some ad2) c2 nums (some ad3) c3 uses v5_ ((hW.block _ (blk_lt hBC)).trans hBC) ((hW.cell (World.block_lt_of_cell? _ _ hk0)).trans hk0) (by have := blk_cell ((hW.block _ (blk_lt hBI)).trans hBI) 0; simpa using this) (Kd.C_below (Kd.C_alloc HC1F.out _) hW) (Kd.C_below (Kd.C_alloc HC2F.out _) hW) (Kd.C_below (Kd.C_alloc HC3F.out _) hW) HV.out HNN.out HUN.out HI'.out (fun u hu => by have := HIN.out u hu; omega) GK HNEk.out BN.out BU.out (GK.bd k v hv) BL.out) sound (fun x hx hin => by
              rw [ek]
              exact share_keep GK (fun u hu => by have := HIN.out u hu; omega) hin HN0.out HU0.out (HS.out x hx) i HI'.out (by rw [← ENU.out]; exact HNZ.out) (by rw [← EUS.out]; exact HUZ.out))
          have HK := Aside0.mk hK
          have HR2 := Aside0.mk R
          have BK := Aside0.mk (show 0 ≤ k ∧ k < L2.length from ⟨hkin.1, by have := R.len; omega⟩)
          have HNE2 := Aside0.mk (show 0 < (rd_L1 L2 k).length → ∀ m : Int, 0 ≤ m → m < L2.length → 0 < (rd_L1 L2 m).length by
            intro hq m hm0 hm1
            by_cases e : m = k
            · rw [e]; exact hq
            · rw [hoth m hm0 e]; exact HNEk.out m hm0 (by have := R.len; omega))
          have HEMP := Aside0.mk (show (rd_L1 L2 k).length = 0 → bb = true from fun hz => R.bounds k hkin.1 (by omega) (HNEk.out k hkin.1 (by omega)) hz)
          clear hK R hq hoth ek hkin hLk N1 hBC hBI GK
          cases bb with
          | true =>
            by_cases hq : (rd_L1 L2 k).length = 0
            · have hqb : (((rd_L1 L2 k).length : Int) == 0) = true := by simp [hq]
              clear hq
              go_wp2_with (go_at_call 104; (with_reducible refine (HK.out _ ?hb).mono ?_); (case hb => repeat (first | exact Below.refl _ _ | apply below_drew | apply pw_below_drewN)); rintro e w3 ⟨rfl, hn, hf⟩; have HN3 := Aside0.mk hn; have HF3 := Aside0.mk hf; clear hn hf; obtain ⟨Aq, capq, A1q, c1q, eblkq, eAq, ecellq, hlq, hCq⟩ := HN3.out.at k BK.out.1 BK.out.2; cases eAq; have hc2q : w3.cell? ⟨a, 2, none⟩ = some (.slice (some ⟨g, 0, none⟩) L2.length capq) := (by simpa using blk_cell eblkq 2); have hkk0 := eq_true BK.out.1; have hkk1 : (k < (L2.length : Int)) = True := eq_true BK.out.2; clear eblkq hlq hCq hk0; have hk0 : w3.cell? ⟨w.heap.size, 0, none⟩ = some (.pointer (some ⟨a, 0, none⟩)) := (by simpa using blk_cell (HFAR.out _ _ HF3.out _ _ (blk_alloc HB0.out _) (Nat.le_refl _)) 0))
              go_ret
              exact ⟨true, L2, rfl, HN3.out, (HFR.out.trans (Fr.of_below (below_alloc (Below.refl _ w1) (.cells #[.int .i64 i] 3)) a g) (.inl rfl)).trans HF3.out (.inl rfl), by have := HRED.out.trans HR2.out; simpa using this⟩
            · skip
              have hqb : (((rd_L1 L2 k).length : Int) == 0) = false := beq_eq_false_iff_ne.2 (by omega)
              have HQP := Aside0.mk (show 0 < (rd_L1 L2 k).length by omega)
              clear hq
              go_wp2_with (go_at_call 104; (with_reducible refine (HK.out _ ?hb).mono ?_); (case hb => repeat (first | exact Below.refl _ _ | apply below_drew | apply pw_below_drewN)); rintro e w3 ⟨rfl, hn, hf⟩; have HN3 := Aside0.mk hn; have HF3 := Aside0.mk hf; clear hn hf; obtain ⟨Aq, capq, A1q, c1q, eblkq, eAq, ecellq, hlq, hCq⟩ := HN3.out.at k BK.out.1 BK.out.2; cases eAq; have hc2q : w3.cell? ⟨a, 2, none⟩ = some (.slice (some ⟨g, 0, none⟩) L2.length capq) := (by simpa using blk_cell eblkq 2); have hkk0 := eq_true BK.out.1; have hkk1 : (k < (L2.length : Int)) = True := eq_true BK.out.2; clear eblkq hlq hCq hk0; have hk0 : w3.cell? ⟨w.heap.size, 0, none⟩ = some (.pointer (some ⟨a, 0, none⟩)) := (by simpa using blk_cell (HFAR.out _ _ HF3.out _ _ (blk_alloc HB0.out _) (Nat.le_refl _)) 0))
              have hw := HWB.out
              go_roundw
              case rel =>
                have hFF := (Fr.of_below (below_alloc (Below.refl _ w1) (.cells #[.int .i64 i] 3)) a g).trans HF3.out (.inl rfl)
                exact ⟨i + 1, true, L2, by have := HI'.out; omega, by rw [hw], rfl, ⟨HFAR.out _ _ hFF _ _ HB0.out (Nat.le_refl _)⟩, ⟨HFAR.out _ _ hFF _ _ HCON.out (by omega)⟩, HN3, ⟨HFR.out.trans hFF (.inl rfl)⟩, ⟨by have := HRED.out.trans HR2.out; simpa using this⟩, ⟨HNE2.out HQP.out⟩⟩
              case measure => rw [hw]; have := HI'.out; simp [intOf]; omega
          | false =>
            have hq : ¬ (rd_L1 L2 k).length = 0 := fun e => by have := HEMP.out e; cases this
            have hqb : (((rd_L1 L2 k).length : Int) == 0) = false := beq_eq_false_iff_ne.2 (by omega)
            have HQP := Aside0.mk (show 0 < (rd_L1 L2 k).length by omega)
            clear hq
            go_wp2_with (go_at_call 104; (with_reducible refine (HK.out _ ?hb).mono ?_); (case hb => repeat (first | exact Below.refl _ _ | apply below_drew | apply pw_below_drewN)); rintro e w3 ⟨rfl, hn, hf⟩; have HN3 := Aside0.mk hn; have HF3 := Aside0.mk hf; clear hn hf; obtain ⟨Aq, capq, A1q, c1q, eblkq, eAq, ecellq, hlq, hCq⟩ := HN3.out.at k BK.out.1 BK.out.2; cases eAq; have hc2q : w3.cell? ⟨a, 2, none⟩ = some (.slice (some ⟨g, 0, none⟩) L2.length capq) := (by simpa using blk_cell eblkq 2); have hkk0 := eq_true BK.out.1; have hkk1 : (k < (L2.length : Int)) = True := eq_true BK.out.2; clear eblkq hlq hCq hk0; have hk0 : w3.cell? ⟨w.heap.size, 0, none⟩ = some (.pointer (some ⟨a, 0, none⟩)) := (by simpa using blk_cell (HFAR.out _ _ HF3.out _ _ (blk_alloc HB0.out _) (Nat.le_refl _)) 0))
            have hw := HWB.out
            go_roundw
            case rel =>
              have hFF := (Fr.of_below (below_alloc (Below.refl _ w1) (.cells #[.int .i64 i] 3)) a g).trans HF3.out (.inl rfl)
              exact ⟨i + 1, b, L2, by have := HI'.out; omega, by rw [hw], rfl, ⟨HFAR.out _ _ hFF _ _ HB0.out (Nat.le_refl _)⟩, ⟨HFAR.out _ _ hFF _ _ HCON.out (by omega)⟩, HN3, ⟨HFR.out.trans hFF (.inl rfl)⟩, ⟨by have := HRED.out.trans HR2.out; simpa using this⟩, ⟨HNE2.out HQP.out⟩⟩
            case measure => rw [hw]; have := HI'.out; simp [intOf]; omega
    · obtain rfl : i = vars.length := by omega
      go_wp2
      go_ret
      exact ⟨b, Lk, rfl, HNk.out, HFR.out, HRED.out⟩
end Go.Proofs.YtehekppkicjimaaDoor.QFK
