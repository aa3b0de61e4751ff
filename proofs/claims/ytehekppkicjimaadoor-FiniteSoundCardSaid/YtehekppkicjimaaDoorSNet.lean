/- The net of package finite in memory: its block, the row of its lists, the lists themselves; what a call that writes only there leaves. Conditions: none. -/
import Derived.Test.YtehekppkicjimaaDoorSQFKx0
import Derived.Test.YtehekppkicjimaaDoorSHof
import Derived.Test.YtehekppkicjimaaDoorSKeeps
namespace Go.Proofs.YtehekppkicjimaaDoor.QFK
open Go.RowKit Go.Proofs.YtehekppkicjimaaDoorW.PrintWords Go.Proofs.YtehekppkicjimaaDoorW.PrintLast Go.Proofs.YtehekppkicjimaaDoorW.PrintMore
set_option linter.unusedVariables false
set_option linter.unusedSimpArgs false

/-- A list of whole numbers that is read, and lies in neither of two blocks. -/
structure Sl (w : World) (a g : Nat) (v : Value) (xs : List Int) : Prop where
  ex : ∃ A c, v = .slice A xs.length c ∧ xs.length ≤ c ∧ Kd.C (Kd.int .i64) w A xs.length xs ∧ (xs ≠ [] → ∀ ad, A = some ad → ad.block ≠ a ∧ ad.block ≠ g ∧ ad.spot = none)
/-- A net at block a, its lists' row at block g; h: the puzzle's two slices. -/
structure Net (w : World) (a g : Nat) (h : Value × Value) (L : List (List Int)) : Prop where
  blk : ∃ A cap, w.heap[a]? = some (.cells #[h.1, h.2, .slice A L.length cap] 54 (0, 0)) ∧ L.length ≤ cap ∧ (L ≠ [] → A = some ⟨g, 0, none⟩)
  row : L ≠ [] → ∃ cells : Array Value, w.heap[g]? = some (.cells cells 26 (0, 0)) ∧ ∀ (i : Nat) (hi : i < L.length), ∃ v, cells[i]? = some v ∧ Sl w a g v L[i]
  ne : a ≠ g
  lt : a < w.heap.size
  gl : g < w.heap.size
/-- What a call that writes only in two blocks leaves. -/
structure Fr (w w' : World) (a g : Nat) : Prop where
  os : w'.os = w.os
  tape : w'.tape = w.tape
  output : w'.output = w.output
  size : w.heap.size ≤ w'.heap.size
  block : ∀ k, k < w.heap.size → k ≠ a → k ≠ g → w'.heap[k]? = w.heap[k]?
theorem Fr.refl (w : World) (a g : Nat) : Fr w w a g := ⟨rfl, rfl, rfl, Nat.le_refl _, fun _ _ _ _ => rfl⟩
theorem Fr.of_below {w w' : World} (h : Below w.heap.size w w') (a g : Nat) : Fr w w' a g := ⟨h.os, h.tape, h.output, h.size, fun k hk _ _ => h.block k hk⟩
theorem Fr.trans {w w1 w2 : World} {a g g1 : Nat} (h : Fr w w1 a g) (k : Fr w1 w2 a g1) (hg : g1 = g ∨ w.heap.size ≤ g1) : Fr w w2 a g :=
  ⟨k.os.trans h.os, k.tape.trans h.tape, k.output.trans h.output, Nat.le_trans h.size k.size, fun i hi ha hgi => (k.block i (Nat.lt_of_lt_of_le hi h.size) ha (by rcases hg with rfl | hg <;> omega)).trans (h.block i hi ha hgi)⟩
theorem Fr.below {w w' : World} {a g B : Nat} (h : Fr w w' a g) (hB : B ≤ w.heap.size) (ha : B ≤ a) (hg : B ≤ g) : Below B w w' :=
  ⟨h.os, h.tape, h.output, h.size, fun k hk => h.block k (by omega) (by omega) (by omega)⟩
theorem below_of_fr {w0 w w' : World} {a g B : Nat} (h0 : Below B w0 w) (h : Fr w w' a g) (hB : B ≤ w0.heap.size) (ha : B ≤ a) (hg : B ≤ g) : Below B w0 w' :=
  h0.trans (h.below (Nat.le_trans hB h0.size) ha hg)
theorem cell_fr {w w' : World} {a g : Nat} (h : Fr w w' a g) {p : Addr} {v : Value} (hc : w.cell? p = some v) (ha : p.block ≠ a) (hg : p.block ≠ g) : w'.cell? p = some v := by
  have hlt := World.block_lt_of_cell? w _ hc
  rw [← hc]; exact World.cell?_of_block (w := w) (h.block p.block hlt ha hg)
theorem C_fr {w w' : World} {a g : Nat} {A : Option Addr} {xs : List Int} (h : Fr w w' a g) (hC : Kd.C (Kd.int .i64) w A xs.length xs) (hf : xs ≠ [] → ∀ ad, A = some ad → ad.block ≠ a ∧ ad.block ≠ g) : Kd.C (Kd.int .i64) w' A xs.length xs := by
  refine ⟨hC.1, hC.2.1, fun hn => ?_⟩
  obtain ⟨ad, e, hc⟩ := hC.2.2 hn
  have hne := hf (by intro e0; rw [e0] at hn; exact absurd hn (Nat.lt_irrefl _)) ad e
  refine ⟨ad, e, fun j p hj => ?_⟩
  obtain ⟨c, h1, h2, h3⟩ := hc j p hj
  refine ⟨c, h1, h2, fun i u hu => cell_fr h (h3 i u hu) ?_ ?_⟩
  · rw [show (ad.add (j * (Kd.int .i64).sz + i)).block = ad.block by simp [Addr.add]; split <;> rfl]; exact hne.1
  · rw [show (ad.add (j * (Kd.int .i64).sz + i)).block = ad.block by simp [Addr.add]; split <;> rfl]; exact hne.2
theorem Sl.fr {w w' : World} {a g : Nat} {v : Value} {xs : List Int} (hs : Sl w a g v xs) (h : Fr w w' a g) : Sl w' a g v xs := by
  obtain ⟨A, c, e, hl, hC, hf⟩ := hs.ex
  exact ⟨A, c, e, hl, C_fr h hC (fun hn ad ea => ⟨(hf hn ad ea).1, (hf hn ad ea).2.1⟩), hf⟩
/-- nothing that is old has been written -/
theorem Sl.below {w w' : World} {a g : Nat} {v : Value} {xs : List Int} (hs : Sl w a g v xs) (h : Below w.heap.size w w') : Sl w' a g v xs := by
  obtain ⟨A, c, e, hl, hC, hf⟩ := hs.ex
  exact ⟨A, c, e, hl, Kd.C_below hC h, hf⟩
theorem Net.below {w w' : World} {a g : Nat} {h : Value × Value} {L : List (List Int)} (N : Net w a g h L) (hb : Below w.heap.size w w') : Net w' a g h L := by
  refine ⟨?_, fun hL => ?_, N.ne, Nat.lt_of_lt_of_le N.lt hb.size, Nat.lt_of_lt_of_le N.gl hb.size⟩
  · obtain ⟨A, cap, e, hl, hA⟩ := N.blk
    exact ⟨A, cap, by rw [hb.block a N.lt]; exact e, hl, hA⟩
  · obtain ⟨cells, e, hc⟩ := N.row hL
    have hg : g < w.heap.size := (Array.getElem?_eq_some_iff.1 e).1
    refine ⟨cells, by rw [hb.block g hg]; exact e, fun i hi => ?_⟩
    obtain ⟨v, h1, h2⟩ := hc i hi
    exact ⟨v, h1, h2.below hb⟩
/-- what a walk reads of a net at one variable -/
theorem Net.at {w : World} {a g : Nat} {h : Value × Value} {L : List (List Int)} (N : Net w a g h L) (k : Int) (h0 : 0 ≤ k) (h1 : k < L.length) :
    ∃ A cap A1 c1, w.heap[a]? = some (.cells #[h.1, h.2, .slice A L.length cap] 54 (0, 0)) ∧ A = some ⟨g, 0, none⟩ ∧ w.cell? ⟨g, k.toNat, none⟩ = some (.slice A1 (rd_L1 L k).length c1) ∧ (rd_L1 L k).length ≤ c1 ∧ Kd.C (Kd.int .i64) w A1 (rd_L1 L k).length (rd_L1 L k) := by
  have hL : L ≠ [] := by rintro rfl; simp at h1; omega
  obtain ⟨A, cap, e, hl, hA⟩ := N.blk
  obtain ⟨cells, er, hc⟩ := N.row hL
  obtain ⟨v, hv, hs⟩ := hc k.toNat (by omega)
  obtain ⟨A1, c1, rfl, hl1, hC, _⟩ := hs.ex
  have e1 : rd_L1 L k = L[k.toNat] := by simp [rd_L1, show k.toNat < L.length by omega]
  refine ⟨A, cap, A1, c1, e, hA hL, ?_, by rw [e1]; exact hl1, by rw [e1]; exact hC⟩
  rw [e1]
  have := blk_cell er k.toNat
  rw [hv] at this
  exact this
theorem Sl.of_R {w : World} {base a g : Nat} {ok : Nat → Prop} {v : Value} {xs : List Int} (h : Kd.R (Kd.int .i64) 3 w base ok v xs) (ha : a < base) (hg : g < base) : Sl w a g v xs := by
  obtain ⟨A, c, e, hl, hC⟩ := Kd.R_reads h
  refine ⟨A, c, e, hl, hC, fun _ ad hA => ?_⟩
  have ho := Kd.own_of_R h
  have hb := own_base ho ad.block (by rw [e, hA]; simp [Value.ownBlock])
  refine ⟨by omega, by omega, ?_⟩
  rcases ho.2 with ⟨h0, _⟩ | ⟨g', cap, cur, h0, _⟩
  · rw [e, hA] at h0; cases h0
  · rw [e, hA] at h0; cases h0; rfl
theorem Net.hg {w : World} {a g : Nat} {h : Value × Value} {L : List (List Int)} (N : Net w a g h L) (hL : L ≠ []) : g < w.heap.size := by
  obtain ⟨_, er, _⟩ := N.row hL
  exact blk_lt er
theorem Net.put {w wr : World} {a g : Nat} {h : Value × Value} {L : List (List Int)} (N : Net w a g h L) (hb : Below w.heap.size w wr) (k : Nat) (hk : k < L.length) {ok : Nat → Prop} {v : Value} {q : List Int} (hR : Kd.R (Kd.int .i64) 3 wr w.heap.size ok v q) :
    Net (wr.setCell ⟨g, k, none⟩ v) a g h (L.set k q) ∧ Fr w (wr.setCell ⟨g, k, none⟩ v) a g := by
  have hL : L ≠ [] := by rintro rfl; simp at hk
  have hgl := N.hg hL
  have F : Fr w (wr.setCell ⟨g, k, none⟩ v) a g := ⟨hb.os, hb.tape, hb.output, by have := hb.size; simpa [World.setCell] using this, fun i hi _ hgi => (Below.heap_setCell wr ⟨g, k, none⟩ v i hgi).trans (hb.block i hi)⟩
  obtain ⟨A, cap, e, hl, hA⟩ := N.blk
  obtain ⟨cells, er, hc⟩ := N.row hL
  have er' := (hb.block g hgl).trans er
  refine ⟨⟨⟨A, cap, ?_, by rw [List.length_set]; exact hl, fun _ => hA hL⟩, fun _ => ⟨_, blk_put er' k v rfl, fun j hj => ?_⟩, N.ne, Nat.lt_of_lt_of_le N.lt F.size, Nat.lt_of_lt_of_le N.gl F.size⟩, F⟩
  · rw [List.length_set]; exact blk_far ((hb.block a N.lt).trans e) N.ne _
  · have hj' : j < L.length := by rwa [List.length_set] at hj
    obtain ⟨u, hu, hs⟩ := hc j hj'
    by_cases hjk : k = j
    · subst hjk
      refine ⟨v, by rw [Array.getElem?_setIfInBounds]; simp [(Array.getElem?_eq_some_iff.1 hu).1], ?_⟩
      rw [List.getElem_set_self]
      have h1 := Sl.of_R hR N.lt hgl
      obtain ⟨A1, c1, e1, h2, h3, h4⟩ := h1.ex
      refine ⟨A1, c1, e1, h2, C_fr (w := wr) (a := a) (g := g) ⟨rfl, rfl, rfl, by simp [World.setCell], fun i _ _ hi => Below.heap_setCell wr ⟨g, k, none⟩ v i hi⟩ h3 (fun hn ad ea => ⟨(h4 hn ad ea).1, (h4 hn ad ea).2.1⟩), h4⟩
    · refine ⟨u, by rw [Array.getElem?_setIfInBounds]; simp [hjk]; exact hu, ?_⟩
      rw [List.getElem_set_ne hjk]
      exact hs.fr F
/-- the net's lists as a row of lists that is read -/
theorem Net.reads {w : World} {a g : Nat} {h : Value × Value} {L : List (List Int)} (N : Net w a g h L) (hm : L.length ≤ 9223372036854775807) :
    ∃ A cap, w.heap[a]? = some (.cells #[h.1, h.2, .slice A L.length cap] 54 (0, 0)) ∧ L.length ≤ cap ∧ Kd.C (Kd.slice 3 (Kd.int .i64)) w A L.length L := by
  obtain ⟨A, cap, e, hl, hA⟩ := N.blk
  refine ⟨A, cap, e, hl, rfl, hm, fun h0 => ?_⟩
  have hL : L ≠ [] := by rintro rfl; simp at h0
  obtain ⟨cells, er, hc⟩ := N.row hL
  refine ⟨_, hA hL, fun j p hj => ?_⟩
  obtain ⟨hlt, rfl⟩ := List.getElem?_eq_some_iff.1 hj
  obtain ⟨v, hv, hs⟩ := hc j hlt
  obtain ⟨A1, c1, rfl, hl1, hC, _⟩ := hs.ex
  refine ⟨[.slice A1 L[j].length c1], rfl, ⟨A1, c1, rfl, hl1, hC⟩, fun i u hu => ?_⟩
  have hi : i = 0 := by
    rcases i with _ | i
    · rfl
    · simp at hu
  subst hi
  simp at hu; subst hu
  have := blk_cell er j
  rw [hv] at this
  have e0 : ((⟨g, 0, none⟩ : Addr).add (j * (Kd.slice 3 (Kd.int .i64)).sz + 0)) = ⟨g, j, none⟩ := by
    show (⟨g, 0, none⟩ : Addr).add (j * 1 + 0) = _
    simp [Addr.add]; omega
  rw [e0]; exact this
theorem empty1_any (A : Option Addr) (c : Nat) (l : List Int) (w : World) :
    Calls Tryd.prog 49 #[.slice A l.length c] w fun e w' => e = .returned (.bool (l.length == 0)) ∧ Drawn0 w w' := by
  go_enter Tryd.func49, Tryd.ntmps49
  go_wp2
  go_ret
  refine ⟨ret_bool ?_, by repeat (first | exact Drawn0.refl _ | apply Drawn0.step)⟩
  rw [Bool.eq_iff_iff]; simp
set_option maxHeartbeats 8000000 in
set_option maxRecDepth 100000 in
theorem empty_any {w : World} {a g : Nat} {h : Value × Value} {L : List (List Int)} (N : Net w a g h L) (hm : L.length ≤ 9223372036854775807) :
    Calls Tryd.prog 37 #[.pointer (some ⟨a, 0, none⟩)] w fun e w' => e = .returned (.bool (L.any fun l => l.length == 0)) ∧ Drawn0 w w' := by
  have hu54 := Tryd.underlying54
  obtain ⟨A, cap, eblk, hcap, hC⟩ := N.reads hm
  have hc2 : w.cell? ⟨a, 2, none⟩ = some (.slice A L.length cap) := by simpa using blk_cell eblk 2
  have HC := Aside0.mk hC
  have HCAP := Aside0.mk hcap
  have HM := Aside0.mk hm
  clear hC hcap hm N eblk
  go_enter Tryd.func37, Tryd.ntmps37
  go_wp2_with (go_at_call 30; refine (containsFunc_any A cap L 49 #[] _ (fun l => l.length == 0) HC.out HCAP.out HM.out (enters_ Tryd.func49 (by kernel_rfl) (by kernel_rfl)) (fun i A1 c1 n hi hl hC => ?_)).mono ?_; (· exact empty1_any _ _ _ _); rintro e w' ⟨rfl, ⟨n', rfl⟩⟩)
  go_ret
  exact ⟨rfl, by repeat (first | exact Drawn0.refl _ | apply Drawn0.step)⟩
set_option maxHeartbeats 8000000 in
set_option maxRecDepth 100000 in
theorem low_any {w : World} {a g : Nat} {h : Value × Value} {L : List (List Int)} (N : Net w a g h L) (k : Int) (h0 : 0 ≤ k) (h1 : k < L.length) (hne : 0 < (rd_L1 L k).length) :
    Calls Tryd.prog 102 #[.pointer (some ⟨a, 0, none⟩), .int .i64 k] w fun e w' => e = .returned (.int .i64 (rd (rd_L1 L k) 0)) ∧ Drawn0 w w' := by
  have hu54 := Tryd.underlying54
  obtain ⟨A, cap, A1, c1, eblk, rfl, ecell, hl1, hC⟩ := N.at k h0 h1
  obtain ⟨ad, e, hc1⟩ := Kd.at_int hC (0 : Int) (by omega) (by omega)
  cases e
  have HC := Aside0.mk hC
  have hc2 : w.cell? ⟨a, 2, none⟩ = some (.slice (some ⟨g, 0, none⟩) L.length cap) := by simpa using blk_cell eblk 2
  have hk0 := eq_true h0
  have hk1 := eq_true h1
  have hk2 := eq_true hne
  have hc3 : w.cell? ad = some (.int .i64 (rd (rd_L1 L k) 0)) := by simpa [Addr.add] using hc1
  clear hC N h0 h1 eblk hl1 hne hc1
  go_enter Tryd.func102, Tryd.ntmps102
  go_wp2
  go_ret
  exact ⟨rfl, by repeat (first | exact Drawn0.refl _ | apply Drawn0.step)⟩
set_option maxHeartbeats 8000000 in
set_option maxRecDepth 100000 in
theorem high_any {w : World} {a g : Nat} {h : Value × Value} {L : List (List Int)} (N : Net w a g h L) (k : Int) (h0 : 0 ≤ k) (h1 : k < L.length) (hne : 0 < (rd_L1 L k).length) (hm : (rd_L1 L k).length < 4611686018427387904) :
    Calls Tryd.prog 103 #[.pointer (some ⟨a, 0, none⟩), .int .i64 k] w fun e w' => e = .returned (.int .i64 (rd (rd_L1 L k) (((rd_L1 L k).length - 1 : Nat) : Int))) ∧ Drawn0 w w' := by
  have hu54 := Tryd.underlying54
  obtain ⟨A, cap, A1, c1, eblk, rfl, ecell, hl1, hC⟩ := N.at k h0 h1
  obtain ⟨ad, e, hc1⟩ := Kd.at_int hC ((((rd_L1 L k).length - 1 : Nat) : Int)) (by omega) (by omega)
  cases e
  have HC := Aside0.mk hC
  have hc2 : w.cell? ⟨a, 2, none⟩ = some (.slice (some ⟨g, 0, none⟩) L.length cap) := by simpa using blk_cell eblk 2
  have hk0 := eq_true h0
  have hk1 := eq_true h1
  have hk2 : IntKind.i64.wrap ((((rd_L1 L k).length : Nat) : Int) - 1) = (((rd_L1 L k).length - 1 : Nat) : Int) := by
    rw [i64_w]; unfold wrap64; omega
  have hk3 := eq_true (show (((rd_L1 L k).length - 1 : Nat) : Int) < ((rd_L1 L k).length : Int) by omega)
  simp only [Int.toNat_natCast] at hc1
  clear hC N h0 h1 eblk hl1
  go_enter Tryd.func103, Tryd.ntmps103
  go_wp2
  go_quiet (fail)
  clear hk2
  go_wp2
  go_ret
  exact ⟨rfl, ⟨_, rfl⟩⟩
set_option maxHeartbeats 8000000 in
set_option maxRecDepth 100000 in
theorem keep_any {w : World} {a g : Nat} {h : Value × Value} {L : List (List Int)} (N : Net w a g h L) (k : Int) (h0 : 0 ≤ k) (h1 : k < L.length) (f : Nat) (caps : Array Value) (p : Int → Bool)
    (hm : (rd_L1 L k).length < 17592186044416)
    (hent : ∀ (ar : Array Value) (W : World), (callFunc f ar).run Tryd.prog W = .ok (.enter f ar) W)
    (hF : ∀ (v : Int) (W : World), v ∈ rd_L1 L k → Below w.heap.size w W → Calls Tryd.prog f (#[.int .i64 v] ++ caps) W fun e W' => e = .returned (.bool (p v)) ∧ Below W.heap.size W W') :
    Calls Tryd.prog 104 #[.pointer (some ⟨a, 0, none⟩), .int .i64 k, .func (.func f) #[] caps] w fun e w' =>
      e = .returned (.bool (decide (((rd_L1 L k).filter p).length < (rd_L1 L k).length))) ∧ Net w' a g h (L.set k.toNat ((rd_L1 L k).filter p)) ∧ Fr w w' a g := by
  have hu54 := Tryd.underlying54
  obtain ⟨A, cap, A1, c1, eblk, rfl, ecell, hl1, hC⟩ := N.at k h0 h1
  have HC := Aside0.mk hC
  have HF := Aside0.mk hF
  have HN := Aside0.mk N
  have HM := Aside0.mk hm
  have HBLK := Aside0.mk eblk
  have hc2 : w.cell? ⟨a, 2, none⟩ = some (.slice (some ⟨g, 0, none⟩) L.length cap) := by simpa using blk_cell eblk 2
  have hk0 := eq_true h0
  have hk1 := eq_true h1
  obtain ⟨l, el⟩ : ∃ l, l = rd_L1 L k := ⟨_, rfl⟩
  rw [← el] at HC HF HM hl1 ecell
  have EL := Aside0.mk el
  clear hC hF N hm h0 h1 el eblk hl1
  go_enter Tryd.func104, Tryd.ntmps104
  go_wp2
  go_loopw [19, 7] (fun v19 v7 wr => ∃ (i : Nat), i ≤ l.length ∧ v19 = .int .i64 i ∧ Aside0 (Kd.R (Kd.int .i64) 3 wr w.heap.size (fun _ => True) v7 ((l.take i).filter p)) ∧ Aside0 (Below w.heap.size w wr)) (fun v19 _ _ => l.length - (intOf v19).toNat)
  case atStart => exact ⟨0, Nat.zero_le _, rfl, ⟨Kd.R_nil _ _ _ _ _⟩, ⟨Below.refl _ _⟩⟩
  case round =>
    obtain ⟨i, hi, rfl, HR, HB⟩ := hrel
    have HI := Aside0.mk hi
    obtain ⟨q, eq⟩ : ∃ q, q = (l.take i).filter p := ⟨_, rfl⟩
    have hql : q.length ≤ i := by rw [eq]; exact Nat.le_trans (List.length_filter_le _ _) (by simp; omega)
    rw [← eq] at HR
    have EQ := Aside0.mk eq
    have HQL := Aside0.mk hql
    clear eq hql
    obtain ⟨Av, cv, rfl⟩ := Kd.R_slice HR.out
    by_cases hlt : i < l.length
    · obtain ⟨ad, e, hc1⟩ := Kd.at_int HC.out (i : Int) (by omega) (by omega)
      cases e
      replace hc1 := (HB.out.cell (World.block_lt_of_cell? w _ hc1)).trans hc1
      simp only [Int.toNat_natCast] at hc1
      have HMEM := Aside0.mk (show rd l i ∈ l by simp [rd, hlt])
      have HTK := Aside0.mk (show l.take (i + 1) = l.take i ++ [rd l i] by rw [List.take_succ_eq_append_getElem hlt]; simp [rd, hlt])
      by_cases hp : p (rd l i) = true
      · go_upto_region 6 with ((with_reducible refine (HF.out (rd l i) _ HMEM.out ?hb).mono ?_); (case hb => repeat (first | exact HB.out | apply below_drew | apply pw_below_drewN)); rintro e w2 ⟨rfl, hb⟩; have HB2 := Aside0.mk hb; clear hb; have HR2 := Aside0.mk (Kd.R_below (by (with_reducible repeat (first | apply Kd.R_alloc | apply Kd.R_drewN | apply Kd.R_drew)); exact HR.out) HB2.out); have HBB := Aside0.mk (below_step (by repeat (first | exact HB.out | apply below_drew | apply pw_below_drewN)) HB2.out); clear HR)
        go_wp2_with ((with_reducible refine gate_builtin (b := .append) (xs := #[.tmp 26, .tmp 28]) rfl ?_); at_builtin; refine Kd.R_append (Kd.int .i64) (w0 := w) w.heap.size rfl (.tmp 26) (.tmp 28) 26 3 (.int .i64 0) 8 rfl Tryd.underlying26 info3 rfl (by decide) (by omega) (.slice Av q.length cv) q (rd l i) [.int .i64 (rd l i)] (fun _ => True) (fun _ => False) rfl rfl ?aP (fun _ hk => hk.elim) ?aF ?aO ?aB ?aS ?aL ?_; (case aP => exact rfl); (case aB => exact (by repeat (first | exact HBB.out | apply below_alloc | apply below_drew | apply pw_below_drewN))); (case aF => exact (fun _ _ => trivial)); (case aO => exact (by (with_reducible repeat (first | apply Kd.R_alloc | apply Kd.R_drewN | apply Kd.R_drew)); exact HR2.out)); (case aS => exact (below_size (by repeat (first | exact HBB.out | apply below_alloc | apply below_drew | apply pw_below_drewN)))); (case aL => have := HQL.out; have := HM.out; omega); intro v1 w3 ho hb hg hat; have HR3 := Aside0.mk ho; have HB3 := Aside0.mk hb; clear ho hb hg hat)
        have hw : wrap64 ((i : Int) + 1) = ((i + 1 : Nat) : Int) := by have := HM.out; unfold wrap64; omega
        go_roundw
        case rel =>
          refine ⟨i + 1, by omega, by rw [hw], ⟨?_⟩, ⟨HB3.out⟩⟩
          rw [HTK.out, List.filter_append, ← EQ.out]
          have e1 : [rd l i].filter p = [rd l i] := by simp [hp]
          rw [e1]; exact HR3.out
        case measure => rw [hw]; simp [intOf]; omega
      · have hp' : p (rd l i) = false := by simpa using hp
        clear hp
        go_wp2_with ((with_reducible refine (HF.out (rd l i) _ HMEM.out ?hb).mono ?_); (case hb => repeat (first | exact HB.out | apply below_drew | apply pw_below_drewN)); rintro e w2 ⟨rfl, hb⟩; have HB2 := Aside0.mk hb; clear hb; have HR2 := Aside0.mk (Kd.R_below (by (with_reducible repeat (first | apply Kd.R_alloc | apply Kd.R_drewN | apply Kd.R_drew)); exact HR.out) HB2.out); have HBB := Aside0.mk (below_step (by repeat (first | exact HB.out | apply below_drew | apply pw_below_drewN)) HB2.out); clear HR)
        have hw : wrap64 ((i : Int) + 1) = ((i + 1 : Nat) : Int) := by have := HM.out; unfold wrap64; omega
        go_roundw
        case rel =>
          refine ⟨i + 1, by omega, by rw [hw], ⟨?_⟩, ⟨HBB.out⟩⟩
          rw [HTK.out, List.filter_append, ← EQ.out]
          have e1 : [rd l i].filter p = [] := by simp [hp']
          rw [e1, List.append_nil]; exact HR2.out
        case measure => rw [hw]; simp [intOf]; omega
    · obtain rfl : i = l.length := by omega
      have HQ := Aside0.mk (show q = l.filter p by have := EQ.out; rwa [List.take_of_length_le (Nat.le_refl _)] at this)
      have hc2' := (HB.out.cell (World.block_lt_of_cell? w _ hc2)).trans hc2
      have hcg' := (HB.out.cell (World.block_lt_of_cell? w _ ecell)).trans ecell
      obtain ⟨cells, er, hrow⟩ := HN.out.row (by intro e; rw [e] at hk1; simp at hk1; have := of_eq_true hk0; omega)
      have HROW := Aside0.mk hrow
      have HER := Aside0.mk (show wr.heap[g]? = some (.cells cells 26 (0, 0)) from (HB.out.block g (blk_lt er)).trans er)
      clear hrow er
      have hfr := blk_frozen HER.out k.toNat
      clear EQ
      go_wp2
      go_ret
      have hq := HQ.out
      have hl := EL.out
      have h5 : k.toNat < L.length := by have := of_eq_true hk0; have := of_eq_true hk1; omega
      have hput := HN.out.put HB.out k.toNat h5 HR.out
      rw [← hl, ← hq]
      exact ⟨rfl, hput⟩
/-- a constraint as a value -/
def conV (kd : Int) (v1 v2 v3 : Value) (lim : Int) (v5 : Value) : Value := .agg #[.int .i64 kd, v1, v2, v3, .int .i64 lim, v5]
def ruleT (kd : Int) : Nat := if kd = 1 then 94 else if kd = 2 then 95 else if kd = 3 then 96 else if kd = 4 then 97 else 98
set_option maxHeartbeats 8000000 in
set_option maxRecDepth 100000 in
theorem ruleOf_any (kd lim : Int) (A1 : Option Addr) (n1 c1 : Nat) (A2 : Option Addr) (n2 c2 : Nat) (A3 : Option Addr) (n3 c3 : Nat) (A5 : Option Addr) (n5 c5 : Nat) (w : World) :
    Calls Tryd.prog 38 #[.agg #[.int .i64 kd, .slice A1 n1 c1, .slice A2 n2 c2, .slice A3 n3 c3, .int .i64 lim, .slice A5 n5 c5]] w fun e w' =>
      e = .returned (.iface (ruleT kd) (.agg #[.int .i64 kd, .slice A1 n1 c1, .slice A2 n2 c2, .slice A3 n3 c3, .int .i64 lim, .slice A5 n5 c5])) ∧ Below w.heap.size w w' := by
  have hu44 := Tryd.underlying44
  by_cases h1 : kd = 1
  · subst h1
    go_enter Tryd.func38, Tryd.ntmps38
    go_wp2
    go_ret
    exact ⟨rfl, by repeat (first | exact Below.refl _ _ | apply below_alloc | apply below_drew)⟩
  by_cases h2 : kd = 2
  · subst h2
    go_enter Tryd.func38, Tryd.ntmps38
    go_wp2
    go_ret
    exact ⟨rfl, by repeat (first | exact Below.refl _ _ | apply below_alloc | apply below_drew)⟩
  by_cases h3 : kd = 3
  · subst h3
    go_enter Tryd.func38, Tryd.ntmps38
    go_wp2
    go_ret
    exact ⟨rfl, by repeat (first | exact Below.refl _ _ | apply below_alloc | apply below_drew)⟩
  by_cases h4 : kd = 4
  · subst h4
    go_enter Tryd.func38, Tryd.ntmps38
    go_wp2
    go_ret
    exact ⟨rfl, by repeat (first | exact Below.refl _ _ | apply below_alloc | apply below_drew)⟩
  have k1 : (kd == 1) = false := beq_eq_false_iff_ne.2 h1
  have k2 : (kd == 2) = false := beq_eq_false_iff_ne.2 h2
  have k3 : (kd == 3) = false := beq_eq_false_iff_ne.2 h3
  have k4 : (kd == 4) = false := beq_eq_false_iff_ne.2 h4
  go_enter Tryd.func38, Tryd.ntmps38
  go_wp2
  go_ret
  exact ⟨by simp [ruleT, h1, h2, h3, h4], by repeat (first | exact Below.refl _ _ | apply below_alloc | apply below_drew)⟩
set_option maxHeartbeats 8000000 in
set_option maxRecDepth 100000 in
/-- the method of differs: what its callee does -/
theorem differs_narrow {Q : Ending → World → Prop} (kd lim : Int) (A1 : Option Addr) (n1 c1 : Nat) (A2 : Option Addr) (n2 c2 : Nat) (A3 : Option Addr) (n3 c3 : Nat) (A5 : Option Addr) (n5 c5 : Nat) (p : Addr) (w : World)
    (hC : ∀ W : World, Below w.heap.size w W → Calls Tryd.prog 93 #[.pointer (some p), .agg #[.int .i64 kd, .slice A1 n1 c1, .slice A2 n2 c2, .slice A3 n3 c3, .int .i64 lim, .slice A5 n5 c5]] W fun e w' => ∃ b, e = .returned (.bool b) ∧ Q (.returned (.bool b)) w') :
    Calls Tryd.prog 92 #[.agg #[.int .i64 kd, .slice A1 n1 c1, .slice A2 n2 c2, .slice A3 n3 c3, .int .i64 lim, .slice A5 n5 c5], .pointer (some p)] w fun e w' => ∃ b, e = .returned (.bool b) ∧ Q (.returned (.bool b)) w' := by
  have hu44 := Tryd.underlying44
  have hut := Tryd.underlying94
  have HC := Aside0.mk hC
  clear hC
  go_enter Tryd.func92, Tryd.ntmps92
  go_wp2_with (go_at_call 93; refine (HC.out _ ?_).mono ?_; (· repeat (first | exact Below.refl _ _ | apply below_alloc | apply below_drew)); rintro e w' ⟨b, rfl, hq⟩; have HQ := Aside0.mk hq; clear hq)
  go_ret
  exact ⟨_, rfl, HQ.out⟩
set_option maxHeartbeats 8000000 in
set_option maxRecDepth 100000 in
/-- the method of sums: what its callee does -/
theorem sums_narrow {Q : Ending → World → Prop} (kd lim : Int) (A1 : Option Addr) (n1 c1 : Nat) (A2 : Option Addr) (n2 c2 : Nat) (A3 : Option Addr) (n3 c3 : Nat) (A5 : Option Addr) (n5 c5 : Nat) (p : Addr) (w : World)
    (hC : ∀ W : World, Below w.heap.size w W → Calls Tryd.prog 101 #[.pointer (some p), .agg #[.int .i64 kd, .slice A1 n1 c1, .slice A2 n2 c2, .slice A3 n3 c3, .int .i64 lim, .slice A5 n5 c5]] W fun e w' => ∃ b, e = .returned (.bool b) ∧ Q (.returned (.bool b)) w') :
    Calls Tryd.prog 100 #[.agg #[.int .i64 kd, .slice A1 n1 c1, .slice A2 n2 c2, .slice A3 n3 c3, .int .i64 lim, .slice A5 n5 c5], .pointer (some p)] w fun e w' => ∃ b, e = .returned (.bool b) ∧ Q (.returned (.bool b)) w' := by
  have hu44 := Tryd.underlying44
  have hut := Tryd.underlying95
  have HC := Aside0.mk hC
  clear hC
  go_enter Tryd.func100, Tryd.ntmps100
  go_wp2_with (go_at_call 101; refine (HC.out _ ?_).mono ?_; (· repeat (first | exact Below.refl _ _ | apply below_alloc | apply below_drew)); rintro e w' ⟨b, rfl, hq⟩; have HQ := Aside0.mk hq; clear hq)
  go_ret
  exact ⟨_, rfl, HQ.out⟩
set_option maxHeartbeats 8000000 in
set_option maxRecDepth 100000 in
/-- the method of tables: what its callee does -/
theorem tables_narrow {Q : Ending → World → Prop} (kd lim : Int) (A1 : Option Addr) (n1 c1 : Nat) (A2 : Option Addr) (n2 c2 : Nat) (A3 : Option Addr) (n3 c3 : Nat) (A5 : Option Addr) (n5 c5 : Nat) (p : Addr) (w : World)
    (hC : ∀ W : World, Below w.heap.size w W → Calls Tryd.prog 107 #[.pointer (some p), .agg #[.int .i64 kd, .slice A1 n1 c1, .slice A2 n2 c2, .slice A3 n3 c3, .int .i64 lim, .slice A5 n5 c5]] W fun e w' => ∃ b, e = .returned (.bool b) ∧ Q (.returned (.bool b)) w') :
    Calls Tryd.prog 106 #[.agg #[.int .i64 kd, .slice A1 n1 c1, .slice A2 n2 c2, .slice A3 n3 c3, .int .i64 lim, .slice A5 n5 c5], .pointer (some p)] w fun e w' => ∃ b, e = .returned (.bool b) ∧ Q (.returned (.bool b)) w' := by
  have hu44 := Tryd.underlying44
  have hut := Tryd.underlying96
  have HC := Aside0.mk hC
  clear hC
  go_enter Tryd.func106, Tryd.ntmps106
  go_wp2_with (go_at_call 107; refine (HC.out _ ?_).mono ?_; (· repeat (first | exact Below.refl _ _ | apply below_alloc | apply below_drew)); rintro e w' ⟨b, rfl, hq⟩; have HQ := Aside0.mk hq; clear hq)
  go_ret
  exact ⟨_, rfl, HQ.out⟩
set_option maxHeartbeats 8000000 in
set_option maxRecDepth 100000 in
/-- the method of places: what its callee does -/
theorem places_narrow {Q : Ending → World → Prop} (kd lim : Int) (A1 : Option Addr) (n1 c1 : Nat) (A2 : Option Addr) (n2 c2 : Nat) (A3 : Option Addr) (n3 c3 : Nat) (A5 : Option Addr) (n5 c5 : Nat) (p : Addr) (w : World)
    (hC : ∀ W : World, Below w.heap.size w W → Calls Tryd.prog 111 #[.pointer (some p), .agg #[.int .i64 kd, .slice A1 n1 c1, .slice A2 n2 c2, .slice A3 n3 c3, .int .i64 lim, .slice A5 n5 c5]] W fun e w' => ∃ b, e = .returned (.bool b) ∧ Q (.returned (.bool b)) w') :
    Calls Tryd.prog 110 #[.agg #[.int .i64 kd, .slice A1 n1 c1, .slice A2 n2 c2, .slice A3 n3 c3, .int .i64 lim, .slice A5 n5 c5], .pointer (some p)] w fun e w' => ∃ b, e = .returned (.bool b) ∧ Q (.returned (.bool b)) w' := by
  have hu44 := Tryd.underlying44
  have hut := Tryd.underlying97
  have HC := Aside0.mk hC
  clear hC
  go_enter Tryd.func110, Tryd.ntmps110
  go_wp2_with (go_at_call 111; refine (HC.out _ ?_).mono ?_; (· repeat (first | exact Below.refl _ _ | apply below_alloc | apply below_drew)); rintro e w' ⟨b, rfl, hq⟩; have HQ := Aside0.mk hq; clear hq)
  go_ret
  exact ⟨_, rfl, HQ.out⟩
set_option maxHeartbeats 8000000 in
set_option maxRecDepth 100000 in
/-- the method of shares: what its callee does -/
theorem shares_narrow {Q : Ending → World → Prop} (kd lim : Int) (A1 : Option Addr) (n1 c1 : Nat) (A2 : Option Addr) (n2 c2 : Nat) (A3 : Option Addr) (n3 c3 : Nat) (A5 : Option Addr) (n5 c5 : Nat) (p : Addr) (w : World)
    (hC : ∀ W : World, Below w.heap.size w W → Calls Tryd.prog 119 #[.pointer (some p), .agg #[.int .i64 kd, .slice A1 n1 c1, .slice A2 n2 c2, .slice A3 n3 c3, .int .i64 lim, .slice A5 n5 c5]] W fun e w' => ∃ b, e = .returned (.bool b) ∧ Q (.returned (.bool b)) w') :
    Calls Tryd.prog 118 #[.agg #[.int .i64 kd, .slice A1 n1 c1, .slice A2 n2 c2, .slice A3 n3 c3, .int .i64 lim, .slice A5 n5 c5], .pointer (some p)] w fun e w' => ∃ b, e = .returned (.bool b) ∧ Q (.returned (.bool b)) w' := by
  have hu44 := Tryd.underlying44
  have hut := Tryd.underlying98
  have HC := Aside0.mk hC
  clear hC
  go_enter Tryd.func118, Tryd.ntmps118
  go_wp2_with (go_at_call 119; refine (HC.out _ ?_).mono ?_; (· repeat (first | exact Below.refl _ _ | apply below_alloc | apply below_drew)); rintro e w' ⟨b, rfl, hq⟩; have HQ := Aside0.mk hq; clear hq)
  go_ret
  exact ⟨_, rfl, HQ.out⟩
theorem i64_mid {x : Int} (h0 : -9223372036854775808 ≤ x) (h1 : x ≤ 9223372036854775807) : IntKind.i64.wrap x = x := by rw [i64_w]; unfold wrap64; omega
set_option maxHeartbeats 8000000 in
set_option maxRecDepth 100000 in
theorem sum1_any (gc gi gm gl : Nat) (v lim i most least : Int) (A2 : Option Addr) (c2 : Nat) (nums : List Int) (w : World)
    (hC : Kd.C (Kd.int .i64) w A2 nums.length nums) (h2 : w.cell? ⟨gc, 2, none⟩ = some (.slice A2 nums.length c2)) (h4 : w.cell? ⟨gc, 4, none⟩ = some (.int .i64 lim))
    (hi : w.cell? ⟨gi, 0, none⟩ = some (.int .i64 i)) (hmo : w.cell? ⟨gm, 0, none⟩ = some (.int .i64 most)) (hle : w.cell? ⟨gl, 0, none⟩ = some (.int .i64 least))
    (i0 : 0 ≤ i) (i1 : i < nums.length) (bv : -100000000 ≤ v ∧ v ≤ 100000000) (bn : -100000000 ≤ rd nums i ∧ rd nums i ≤ 100000000) (bl : -100000000 ≤ lim ∧ lim ≤ 100000000)
    (bm : -1000000000000000000 ≤ most ∧ most ≤ 1000000000000000000) (be : -1000000000000000000 ≤ least ∧ least ≤ 1000000000000000000) :
    Calls Tryd.prog 105 #[.int .i64 v, .pointer (some ⟨gc, 0, none⟩), .pointer (some ⟨gi, 0, none⟩), .pointer (some ⟨gm, 0, none⟩), .pointer (some ⟨gl, 0, none⟩)] w fun e w' =>
      e = .returned (.bool (decide (lim - most ≤ rd nums i * v) && decide (rd nums i * v ≤ lim - least))) ∧ Drawn0 w w' := by
  have hu44 := Tryd.underlying44
  obtain ⟨ad, e, hc1⟩ := Kd.at_int hC i i0 i1
  cases e
  have hb := mul_bd _ _ bn bv
  have w1 : IntKind.i64.wrap (rd nums i * v) = rd nums i * v := i64_mid (by omega) (by omega)
  have w2 : IntKind.i64.wrap (lim - most) = lim - most := i64_mid (by omega) (by omega)
  have w3 : IntKind.i64.wrap (lim - least) = lim - least := i64_mid (by omega) (by omega)
  have k0 := eq_true i0
  have k1 := eq_true i1
  clear hC hb bv bn bl bm be i0 i1
  by_cases hp : lim - most ≤ rd nums i * v
  · have HP := Aside0.mk hp
    have hp2 : (rd nums i * v ≥ lim - most) = True := eq_true hp
    clear hp
    go_enter Tryd.func105, Tryd.ntmps105
    go_wp2
    go_quiet (fail)
    go_wp2
    go_ret
    exact ⟨ret_bool (by rw [decide_eq_true (show lim - most ≤ rd nums i * v from by have := HP.out; omega), Bool.true_and]), by repeat (first | exact ⟨_, rfl⟩ | apply Drawn0.step)⟩
  · have HP := Aside0.mk hp
    have hp2 : (rd nums i * v ≥ lim - most) = False := eq_false hp
    clear hp
    go_enter Tryd.func105, Tryd.ntmps105
    go_wp2
    go_quiet (fail)
    go_wp2
    go_ret
    exact ⟨ret_bool (by rw [decide_eq_false (show ¬ lim - most ≤ rd nums i * v from by have := HP.out; omega), Bool.false_and]), by repeat (first | exact ⟨_, rfl⟩ | apply Drawn0.step)⟩
/-- what the others of a sum make at least and at most -/
def partLo (nums vars : List Int) (L : List (List Int)) (i : Nat) : Nat → Int
  | 0 => 0
  | j + 1 => if j = i then partLo nums vars L i j else partLo nums vars L i j + min (rd nums j * rd (rd_L1 L (rd vars j)) 0) (rd nums j * rd (rd_L1 L (rd vars j)) (((rd_L1 L (rd vars j)).length - 1 : Nat) : Int))
def partHi (nums vars : List Int) (L : List (List Int)) (i : Nat) : Nat → Int
  | 0 => 0
  | j + 1 => if j = i then partHi nums vars L i j else partHi nums vars L i j + max (rd nums j * rd (rd_L1 L (rd vars j)) 0) (rd nums j * rd (rd_L1 L (rd vars j)) (((rd_L1 L (rd vars j)).length - 1 : Nat) : Int))
theorem partLo_bd (nums vars : List Int) (L : List (List Int)) (i : Nat) (bn : ∀ x ∈ nums, -100000000 ≤ x ∧ x ≤ 100000000) (bL : ∀ k, ∀ x ∈ rd_L1 L k, -100000000 ≤ x ∧ x ≤ 100000000) (j : Nat) :
    -(j * 10000000000000000 : Int) ≤ partLo nums vars L i j ∧ partLo nums vars L i j ≤ j * 10000000000000000 := by
  induction j with
  | zero => simp [partLo]
  | succ j ih =>
    have h1 := mul_bd _ _ (rd_bd (B := 100000000) (by decide) bn j) (rd_bd (B := 100000000) (by decide) (bL (rd vars j)) 0)
    have h2 := mul_bd _ _ (rd_bd (B := 100000000) (by decide) bn j) (rd_bd (B := 100000000) (by decide) (bL (rd vars j)) ((rd_L1 L (rd vars j)).length - 1))
    simp only [partLo, Int.natCast_zero] at *
    split <;> omega
theorem partHi_bd (nums vars : List Int) (L : List (List Int)) (i : Nat) (bn : ∀ x ∈ nums, -100000000 ≤ x ∧ x ≤ 100000000) (bL : ∀ k, ∀ x ∈ rd_L1 L k, -100000000 ≤ x ∧ x ≤ 100000000) (j : Nat) :
    -(j * 10000000000000000 : Int) ≤ partHi nums vars L i j ∧ partHi nums vars L i j ≤ j * 10000000000000000 := by
  induction j with
  | zero => simp [partHi]
  | succ j ih =>
    have h1 := mul_bd _ _ (rd_bd (B := 100000000) (by decide) bn j) (rd_bd (B := 100000000) (by decide) (bL (rd vars j)) 0)
    have h2 := mul_bd _ _ (rd_bd (B := 100000000) (by decide) bn j) (rd_bd (B := 100000000) (by decide) (bL (rd vars j)) ((rd_L1 L (rd vars j)).length - 1))
    simp only [partHi, Int.natCast_zero] at *
    split <;> omega
def total (L : List (List Int)) : Nat := (L.map List.length).sum
/-- What a rule makes of the lists: nothing that is sound goes. -/
structure Red (sound : List Int → Prop) (L L' : List (List Int)) (b : Bool) : Prop where
  len : L'.length = L.length
  sub : ∀ i : Nat, i < L.length → (rd_L1 L' i).Sublist (rd_L1 L i)
  le : total L' ≤ total L
  less : b = true → total L' < total L
  same : b = false → L' = L
  sol : ∀ x, sound x → (∀ i : Nat, i < L.length → rd x i ∈ rd_L1 L i) → ∀ i : Nat, i < L.length → rd x i ∈ rd_L1 L' i
theorem Red.refl (sound : List Int → Prop) (L : List (List Int)) : Red sound L L false := ⟨rfl, fun _ _ => List.Sublist.refl _, Nat.le_refl _, (fun h => by cases h), fun _ => rfl, fun _ _ h => h⟩
theorem Red.trans {sound : List Int → Prop} {L L1 L2 : List (List Int)} {b c : Bool} (h : Red sound L L1 b) (k : Red sound L1 L2 c) : Red sound L L2 (b || c) := by
  refine ⟨k.len.trans h.len, fun i hi => (k.sub i (by rw [h.len]; exact hi)).trans (h.sub i hi), Nat.le_trans k.le h.le, fun e => ?_, fun e => ?_, fun x hx hin i hi => ?_⟩
  · rcases Bool.or_eq_true_iff.1 e with e | e
    · exact Nat.lt_of_le_of_lt k.le (h.less e)
    · exact Nat.lt_of_lt_of_le (k.less e) h.le
  · rw [Bool.or_eq_false_iff] at e; exact (k.same e.2).trans (h.same e.1)
  · exact k.sol x hx (fun j hj => h.sol x hx hin j (by rw [h.len] at hj; exact hj)) i (by rw [h.len]; exact hi)
theorem total_set (L : List (List Int)) (k : Nat) (hk : k < L.length) (q : List Int) : total (L.set k q) + (rd_L1 L k).length = total L + q.length := by
  unfold total
  induction L generalizing k with
  | nil => simp at hk
  | cons a L ih =>
    cases k with
    | zero => simp [rd_L1]; omega
    | succ k =>
      have := ih k (by simpa using hk)
      have e : rd_L1 (a :: L) ((k + 1 : Nat) : Int) = rd_L1 L (k : Int) := by simp [rd_L1]
      rw [e]; simp only [List.set_cons_succ, List.map_cons, List.sum_cons]; omega
theorem rd_set_same (L : List (List Int)) (k : Nat) (hk : k < L.length) (q : List Int) : rd_L1 (L.set k q) (k : Int) = q := by simp [rd_L1, hk]
theorem rd_set_ne (L : List (List Int)) (k i : Nat) (h : k ≠ i) (q : List Int) : rd_L1 (L.set k q) (i : Int) = rd_L1 L (i : Int) := by
  simp [rd_L1, List.getD_eq_getElem?_getD, List.getElem?_set_ne h]
/-- one keep -/
theorem Red.keep {sound : List Int → Prop} {L : List (List Int)} (k : Int) (h0 : 0 ≤ k) (h1 : k < L.length) (p : Int → Bool) (hp : ∀ x, sound x → (∀ i : Nat, i < L.length → rd x i ∈ rd_L1 L i) → p (rd x k) = true) :
    Red sound L (L.set k.toNat ((rd_L1 L k).filter p)) (decide (((rd_L1 L k).filter p).length < (rd_L1 L k).length)) := by
  obtain ⟨k, rfl⟩ : ∃ m : Nat, k = m := ⟨k.toNat, by omega⟩
  have hk : k < L.length := by omega
  simp only [Int.toNat_natCast]
  have ht := total_set L k hk ((rd_L1 L k).filter p)
  have hle := List.length_filter_le p (rd_L1 L k)
  refine ⟨by simp, fun i hi => ?_, by omega, fun e => by simp only [decide_eq_true_eq] at e; omega, fun e => ?_, fun x hx hin i hi => ?_⟩
  · by_cases e : k = i
    · subst e; rw [rd_set_same L k hk]; exact List.filter_sublist
    · rw [rd_set_ne L k i e]; exact List.Sublist.refl _
  · simp only [decide_eq_false_iff_not] at e
    have e1 : (rd_L1 L (k : Int)).filter p = rd_L1 L (k : Int) := List.filter_sublist.eq_of_length_le (by omega)
    rw [e1]
    have e2 : rd_L1 L (k : Int) = L[k] := by simp [rd_L1, hk]
    rw [e2, List.set_getElem_self]
  · by_cases e : k = i
    · subst e; rw [rd_set_same L k hk]; exact List.mem_filter.2 ⟨hin k hi, hp x hx hin⟩
    · rw [rd_set_ne L k i e]; exact hin i hi
end Go.Proofs.YtehekppkicjimaaDoor.QFK
