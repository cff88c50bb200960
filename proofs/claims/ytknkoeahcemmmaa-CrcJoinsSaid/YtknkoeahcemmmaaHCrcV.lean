/-
  Plainly: the document's row of the table and its sum of bytes, bit by bit, are the table's; and the walk of CrcSums.
-/
import Derived.Test.YtknkoeahcemmmaaPCrsx2
import Derived.Test.YtknkoeahcemmmaaHCrcU
import Derived.Deep.MidRow
import Derived.Deep.RegionHeld3
namespace Go.Proofs.Ytknkoeahcemmmaa.PureS
open Go.RowKit Go.Proofs.Ytknkoeahcemmmaa.PCrs Go.Proofs.YtknkoeahcemmmaaW.PrintWords Go.Proofs.YtknkoeahcemmmaaW.PrintLast Go.Proofs.YtknkoeahcemmmaaW.PrintMore Go.Proofs.Ytknkoeahcemmmaa.Hand

def Bs (l : List Int) : Prop := ∀ x ∈ l, 0 ≤ x ∧ x < 256
theorem w64 {n : Int} (h0 : 0 ≤ n) (h1 : n < 9223372036854775808) : wrap64 n = n := by unfold wrap64; omega
theorem step_f (w b : Nat) (hw : w < 4294967296) (hb : b < 2) : ref03_step.f (w : Int) (b : Int) = some ((stp (w ^^^ b) : Nat) : Int) := by
  have hx : (w ^^^ b) % 2 = (w % 2) ^^^ (b % 2) := Nat.xor_mod_two_pow (n := 1)
  have e1 : Int.tmod (w : Int) 2 = ((w % 2 : Nat) : Int) := by rw [Int.tmod_eq_emod_of_nonneg (by omega)]; omega
  have e2 : Int.tdiv (w : Int) 2 % 4294967296 = ((w / 2 : Nat) : Int) := by rw [Int.tdiv_eq_ediv_of_nonneg (by omega)]; omega
  have e3 : Go.bits .xor .u32 ((w / 2 : Nat) : Int) 3988292384 = ((w / 2 ^^^ 3988292384 : Nat) : Int) := by
    rw [show (3988292384 : Int) = ((3988292384 : Nat) : Int) from rfl, u32_xor_nat _ _ (by omega) (by decide)]
  unfold ref03_step.f stp
  rw [e1, e2, e3, Nat.xor_div_two, hx]
  have hw2 := Nat.mod_two_eq_zero_or_one w
  have hb2 : b = 0 ∨ b = 1 := by omega
  rcases hw2 with h | h <;> rcases hb2 with rfl | rfl <;> rw [h] <;> simp
theorem sum_l1 (l : List Int) (i : Nat) (hi : i < 140737488355328) : ∀ (d j k w c : Nat), j + d = 8 → d < k → w < 4294967296 → c < 2 ^ d →
    ref03_Sum.l1 k l (w : Int) (i : Int) (c : Int) (j : Int) = ref03_Sum.l0 (k - (d + 1)) l ((stpN d (w ^^^ c) : Nat) : Int) ((i + 1 : Nat) : Int) := by
  intro d
  induction d with
  | zero =>
    intro j k w c hj hk hw hc
    obtain ⟨k, rfl⟩ : ∃ q, k = q + 1 := ⟨k - 1, by omega⟩
    obtain rfl : c = 0 := by simpa using hc
    rw [ref03_Sum.l1, if_neg (by omega), Nat.xor_zero, w64 (by omega) (by omega)]
    simp only [stpN, Nat.zero_add, Nat.add_sub_cancel]
    rfl
  | succ d ih =>
    intro j k w c hj hk hw hc
    obtain ⟨k, rfl⟩ : ∃ q, k = q + 1 := ⟨k - 1, by omega⟩
    have hc2 : c < 256 := Nat.lt_of_lt_of_le hc (show 2 ^ (d + 1) ≤ 2 ^ 8 from Nat.pow_le_pow_right (by omega) (by omega))
    have hcd : c / 2 < 2 ^ d := by rw [Nat.pow_succ] at hc; omega
    have e1 : Int.tmod (c : Int) 2 = ((c % 2 : Nat) : Int) := by rw [Int.tmod_eq_emod_of_nonneg (by omega)]; omega
    have e2 : Int.tdiv (c : Int) 2 % 4294967296 = ((c / 2 : Nat) : Int) := by rw [Int.tdiv_eq_ediv_of_nonneg (by omega)]; omega
    have hlt : w ^^^ c % 2 < 4294967296 := Nat.xor_lt_two_pow (n := 32) hw (by omega)
    rw [ref03_Sum.l1, if_pos (by omega), e1, e2, step_f w (c % 2) hw (by omega)]
    simp only [Option.bind_some]
    rw [w64 (n := (j : Int) + 1) (by omega) (by omega), show ((j : Int) + 1) = ((j + 1 : Nat) : Int) by omega, ih (j + 1) k _ (c / 2) (by omega) (by omega) (stp_lt hlt) hcd, show k + 1 - (d + 1 + 1) = k - (d + 1) by omega]
    congr 2
    simp only [stpN]
    have h := low_high c 1
    have e4 : w ^^^ c = (w ^^^ c % 2) ^^^ 2 * (c / 2) := by
      rw [Nat.xor_assoc, Nat.xor_comm (c % 2)]
      exact congrArg (w ^^^ ·) h.symm
    rw [e4, stp_xor (w ^^^ c % 2), stp_double]
theorem sum_l0 (l : List Int) (hb : Bs l) (hl : l.length < 140737488355328) : ∀ (d i k w : Nat), i + d = l.length → 10 * d < k → w < 4294967296 → ref03_Sum.l0 k l (w : Int) (i : Int) = some ((ones ^^^ crcReg crcRow w (l.drop i) : Nat) : Int) := by
  intro d
  induction d with
  | zero =>
    intro i k w hi hk hw
    obtain ⟨k, rfl⟩ : ∃ q, k = q + 1 := ⟨k - 1, by omega⟩
    rw [ref03_Sum.l0, if_neg (by omega), List.drop_of_length_le (by omega)]
    simp only [crcReg]
    rw [not_eq hw]
    congr 1
    omega
  | succ d ih =>
    intro i k w hi hk hw
    obtain ⟨k, rfl⟩ : ∃ q, k = q + 1 := ⟨k - 1, by omega⟩
    have hil : i < l.length := by omega
    have hc := hb _ (List.getElem_mem hil)
    have er : rd l (i : Int) = l[i] := by simp only [rd, Int.toNat_natCast, List.getD_eq_getElem?_getD]; rw [List.getElem?_eq_getElem hil]; rfl
    obtain ⟨c, hcn⟩ := Int.eq_ofNat_of_zero_le hc.1
    have hc2 : c < 256 := by omega
    rw [ref03_Sum.l0, if_pos (by omega), if_pos (by omega), er, hcn, show (c : Int) % 4294967296 = (c : Int) by omega, show (0 : Int) = ((0 : Nat) : Int) from rfl,
      sum_l1 l i (by omega) 8 0 k w c rfl (by omega) hw hc2, ih (i + 1) _ _ (by omega) (by omega) (stpN_lt 8 (Nat.xor_lt_two_pow (n := 32) hw (by omega))), List.drop_eq_getElem_cons hil]
    simp only [crcReg]
    rw [crcBy_row, hcn, Int.toNat_natCast]
theorem refCrc_f (l : List Int) (hb : Bs l) (hl : l.length < 140737488355328) (k : Nat) (hk : 10 * l.length < k) : ref03_Sum.f k l = some ((crcSum l : Nat) : Int) := by
  unfold ref03_Sum.f
  have := sum_l0 l hb hl l.length 0 k ones (by omega) hk (by decide)
  rw [List.drop_zero] at this
  exact this

theorem row_l : ∀ (d j k w : Nat), j + d = 8 → d < k → w < 4294967296 → ref03_Row.l0 k (w : Int) (j : Int) = some ((stpN d w : Nat) : Int) := by
  intro d
  induction d with
  | zero =>
    intro j k w hj hk hw
    obtain ⟨k, rfl⟩ : ∃ q, k = q + 1 := ⟨k - 1, by omega⟩
    rw [ref03_Row.l0, if_neg (by omega)]
    rfl
  | succ d ih =>
    intro j k w hj hk hw
    obtain ⟨k, rfl⟩ : ∃ q, k = q + 1 := ⟨k - 1, by omega⟩
    have hs := step_f w 0 hw (by decide)
    rw [ref03_Row.l0, if_pos (by omega), show (0 : Int) = ((0 : Nat) : Int) from rfl, hs]
    simp only [Option.bind_some]
    rw [Nat.xor_zero, w64 (n := (j : Int) + 1) (by omega) (by omega), show ((j : Int) + 1) = ((j + 1 : Nat) : Int) by omega, ih (j + 1) k _ (by omega) (by omega) (stp_lt hw)]
    rfl
theorem row_f (i : Nat) (h : i < 256) : ref03_Row.f 9 (i : Int) = some ((crcRow i : Nat) : Int) := row_l 8 0 9 i rfl (by omega) (by omega)

def list32 (T : Nat → Nat) : List Value := (List.range 256).map fun i => Value.int .u32 (T i : Int)
theorem list32_len (T : Nat → Nat) : (list32 T).length = 256 := by simp [list32]
theorem sum_list (T : Nat → Nat) (hT : ∀ i, i < 256 → T i < 4294967296) (A : Option Addr) (c : Nat) (l : List Int) (w : World) (hr : Kd.C (Kd.int .u8) w A l.length l) (hb : ∀ x ∈ l, 0 ≤ x ∧ x < 256) :
    Calls Try.prog 13 #[.agg (list32 T).toArray, .slice A l.length c] w fun e w' => e = .returned (.int .u32 (crcSumBy T l : Int)) ∧ Below w.heap.size w w' := crcSum_calls T hT A c l w hr hb
theorem other_list (T : Nat → Nat) (hT : ∀ i, i < 256 → T i < 4294967296) (A : Option Addr) (c : Nat) (l : List Int) (w : World) (hr : Kd.C (Kd.int .u8) w A l.length l) (hb : ∀ x ∈ l, 0 ≤ x ∧ x < 256) :
    Calls Try.prog 15 #[.agg (list32 T).toArray, .slice A l.length c] w fun e w' => e = .returned (.int .u32 (crcSumBy T l : Int)) ∧ Below w.heap.size w w' := crcOther_calls T hT A c l w hr hb
theorem sum_var (T : Nat → Nat) (L : List Value) (hL : Aside0 (L = list32 T)) (hT : ∀ i, i < 256 → T i < 4294967296) (A : Option Addr) (c : Nat) (l : List Int) (w : World) (hr : Kd.C (Kd.int .u8) w A l.length l) (hb : ∀ x ∈ l, 0 ≤ x ∧ x < 256) :
    Calls Try.prog 13 #[.agg L.toArray, .slice A l.length c] w fun e w' => e = .returned (.int .u32 (crcSumBy T l : Int)) ∧ Below w.heap.size w w' := by
  rw [hL.out]; exact sum_list T hT A c l w hr hb
theorem other_var (T : Nat → Nat) (L : List Value) (hL : Aside0 (L = list32 T)) (hT : ∀ i, i < 256 → T i < 4294967296) (A : Option Addr) (c : Nat) (l : List Int) (w : World) (hr : Kd.C (Kd.int .u8) w A l.length l) (hb : ∀ x ∈ l, 0 ≤ x ∧ x < 256) :
    Calls Try.prog 15 #[.agg L.toArray, .slice A l.length c] w fun e w' => e = .returned (.int .u32 (crcSumBy T l : Int)) ∧ Below w.heap.size w w' := by
  rw [hL.out]; exact other_list T hT A c l w hr hb
theorem range_below {W W' : World} {g : Nat} {T : Nat → Nat} {t : TypeId} (hg : W.heap[g]? = some (.cells (cells32 T) t (0, 0))) (hlt : g < W.heap.size) (hB : Below W.heap.size W W') : W'.rangeAt g 0 (list32 T) := by
  intro j v hv
  rw [Nat.zero_add, cell_of_row W' g j _ t (0, 0) ((hB.block g hlt).trans hg)]
  simp only [cells32, List.getElem?_toArray]
  exact hv
theorem range_cell {W' : World} {g : Nat} {T : Nat → Nat} (h : W'.rangeAt g 0 (list32 T)) (i : Nat) (hi : i < 256) : W'.cell? ⟨g, i, none⟩ = some (.int .u32 (T i : Int)) := by
  have := h i (.int .u32 (T i : Int)) (by simp [list32, hi])
  rwa [Nat.zero_add] at this
set_option maxHeartbeats 1000000 in
set_option maxRecDepth 100000 in
theorem crcSums_calls (A : Option Addr) (c : Nat) (l : List Int) (T : Nat → Nat) (hT : ∀ i, i < 256 → T i < 4294967296) (i : Nat) (hi : i < 256) (w : World) (hr : Kd.C (Kd.int .u8) w A l.length l) (hc : l.length ≤ c) (hb : ∀ x ∈ l, 0 ≤ x ∧ x < 256) (hl : l.length < 140737488355328) :
    Calls Try.prog 3 #[.slice A l.length c, .agg (cells32 T), .int .u8 (i : Int)] w fun e w' => e = .returned (.bool true) ∧ Below w.heap.size w w' := by
  have hz := (zero_of_info zero256).1
  have hsz := (zero_of_info zero256).2
  have HT := Aside0.mk hT
  have HBy := Aside0.mk hb
  have hB0 := (Below.refl w.heap.size w).alloc (Nat.le_refl _) (.cells (cells32 T) 24)
  have HB0 := Aside0.mk hB0
  have HC0 := Aside0.mk (Kd.C_below hr hB0)
  have HG0 := Aside0.mk (heap_alloc_new w (.cells (cells32 T) 24))
  clear hT hb hr hB0
  have hi' : (i : Int) < 256 := by omega
  have hrl := crcRow_lt i hi
  go_enter Try.func3, Try.ntmps3
  go_wp2_with fail
  refine (crcShown_calls _).mono ?_
  rintro e w1 ⟨rfl, hb1⟩
  have HB1 := Aside0.mk (below_step HB0.out hb1)
  have HC1 := Aside0.mk (Kd.C_below HC0.out hb1)
  have HG1 := Aside0.mk ((hb1.block w.heap.size (by simp)).trans HG0.out)
  clear hb1
  go_wp2_with fail
  refine (crcTable_calls _).mono ?_
  rintro e w2 ⟨rfl, hb2⟩
  have HB2 := Aside0.mk (below_step HB1.out hb2)
  have HC2 := Aside0.mk (Kd.C_below HC1.out hb2)
  have HG2 := Aside0.mk ((hb2.block w.heap.size (blk_lt HG1.out)).trans HG1.out)
  clear hb2
  go_wp2_with (refine wpList_store_row rfl 24 _ _ rfl w2.heap.size (cells32 crcRow) rfl rfl 24 (Array.replicate 256 (.int .u32 0)) (heap_alloc_new w2 _) (by rw [cells32_size]; exact hsz) (by rw [cells32_size]; simp) (cells32_one _) ?_; rw [World.setRow_alloc_new])
  simp only [Act.put]
  have HB3 := Aside0.mk (below_step HB2.out (below_alloc (Below.refl _ _) (.cells (cells32 crcRow) 24)))
  have HC3 := Aside0.mk (Kd.C_below HC2.out (below_alloc (Below.refl _ _) (.cells (cells32 crcRow) 24)))
  have HG3 := Aside0.mk ((heap_alloc_old w2 (.cells (cells32 crcRow) 24) (blk_lt HG2.out)).trans HG2.out)
  have HR3 := Aside0.mk (heap_alloc_new w2 (.cells (cells32 crcRow) 24))
  have hl4 : w.heap.size < (w2.alloc (.cells (cells32 crcRow) 24)).heap.size := blk_lt HG3.out
  have hl8 : w2.heap.size < (w2.alloc (.cells (cells32 crcRow) 24)).heap.size := blk_lt HR3.out
  generalize w2.alloc (.cells (cells32 crcRow) 24) = W at *
  generalize w2.heap.size = g8 at *
  have hu24 := Try.underlying24
  obtain ⟨g4, hg4⟩ : ∃ g, w.heap.size = g := ⟨_, rfl⟩
  rw [hg4] at HG3 hl4 ⊢
  clear hg4
  obtain ⟨LC, hLC⟩ : ∃ L, L = list32 crcRow := ⟨_, rfl⟩
  obtain ⟨LT, hLT⟩ : ∃ L, L = list32 T := ⟨_, rfl⟩
  have hsz24 : (Try.prog.info? 24).map (·.size) = some LC.length := by rw [hsz, hLC, list32_len]
  have hsz24T : (Try.prog.info? 24).map (·.size) = some LT.length := by rw [hsz, hLT, list32_len]
  have HS : Aside0 (∀ (W' : World), Below W.heap.size W W' → W'.rangeAt g8 0 LC ∧ W'.rangeAt g4 0 LT ∧ W'.cell? ⟨g8, i, none⟩ = some (.int .u32 (crcRow i : Int))) := ⟨fun W' hB => by
    rw [hLC, hLT]
    exact ⟨range_below HR3.out hl8 hB, range_below HG3.out hl4 hB, range_cell (range_below HR3.out hl8 hB) i hi⟩⟩
  have HLC := Aside0.mk hLC
  have HLT := Aside0.mk hLT
  have HD3 := Aside0.mk (below_drew (Below.refl W.heap.size W))
  have HR := Aside0.mk (row_f i hi)
  have HF : Aside0 (ref03_Sum.f (10 * l.length + 1) l = some ((crcSumBy crcRow l : Nat) : Int)) := ⟨refCrc_f l HBy.out hl (10 * l.length + 1) (by omega)⟩
  have hcc : ((crcSumBy crcRow l : Int) == (crcSumBy crcRow l : Int)) = true := beq_self_eq_true _
  have hct : ((crcSumBy T l : Int) == (crcSumBy T l : Int)) = true := beq_self_eq_true _
  have hwi : IntKind.u32.wrap (i : Int) = (i : Int) := by rw [IntKind.wrap_u32']; omega
  clear hz hLC hLT hsz
  refine start_ (n := 28) (S := fun w' => w'.rangeAt g8 0 LC ∧ w'.rangeAt g4 0 LT ∧ w'.cell? ⟨g8, i, none⟩ = some (.int .u32 (crcRow i : Int))) (ds := []) #[false, false, false, false, false, false, false, false, false, false, false, false, false, false, false, false, false, false, false, false, false, false, false, false, false, false, false, false] (by kernel_rfl) rfl rfl (HS.out _ HD3.out) (fun hHeld => ?_)
  refine pure_ (i := 0) (N := some 11) (v := ?_) (a' := ?_) #[true, false, false, false, false, false, false, false, false, false, false, false, false, false, false, false, false, false, false, false, false, false, false, false, false, false, false, false] rfl rfl (by kernel_rfl) (fun _ _ _ h => h) (Or.inl ⟨by rfl, ?_⟩) ?_ ?_
  rotate_left
  · intro w'
    go_simp
    with_reducible rfl
  rotate_left
  · simp only [Act.put, List.setIfInBounds_toArray, List.set_cons_zero, List.set_cons_succ]
    rfl
  refine pure_ (i := 1) (N := some 12) (v := ?_) (a' := ?_) #[true, true, false, false, false, false, false, false, false, false, false, false, false, false, false, false, false, false, false, false, false, false, false, false, false, false, false, false] rfl rfl (by kernel_rfl) (fun _ _ _ h => h) (Or.inl ⟨by rfl, ?_⟩) ?_ ?_
  rotate_left
  · intro w'
    go_simp
    with_reducible rfl
  rotate_left
  · simp only [Act.put, List.setIfInBounds_toArray, List.set_cons_zero, List.set_cons_succ]
    rfl
  refine pure_ (i := 2) (N := some 13) (v := ?_) (a' := ?_) #[true, true, true, false, false, false, false, false, false, false, false, false, false, false, false, false, false, false, false, false, false, false, false, false, false, false, false, false] rfl rfl (by kernel_rfl) (fun _ _ _ h => h) (Or.inl ⟨by rfl, ?_⟩) ?_ ?_
  rotate_left
  · intro w'
    go_simp
    with_reducible rfl
  rotate_left
  · simp only [Act.put, List.setIfInBounds_toArray, List.set_cons_zero, List.set_cons_succ]
    rfl
  refine pure_ (i := 3) (N := some 14) (v := ?_) (a' := ?_) #[true, true, true, true, false, false, false, false, false, false, false, false, false, false, false, false, false, false, false, false, false, false, false, false, false, false, false, false] rfl rfl (by kernel_rfl) (fun _ _ _ h => h) (Or.inl ⟨by rfl, ?_⟩) ?_ ?_
  rotate_left
  · intro w'
    go_simp
    with_reducible rfl
  rotate_left
  · simp only [Act.put, List.setIfInBounds_toArray, List.set_cons_zero, List.set_cons_succ]
    rfl
  refine take_ (i := 4) (N := some 15) (v := ?_) (a' := ?_) #[true, true, true, true, true, false, false, false, false, false, false, false, false, false, false, false, false, false, false, false, false, false, false, false, false, false, false, false] rfl rfl (by kernel_rfl) (fun _ _ _ h => h) (Or.inl ⟨by rfl, ?_⟩) hHeld ?_ ?_
  rotate_left
  · rintro w' ⟨s0, s1, s2⟩
    go_simp
    with_reducible rfl
  rotate_left
  · simp only [Act.put, List.setIfInBounds_toArray, List.set_cons_zero, List.set_cons_succ]
    rfl
  refine pure_ (i := 5) (N := some 16) (v := ?_) (a' := ?_) #[true, true, true, true, true, true, false, false, false, false, false, false, false, false, false, false, false, false, false, false, false, false, false, false, false, false, false, false] rfl rfl (by kernel_rfl) (fun _ _ _ h => h) (Or.inl ⟨by rfl, ?_⟩) ?_ ?_
  rotate_left
  · intro w'
    go_simp
    with_reducible rfl
  rotate_left
  · simp only [Act.put, List.setIfInBounds_toArray, List.set_cons_zero, List.set_cons_succ]
    rfl
  refine pure_ (i := 6) (N := some 17) (v := ?_) (a' := ?_) #[true, true, true, true, true, true, true, false, false, false, false, false, false, false, false, false, false, false, false, false, false, false, false, false, false, false, false, false] rfl rfl (by kernel_rfl) (fun _ _ _ h => h) (Or.inl ⟨by rfl, ?_⟩) ?_ ?_
  rotate_left
  · intro w'
    go_simp
    with_reducible rfl
  rotate_left
  · simp only [Act.put, List.setIfInBounds_toArray, List.set_cons_zero, List.set_cons_succ]
    rfl
  refine one_ (i := 7) (N := some 18) #[true, true, true, true, true, true, true, true, false, false, false, false, false, false, false, false, false, false, false, false, false, false, false, false, false, false, false, false] rfl rfl (by kernel_rfl) (by decide) (fun K hK => ?_)
  refine goes_ Try.func12 (by kernel_rfl) rfl #[.int .u32 (i : Int)] (by rfl) rfl rfl (by (try simp only [List.map_toArray, List.map_cons, List.map_nil]); first | done | rfl) ?_
  (with_reducible refine (ref03_Row.calls 9 _ _ W.drew HR.out).mono ?_)
  rintro e w4 ⟨rfl, hd4⟩
  have HD4 := Aside0.mk (below_step HD3.out hd4.below)
  clear hd4
  refine ⟨_, rfl, ?_⟩
  refine hK.out _ _ (HS.out _ HD4.out) (fun hHeld => ?_)
  clear hK K
  refine norm_ (a' := ?_) ?_ ?_
  rotate_left
  · show Act.put _ (some 18) _ = _
    simp only [Act.put, List.setIfInBounds_toArray, List.set_cons_zero, List.set_cons_succ]
    rfl
  refine pure_ (i := 8) (N := some 19) (v := ?_) (a' := ?_) #[true, true, true, true, true, true, true, true, true, false, false, false, false, false, false, false, false, false, false, false, false, false, false, false, false, false, false, false] rfl rfl (by kernel_rfl) (fun _ _ _ h => h) (Or.inl ⟨by rfl, ?_⟩) ?_ ?_
  rotate_left
  · intro w'
    go_simp
    with_reducible rfl
  rotate_left
  · simp only [Act.put, List.setIfInBounds_toArray, List.set_cons_zero, List.set_cons_succ]
    rfl
  refine pure_ (i := 9) (N := some 20) (v := ?_) (a' := ?_) #[true, true, true, true, true, true, true, true, true, true, false, false, false, false, false, false, false, false, false, false, false, false, false, false, false, false, false, false] rfl rfl (by kernel_rfl) (fun _ _ _ h => h) (Or.inl ⟨by rfl, ?_⟩) ?_ ?_
  rotate_left
  · intro w'
    go_simp
    with_reducible rfl
  rotate_left
  · simp only [Act.put, List.setIfInBounds_toArray, List.set_cons_zero, List.set_cons_succ]
    rfl
  refine pure_ (i := 10) (N := some 21) (v := ?_) (a' := ?_) #[true, true, true, true, true, true, true, true, true, true, true, false, false, false, false, false, false, false, false, false, false, false, false, false, false, false, false, false] rfl rfl (by kernel_rfl) (fun _ _ _ h => h) (Or.inl ⟨by rfl, ?_⟩) ?_ ?_
  rotate_left
  · intro w'
    go_simp
    with_reducible rfl
  rotate_left
  · simp only [Act.put, List.setIfInBounds_toArray, List.set_cons_zero, List.set_cons_succ]
    rfl
  refine take_ (i := 11) (N := some 22) (v := .agg LC.toArray) (a' := ?_) #[true, true, true, true, true, true, true, true, true, true, true, true, false, false, false, false, false, false, false, false, false, false, false, false, false, false, false, false] rfl rfl (by kernel_rfl) (fun _ _ _ h => h) (yieldsIf_load_mid (by rfl) 24 _ rfl g8 0 rfl LC _ (fun _ h => h.1) hu24 rfl hsz24) hHeld ?_ ?_
  rotate_left
  · simp only [Act.put, List.setIfInBounds_toArray, List.set_cons_zero, List.set_cons_succ]
    rfl
  refine pure_ (i := 12) (N := some 23) (v := ?_) (a' := ?_) #[true, true, true, true, true, true, true, true, true, true, true, true, true, false, false, false, false, false, false, false, false, false, false, false, false, false, false, false] rfl rfl (by kernel_rfl) (fun _ _ _ h => h) (Or.inl ⟨by rfl, ?_⟩) ?_ ?_
  rotate_left
  · intro w'
    go_simp
    with_reducible rfl
  rotate_left
  · simp only [Act.put, List.setIfInBounds_toArray, List.set_cons_zero, List.set_cons_succ]
    rfl
  refine pure_ (i := 14) (N := some 25) (v := ?_) (a' := ?_) #[true, true, true, true, true, true, true, true, true, true, true, true, true, false, true, false, false, false, false, false, false, false, false, false, false, false, false, false] rfl rfl (by kernel_rfl) (fun _ _ _ h => h) (Or.inl ⟨by rfl, ?_⟩) ?_ ?_
  rotate_left
  · intro w'
    go_simp
    with_reducible rfl
  rotate_left
  · simp only [Act.put, List.setIfInBounds_toArray, List.set_cons_zero, List.set_cons_succ]
    rfl
  refine one_ (i := 13) (N := some 24) #[true, true, true, true, true, true, true, true, true, true, true, true, true, true, true, false, false, false, false, false, false, false, false, false, false, false, false, false] rfl rfl (by kernel_rfl) (by decide) (fun K hK => ?_)
  refine goes_ Try.func13 (by kernel_rfl) rfl #[.agg LC.toArray, .slice A l.length c] (by rfl) rfl rfl (by (try simp only [List.map_toArray, List.map_cons, List.map_nil]); first | done | rfl) ?_
  (with_reducible refine (sum_var crcRow LC HLC crcRow_lt A c l w4 (Kd.C_below HC3.out HD4.out) HBy.out).mono ?_)
  rintro e w5 ⟨rfl, hb5⟩
  have HD5 := Aside0.mk (below_step HD4.out hb5)
  clear hb5
  refine ⟨_, rfl, ?_⟩
  refine hK.out _ _ (HS.out _ HD5.out) (fun hHeld => ?_)
  clear hK K
  refine norm_ (a' := ?_) ?_ ?_
  rotate_left
  · show Act.put _ (some 24) _ = _
    simp only [Act.put, List.setIfInBounds_toArray, List.set_cons_zero, List.set_cons_succ]
    rfl
  refine one_ (i := 15) (N := some 26) #[true, true, true, true, true, true, true, true, true, true, true, true, true, true, true, true, false, false, false, false, false, false, false, false, false, false, false, false] rfl rfl (by kernel_rfl) (by decide) (fun K hK => ?_)
  refine goes_ Try.func14 (by kernel_rfl) rfl #[.slice A l.length c] (by rfl) rfl rfl (by (try simp only [List.map_toArray, List.map_cons, List.map_nil]); first | done | rfl) ?_
  (with_reducible refine (ref03_Sum.calls (10 * l.length + 1) A c l _ w5 (Kd.C_below HC3.out HD5.out) hc HF.out).mono ?_)
  rintro e w6 ⟨rfl, hd6⟩
  have HD6 := Aside0.mk (below_step HD5.out hd6.below)
  clear hd6
  refine ⟨_, rfl, ?_⟩
  refine hK.out _ _ (HS.out _ HD6.out) (fun hHeld => ?_)
  clear hK K
  refine norm_ (a' := ?_) ?_ ?_
  rotate_left
  · show Act.put _ (some 26) _ = _
    simp only [Act.put, List.setIfInBounds_toArray, List.set_cons_zero, List.set_cons_succ]
    rfl
  refine pure_ (i := 16) (N := some 27) (v := ?_) (a' := ?_) #[true, true, true, true, true, true, true, true, true, true, true, true, true, true, true, true, true, false, false, false, false, false, false, false, false, false, false, false] rfl rfl (by kernel_rfl) (fun _ _ _ h => h) (Or.inl ⟨by rfl, ?_⟩) ?_ ?_
  rotate_left
  · intro w'
    go_simp
    with_reducible rfl
  rotate_left
  · simp only [Act.put, List.setIfInBounds_toArray, List.set_cons_zero, List.set_cons_succ]
    rfl
  refine pure_ (i := 17) (N := some 28) (v := ?_) (a' := ?_) #[true, true, true, true, true, true, true, true, true, true, true, true, true, true, true, true, true, true, false, false, false, false, false, false, false, false, false, false] rfl rfl (by kernel_rfl) (fun _ _ _ h => h) (Or.inl ⟨by rfl, ?_⟩) ?_ ?_
  rotate_left
  · intro w'
    go_simp
    with_reducible rfl
  rotate_left
  · simp only [Act.put, List.setIfInBounds_toArray, List.set_cons_zero, List.set_cons_succ]
    rfl
  refine pure_ (i := 18) (N := some 29) (v := ?_) (a' := ?_) #[true, true, true, true, true, true, true, true, true, true, true, true, true, true, true, true, true, true, true, false, false, false, false, false, false, false, false, false] rfl rfl (by kernel_rfl) (fun _ _ _ h => h) (Or.inl ⟨by rfl, ?_⟩) ?_ ?_
  rotate_left
  · intro w'
    go_simp
    with_reducible rfl
  rotate_left
  · simp only [Act.put, List.setIfInBounds_toArray, List.set_cons_zero, List.set_cons_succ]
    rfl
  refine take_ (i := 19) (N := some 30) (v := .agg LT.toArray) (a' := ?_) #[true, true, true, true, true, true, true, true, true, true, true, true, true, true, true, true, true, true, true, true, false, false, false, false, false, false, false, false] rfl rfl (by kernel_rfl) (fun _ _ _ h => h) (yieldsIf_load_mid (by rfl) 24 _ rfl g4 0 rfl LT _ (fun _ h => h.2.1) hu24 rfl hsz24T) hHeld ?_ ?_
  rotate_left
  · simp only [Act.put, List.setIfInBounds_toArray, List.set_cons_zero, List.set_cons_succ]
    rfl
  refine take_ (i := 22) (N := some 33) (v := .agg LT.toArray) (a' := ?_) #[true, true, true, true, true, true, true, true, true, true, true, true, true, true, true, true, true, true, true, true, false, false, true, false, false, false, false, false] rfl rfl (by kernel_rfl) (fun _ _ _ h => h) (yieldsIf_load_mid (by rfl) 24 _ rfl g4 0 rfl LT _ (fun _ h => h.2.1) hu24 rfl hsz24T) hHeld ?_ ?_
  rotate_left
  · simp only [Act.put, List.setIfInBounds_toArray, List.set_cons_zero, List.set_cons_succ]
    rfl
  refine pure_ (i := 20) (N := some 31) (v := ?_) (a' := ?_) #[true, true, true, true, true, true, true, true, true, true, true, true, true, true, true, true, true, true, true, true, true, false, true, false, false, false, false, false] rfl rfl (by kernel_rfl) (fun _ _ _ h => h) (Or.inl ⟨by rfl, ?_⟩) ?_ ?_
  rotate_left
  · intro w'
    go_simp
    with_reducible rfl
  rotate_left
  · simp only [Act.put, List.setIfInBounds_toArray, List.set_cons_zero, List.set_cons_succ]
    rfl
  refine pure_ (i := 23) (N := some 34) (v := ?_) (a' := ?_) #[true, true, true, true, true, true, true, true, true, true, true, true, true, true, true, true, true, true, true, true, true, false, true, true, false, false, false, false] rfl rfl (by kernel_rfl) (fun _ _ _ h => h) (Or.inl ⟨by rfl, ?_⟩) ?_ ?_
  rotate_left
  · intro w'
    go_simp
    with_reducible rfl
  rotate_left
  · simp only [Act.put, List.setIfInBounds_toArray, List.set_cons_zero, List.set_cons_succ]
    rfl
  refine one_ (i := 21) (N := some 32) #[true, true, true, true, true, true, true, true, true, true, true, true, true, true, true, true, true, true, true, true, true, true, true, true, false, false, false, false] rfl rfl (by kernel_rfl) (by decide) (fun K hK => ?_)
  refine goes_ Try.func13 (by kernel_rfl) rfl #[.agg LT.toArray, .slice A l.length c] (by rfl) rfl rfl (by (try simp only [List.map_toArray, List.map_cons, List.map_nil]); first | done | rfl) ?_
  (with_reducible refine (sum_var T LT HLT HT.out A c l w6 (Kd.C_below HC3.out HD6.out) HBy.out).mono ?_)
  rintro e w7 ⟨rfl, hb7⟩
  have HD7 := Aside0.mk (below_step HD6.out hb7)
  clear hb7
  refine ⟨_, rfl, ?_⟩
  refine hK.out _ _ (HS.out _ HD7.out) (fun hHeld => ?_)
  clear hK K
  refine norm_ (a' := ?_) ?_ ?_
  rotate_left
  · show Act.put _ (some 32) _ = _
    simp only [Act.put, List.setIfInBounds_toArray, List.set_cons_zero, List.set_cons_succ]
    rfl
  refine one_ (i := 24) (N := some 35) #[true, true, true, true, true, true, true, true, true, true, true, true, true, true, true, true, true, true, true, true, true, true, true, true, true, false, false, false] rfl rfl (by kernel_rfl) (by decide) (fun K hK => ?_)
  refine goes_ Try.func15 (by kernel_rfl) rfl #[.agg LT.toArray, .slice A l.length c] (by rfl) rfl rfl (by (try simp only [List.map_toArray, List.map_cons, List.map_nil]); first | done | rfl) ?_
  (with_reducible refine (other_var T LT HLT HT.out A c l w7 (Kd.C_below HC3.out HD7.out) HBy.out).mono ?_)
  rintro e w8 ⟨rfl, hb8⟩
  have HD8 := Aside0.mk (below_step HD7.out hb8)
  clear hb8
  refine ⟨_, rfl, ?_⟩
  refine hK.out _ _ (HS.out _ HD8.out) (fun hHeld => ?_)
  clear hK K
  refine norm_ (a' := ?_) ?_ ?_
  rotate_left
  · show Act.put _ (some 35) _ = _
    simp only [Act.put, List.setIfInBounds_toArray, List.set_cons_zero, List.set_cons_succ]
    rfl
  refine pure_ (i := 25) (N := some 36) (v := ?_) (a' := ?_) #[true, true, true, true, true, true, true, true, true, true, true, true, true, true, true, true, true, true, true, true, true, true, true, true, true, true, false, false] rfl rfl (by kernel_rfl) (fun _ _ _ h => h) (Or.inl ⟨by rfl, ?_⟩) ?_ ?_
  rotate_left
  · intro w'
    go_simp
    with_reducible rfl
  rotate_left
  · simp only [Act.put, List.setIfInBounds_toArray, List.set_cons_zero, List.set_cons_succ]
    rfl
  refine pure_ (i := 26) (N := some 37) (v := ?_) (a' := ?_) #[true, true, true, true, true, true, true, true, true, true, true, true, true, true, true, true, true, true, true, true, true, true, true, true, true, true, true, false] rfl rfl (by kernel_rfl) (fun _ _ _ h => h) (Or.inl ⟨by rfl, ?_⟩) ?_ ?_
  rotate_left
  · intro w'
    go_simp
    with_reducible rfl
  rotate_left
  · simp only [Act.put, List.setIfInBounds_toArray, List.set_cons_zero, List.set_cons_succ]
    rfl
  refine pure_ (i := 27) (N := some 6) (v := ?_) (a' := ?_) #[true, true, true, true, true, true, true, true, true, true, true, true, true, true, true, true, true, true, true, true, true, true, true, true, true, true, true, true] rfl rfl (by kernel_rfl) (fun _ _ _ h => h) (Or.inl ⟨by rfl, ?_⟩) ?_ ?_
  rotate_left
  · intro w'
    go_simp
    with_reducible rfl
  rotate_left
  · simp only [Act.put, List.setIfInBounds_toArray, List.set_cons_zero, List.set_cons_succ]
    rfl
  refine done_ (by kernel_rfl) ?_
  try go_wp2
  go_ret
  exact ⟨rfl, (below_step HB3.out HD8.out)⟩
end Go.Proofs.Ytknkoeahcemmmaa.PureS
