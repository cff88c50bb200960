/-
  By hand: the contracts of crc.Table and crc.Sum: the table's rows, and bytes' sum by any table.
-/
import Derived.Test.YtknkoeahcemmmaaProg
import Derived.Test.YtknkoeahcemmmaaHCrcM
import Derived.WalkKit
import Derived.Test.YtknkoeahcemmmaaWMore
import Derived.Test.YtknkoeahcemmmaaWLast
import Derived.Deep.WholeRow
import Derived.Deep.LoopGhost
import Derived.Lib.Hide
import Derived.Laws.ResultCell
import Derived.Laws.BitsAllLaws
import Derived.WalkLawsBesides
import Derived.RegionTactic
namespace Go.Proofs.Ytknkoeahcemmmaa.Hand
open Go.RowKit Go.Proofs.YtknkoeahcemmmaaW.PrintWords Go.Proofs.YtknkoeahcemmmaaW.PrintLast Go.Proofs.YtknkoeahcemmmaaW.PrintMore

/-- 256 cells, of whole numbers. -/
def cells32 (T : Nat → Nat) : Array Value := ((List.range 256).map fun i => Value.int .u32 (T i : Int)).toArray
def upTo (T : Nat → Nat) (k i : Nat) : Nat := if i < k then T i else 0
theorem cells32_size (T : Nat → Nat) : (cells32 T).size = 256 := by simp [cells32]
theorem cells32_one (T : Nat → Nat) : (cells32 T).all (·.oneCell') = true := by
  rw [Array.all_eq_true_iff_forall_mem]
  intro v hv
  simp only [cells32, List.mem_toArray, List.mem_map] at hv
  obtain ⟨j, _, rfl⟩ := hv
  rfl
theorem cells32_at (T : Nat → Nat) (i : Nat) (h : i < 256) : (cells32 T)[i]? = some (.int .u32 (T i : Int)) := by simp [cells32, h]
theorem cells32_zero (T : Nat → Nat) : cells32 (upTo T 0) = Array.replicate 256 (.int .u32 0) := by
  apply Array.ext
  · simp [cells32]
  · intro i h1 h2
    simp [cells32, upTo]
theorem cells32_set (T : Nat → Nat) (k : Nat) : (cells32 (upTo T k)).setIfInBounds k (.int .u32 (T k : Int)) = cells32 (upTo T (k + 1)) := by
  apply Array.ext
  · simp [cells32]
  · intro i h1 h2
    rw [Array.getElem_setIfInBounds (by simpa [cells32] using h1)]
    simp only [cells32, upTo, List.getElem_toArray, List.getElem_map, List.getElem_range]
    by_cases e : k = i
    · subst e; simp
    · rw [if_neg e]
      congr 2
      by_cases h3 : i < k
      · rw [if_pos h3, if_pos (by omega)]
      · rw [if_neg h3, if_neg (by omega)]
theorem cells32_all (T : Nat → Nat) : cells32 (upTo T 256) = cells32 T := by
  apply Array.ext
  · simp [cells32]
  · intro i h1 h2
    have : i < 256 := by simpa [cells32] using h1
    simp [cells32, upTo, this]

theorem zero256 : (Try.prog.info? 24).map (fun i => (i.zero, i.size)) = some (some (.agg (Array.replicate 256 (.int .u32 0))), 256) := by kernel_rfl

theorem stp_bit (x : Nat) (h : x < 4294967296) : bits .and .u32 (x : Int) 1 = ((x % 2 : Nat) : Int) := by
  rw [show (1 : Int) = ((1 : Nat) : Int) from rfl, u32_and_nat x 1 h (by decide), nat_mask1]
theorem stp_odd (x : Nat) (h : x < 4294967296) (ho : x % 2 = 1) : bits .xor .u32 ((x : Int) / 2) 3988292384 = (stp x : Int) := by
  rw [show (x : Int) / 2 = ((x / 2 : Nat) : Int) by omega, show (3988292384 : Int) = ((3988292384 : Nat) : Int) from rfl, u32_xor_nat _ _ (by omega) (by decide)]
  unfold stp
  rw [if_pos ho]
theorem row_below (w : World) (a b : Obj) (c : Array Value) : Below w.heap.size w (((w.alloc a).alloc b).setRow w.heap.size c) := by
  have h := ((Below.refl w.heap.size w).alloc (Nat.le_refl _) a).alloc (by simp) b
  refine ⟨h.os, h.tape, h.output, by rw [size_setRow]; exact h.size, fun k hk => ?_⟩
  rw [setRow_other _ _ _ _ (by omega)]
  exact h.block k hk
theorem stpN_succ (n x : Nat) : stpN (n + 1) x = stp (stpN n x) := by rw [stpN_add]; rfl
set_option maxHeartbeats 4000000 in
set_option maxRecDepth 1000000 in
theorem crcTable_calls (w : World) : Calls Try.prog 11 #[] w fun e w' => e = .returned (.agg (cells32 crcRow)) ∧ Below w.heap.size w w' := by
  have hz := (zero_of_info zero256).1
  go_enter Try.func11, Try.ntmps11
  go_wp2
  go_loopg [5] 256 (fun g s5 wx => ∃ i : Nat, i + g = 256 ∧ s5 = .int .i64 i ∧ wx = (w.alloc (.cells (Array.replicate 256 (.int .u32 0)) 24)).alloc (.cells (cells32 (upTo crcRow i)) 24))
  case atStart => exact ⟨0, by omega, rfl, by rw [cells32_zero]⟩
  case round =>
    obtain ⟨i, hig, rfl, rfl⟩ := hrel
    cases gk with
    | zero =>
      obtain rfl : i = 256 := by omega
      have hsz := (zero_of_info zero256).2
      have HB := Aside0.mk (row_below w (.cells (Array.replicate 256 (.int .u32 0)) 24) (.cells (cells32 crcRow) 24) (cells32 crcRow))
      rw [cells32_all]
      go_wp2_with (first
        | (refine wpList_load_row rfl 24 _ rfl (w.heap.size + 1) rfl 24 (cells32 crcRow) (0, 0) _ (heap_alloc2_new w _ _) Try.underlying24 rfl (by rw [cells32_size]; exact hsz) ?_)
        | (refine wpList_store_row rfl 24 _ _ rfl w.heap.size (cells32 crcRow) rfl rfl 24 _ (heap_alloc2_old w _ _) (by rw [cells32_size]; exact hsz) (by rw [cells32_size]; simp) (cells32_one _) ?_))
      exact bodyPost_ret (results_cell_row rfl _ _ w.heap.size 24 (cells32 crcRow) (0, 0) _ rfl (setRow_heap _ _ _ _ _ _ (heap_alloc2_old w _ _)) Try.underlying24 rfl (by rw [cells32_size]; exact hsz)) rfl ⟨rfl, HB.out⟩
    | succ g =>
      have hlt : (i : Int) < 256 := by omega
      go_wp2
      go_loop [3, 10] (fun s j => ∃ (n x : Nat), n ≤ 8 ∧ j = .int .i64 n ∧ x < 4294967296 ∧ s = .int .u32 x ∧ Aside0 (stpN n i = x)) (fun _ j => 8 - (intOf j).toNat)
      case atStart => exact ⟨0, i, by omega, rfl, by omega, by go_num, ⟨rfl⟩⟩
      case round =>
        obtain ⟨n, x, hn, rfl, hx, rfl, HX⟩ := hrel
        have hb := stp_bit x hx
        by_cases hn8 : n < 8
        · have HX2 : Aside0 (stpN (n + 1) i = stp x) := ⟨by rw [stpN_succ, HX.out]⟩
          have hx2 := stp_lt hx
          by_cases ho : x % 2 = 1
          · have hs := stp_odd x hx ho
            rw [ho] at hb
            clear ho HX
            go_wp2
            go_round
            case rel => exact ⟨n + 1, stp x, by omega, by go_num, hx2, rfl, HX2⟩
            case measure => simp [intOf]; omega
          · have hs : stp x = x / 2 := by unfold stp; rw [if_neg ho]
            have HS := Aside0.mk hs
            rw [show x % 2 = 0 by omega] at hb
            clear ho HX hs
            go_wp2
            go_round
            case rel => exact ⟨n + 1, stp x, by omega, by go_num, hx2, by rw [HS.out]; go_num, HX2⟩
            case measure => simp [intOf]; omega
        · obtain rfl : n = 8 := by omega
          have hcs := cells32_set crcRow i
          have hcell := cells32_at (upTo crcRow i) i (by omega)
          have HXr : Aside0 (crcRow i = x) := HX
          rw [show crcRow i = x from HX.out] at hcs
          clear HX hb
          go_wp2
          go_roundg g
          case measure => omega
          case rel => exact ⟨i + 1, by omega, by go_num, rfl⟩
theorem cells_int' {k : IntKind} {w : World} {A : Option Addr} {xs : List Int} (h : Kd.C (Kd.int k) w A xs.length xs) (hn : 0 < xs.length) :
    ∃ ad, A = some ad ∧ ∀ j, j < xs.length → w.cell? (ad.add j) = some (.int k (xs.getD j 0)) := by
  obtain ⟨ad, hA, hc⟩ := h.2.2 hn
  refine ⟨ad, hA, fun j hj => ?_⟩
  obtain ⟨c, h1, h2, h3⟩ := hc j _ (List.getElem?_eq_getElem hj)
  have h4 : c = [Value.int k xs[j]] := h2
  subst h4
  have := h3 0 _ rfl
  simpa [Kd.int, Kd.scalar, List.getD_eq_getElem?_getD, hj] using this
theorem reg_at (T : Nat → Nat) (l : List Int) (k x : Nat) (h : k < l.length) : crcReg T x (l.drop k) = crcReg T (crcBy T x (l.getD k 0).toNat) (l.drop (k + 1)) := by
  rw [List.drop_eq_getElem_cons h, List.getD_eq_getElem?_getD, List.getElem?_eq_getElem h]
  rfl
set_option maxHeartbeats 4000000 in
set_option maxRecDepth 1000000 in
theorem crcSum_calls (T : Nat → Nat) (hT : ∀ i, i < 256 → T i < 4294967296) (A : Option Addr) (c : Nat) (l : List Int) (w : World) (hr : Kd.C (Kd.int .u8) w A l.length l) (hb : ∀ x ∈ l, 0 ≤ x ∧ x < 256) :
    Calls Try.prog 13 #[.agg (cells32 T), .slice A l.length c] w fun e w' => e = .returned (.int .u32 (crcSumBy T l : Int)) ∧ Below w.heap.size w w' := by
  have HT := Aside0.mk hT
  have HB := Aside0.mk hb
  have hlm := hr.2.1
  have HC := Aside0.mk (Kd.C_below hr ((Below.refl w.heap.size w).alloc (Nat.le_refl _) (.cells (cells32 T) 24)))
  have HBw := Aside0.mk ((Below.refl w.heap.size w).alloc (Nat.le_refl _) (.cells (cells32 T) 24))
  clear hT hb hr
  go_enter Try.func13, Try.ntmps13
  go_wp2
  go_loop [5, 10] (fun s i => ∃ (k x : Nat), k ≤ l.length ∧ i = .int .i64 k ∧ x < 4294967296 ∧ s = .int .u32 x ∧ Aside0 (crcReg T ones l = crcReg T x (l.drop k))) (fun _ i => l.length - (intOf i).toNat)
  case atStart => exact ⟨0, ones, by omega, rfl, by decide, rfl, ⟨rfl⟩⟩
  case round =>
    obtain ⟨k, x, hk, rfl, hx, rfl, HX⟩ := hrel
    by_cases hlt : k < l.length
    · have HX2 := Aside0.mk (HX.out.trans (reg_at T l k x hlt))
      obtain ⟨ad, rfl, hcell⟩ := cells_int' HC.out (by omega)
      have hck := hcell k hlt
      have hv : l.getD k 0 ∈ l := by rw [List.getD_eq_getElem?_getD, List.getElem?_eq_getElem hlt]; exact List.getElem_mem hlt
      have hbv := HB.out _ hv
      clear hcell hv HX
      generalize l.getD k 0 = v at *
      obtain ⟨n, rfl⟩ := Int.eq_ofNat_of_zero_le hbv.1
      have hn : n < 256 := by omega
      clear hbv
      rw [Int.toNat_natCast] at HX2
      have hi : x % 256 ^^^ n < 256 := Nat.xor_lt_two_pow (n := 8) (by omega) hn
      have hix : bits .xor .u8 ((x : Int) % 256) (n : Int) = ((x % 256 ^^^ n : Nat) : Int) := by
        rw [show (x : Int) % 256 = ((x % 256 : Nat) : Int) by omega, u8_xor_nat _ _ (by omega) hn]
      have hTi := HT.out _ hi
      have hxx : bits .xor .u32 ((x : Int) / 256) (T (x % 256 ^^^ n) : Int) = (crcBy T x n : Int) := by
        rw [show (x : Int) / 256 = ((x / 256 : Nat) : Int) by omega, u32_xor_nat _ _ (by omega) hTi]
        rfl
      have hlt2 : crcBy T x n < 4294967296 := crcBy_lt HT.out hx hn
      have htc := cells32_at T _ hi
      generalize crcBy T x n = y at *
      generalize T (x % 256 ^^^ n) = t at *
      generalize x % 256 ^^^ n = i at *
      go_wp2
      go_round
      case rel => exact ⟨k + 1, y, by omega, by go_num, hlt2, rfl, HX2⟩
      case measure => simp [intOf]; omega
    · rw [show l.drop k = [] from List.drop_eq_nil_of_le (by omega)] at HX
      have hu : Go.bits .xor .u32 4294967295 (x : Int) = (crcSumBy T l : Int) := by
        rw [show (4294967295 : Int) = ((ones : Nat) : Int) from rfl, u32_xor_nat _ _ (by decide) hx]
        show _ = ((ones ^^^ crcReg T ones l : Nat) : Int)
        rw [HX.out]; rfl
      go_wp2
      go_ret
      exact ⟨by rw [← hu]; rfl, HBw.out⟩
/-- A sum's bytes, as far as they are laid down. -/
def c4 (s : Nat) : Nat → Array Value
  | 0 => #[.int .u8 0, .int .u8 0, .int .u8 0, .int .u8 0]
  | 1 => #[.int .u8 ((s : Int) % 256), .int .u8 0, .int .u8 0, .int .u8 0]
  | 2 => #[.int .u8 ((s : Int) % 256), .int .u8 ((s : Int) / 256 % 256), .int .u8 0, .int .u8 0]
  | 3 => #[.int .u8 ((s : Int) % 256), .int .u8 ((s : Int) / 256 % 256), .int .u8 ((s : Int) / 65536 % 256), .int .u8 0]
  | _ => #[.int .u8 ((s : Int) % 256), .int .u8 ((s : Int) / 256 % 256), .int .u8 ((s : Int) / 65536 % 256), .int .u8 ((s : Int) / 16777216 % 256)]
theorem zero4 : (Try.prog.info? 50).map (fun i => (i.zero, i.size)) = some (some (.agg #[.int .u8 0, .int .u8 0, .int .u8 0, .int .u8 0]), 4) := by kernel_rfl
set_option maxHeartbeats 4000000 in
theorem crcFour_calls (s : Nat) (hs : s < 4294967296) (w : World) :
    Calls Try.prog 22 #[.int .u32 (s : Int)] w fun e w' => e = .returned (.agg (c4 s 4)) ∧ Below w.heap.size w w' := by
  have hz := (zero_of_info zero4).1
  go_enter Try.func22, Try.ntmps22
  go_wp2
  go_loopg [5] 4 (fun g s5 wx => ∃ i : Nat, i + g = 4 ∧ s5 = .int .i64 i ∧ wx = (w.alloc (.cells (c4 s 0) 50)).alloc (.cells (c4 s i) 50))
  case atStart => exact ⟨0, by omega, rfl, rfl⟩
  case round =>
    obtain ⟨i, hig, rfl, rfl⟩ := hrel
    cases gk with
    | zero =>
      obtain rfl : i = 4 := by omega
      have hsz := (zero_of_info zero4).2
      have hb := ((Below.refl w.heap.size w).alloc (Nat.le_refl _) (.cells (c4 s 4) 50)).alloc (by simp) (.cells (c4 s 4) 50)
      have HB := Aside0.mk hb
      have HR := Aside0.mk (heap_alloc2_old w (.cells (c4 s 4) 50) (.cells (c4 s 4) 50))
      clear hb
      simp only [c4]
      go_wp2
      exact bodyPost_ret (results_cell_row rfl _ _ w.heap.size 50 (c4 s 4) (0, 0) _ rfl HR.out Try.underlying50 rfl hsz) rfl ⟨rfl, HB.out⟩
    | succ g =>
      have h4 : i = 0 ∨ i = 1 ∨ i = 2 ∨ i = 3 := by omega
      rcases h4 with rfl | rfl | rfl | rfl
      · have e : (c4 s 0).setIfInBounds 0 (.int .u8 ((s : Int) % 256)) = c4 s 1 := rfl
        have c : (c4 s 0)[0]? = some (.int .u8 0) := rfl
        go_wp2
        go_roundg g
        case measure => omega
        case rel => exact ⟨1, by omega, by go_num, rfl⟩
      · have e : (c4 s 1).setIfInBounds 1 (.int .u8 ((s : Int) / 256 % 256)) = c4 s 2 := rfl
        have c : (c4 s 1)[1]? = some (.int .u8 0) := rfl
        go_wp2
        go_roundg g
        case measure => omega
        case rel => exact ⟨2, by omega, by go_num, rfl⟩
      · have e : (c4 s 2).setIfInBounds 2 (.int .u8 ((s : Int) / 65536 % 256)) = c4 s 3 := rfl
        have c : (c4 s 2)[2]? = some (.int .u8 0) := rfl
        go_wp2
        go_roundg g
        case measure => omega
        case rel => exact ⟨3, by omega, by go_num, rfl⟩
      · have e : (c4 s 3).setIfInBounds 3 (.int .u8 ((s : Int) / 16777216)) = c4 s 4 := by
          have e2 : (s : Int) / 16777216 % 256 = (s : Int) / 16777216 := by omega
          show #[Value.int .u8 ((s : Int) % 256), .int .u8 ((s : Int) / 256 % 256), .int .u8 ((s : Int) / 65536 % 256), .int .u8 ((s : Int) / 16777216)] = #[Value.int .u8 ((s : Int) % 256), .int .u8 ((s : Int) / 256 % 256), .int .u8 ((s : Int) / 65536 % 256), .int .u8 ((s : Int) / 16777216 % 256)]
          rw [e2]
        have c : (c4 s 3)[3]? = some (.int .u8 0) := rfl
        go_wp2
        go_roundg g
        case measure => omega
        case rel => exact ⟨4, by omega, by go_num, rfl⟩
end Go.Proofs.Ytknkoeahcemmmaa.Hand
