/-
  By hand: the contract of the document's sum by any table.
-/
import Derived.Test.YtknkoeahcemmmaaHCrcS
namespace Go.Proofs.Ytknkoeahcemmmaa.Hand
open Go.RowKit Go.Proofs.YtknkoeahcemmmaaW.PrintWords Go.Proofs.YtknkoeahcemmmaaW.PrintLast Go.Proofs.YtknkoeahcemmmaaW.PrintMore

theorem ofInt_i64 (a : Nat) (ha : a < 9223372036854775808) : (BitVec.ofInt 64 (a : Int)).toNat = a := by
  rw [BitVec.ofInt_natCast, BitVec.toNat_ofNat]; exact Nat.mod_eq_of_lt (by omega)
theorem i64_xor_nat (a b : Nat) (ha : a < 9223372036854775808) (hb : b < 9223372036854775808) : bits .xor .i64 (a : Int) (b : Int) = ((a ^^^ b : Nat) : Int) := by
  have hx : a ^^^ b < 2 ^ 63 := Nat.xor_lt_two_pow (by omega) (by omega)
  show IntKind.i64.wrap ((BitVec.ofInt 64 (a : Int) ^^^ BitVec.ofInt 64 (b : Int)).toNat : Int) = _
  rw [BitVec.toNat_xor, ofInt_i64 a ha, ofInt_i64 b hb, IntKind.wrap_i64]
  omega
set_option maxHeartbeats 4000000 in
set_option maxRecDepth 1000000 in
theorem crcOther_calls (T : Nat → Nat) (hT : ∀ i, i < 256 → T i < 4294967296) (A : Option Addr) (c : Nat) (l : List Int) (w : World) (hr : Kd.C (Kd.int .u8) w A l.length l) (hb : ∀ x ∈ l, 0 ≤ x ∧ x < 256) :
    Calls Try.prog 15 #[.agg (cells32 T), .slice A l.length c] w fun e w' => e = .returned (.int .u32 (crcSumBy T l : Int)) ∧ Below w.heap.size w w' := by
  have HT := Aside0.mk hT
  have HB := Aside0.mk hb
  have hlm := hr.2.1
  have HC := Aside0.mk (Kd.C_below hr ((Below.refl w.heap.size w).alloc (Nat.le_refl _) (.cells (cells32 T) 24)))
  have HBw := Aside0.mk ((Below.refl w.heap.size w).alloc (Nat.le_refl _) (.cells (cells32 T) 24))
  clear hT hb hr
  go_enter Try.func15, Try.ntmps15
  go_wp2
  go_loop [5, 6] (fun s i => ∃ (k x : Nat), k ≤ l.length ∧ i = .int .i64 k ∧ x < 4294967296 ∧ s = .int .u32 x ∧ Aside0 (crcReg T ones l = crcReg T x (l.drop k))) (fun _ i => l.length - (intOf i).toNat)
  case atStart => exact ⟨0, ones, by omega, rfl, by decide, rfl, ⟨rfl⟩⟩
  case round =>
    obtain ⟨k, x, hk, rfl, hx, rfl, HX⟩ := hrel
    by_cases hlt : k < l.length
    · have HX2 := Aside0.mk (HX.out.trans (reg_at T l k x hlt))
      obtain ⟨ad, rfl, hcell⟩ := cells_int' HC.out (by omega)
      have hck := hcell k hlt
      have hv : l.getD k 0 ∈ l := by rw [List.getD_eq_getElem?_getD, List.getElem?_eq_getElem hlt]; exact List.getElem_mem hlt
      have hbv := HB.out _ hv
      clear hcell hv HX
      generalize l.getD k 0 = v at *
      obtain ⟨n, rfl⟩ := Int.eq_ofNat_of_zero_le hbv.1
      have hn : n < 256 := by omega
      clear hbv
      rw [Int.toNat_natCast] at HX2
      have hi : x % 256 ^^^ n < 256 := Nat.xor_lt_two_pow (n := 8) (by omega) hn
      have hix : bits .xor .i64 ((x : Int) % 256) (n : Int) = ((x % 256 ^^^ n : Nat) : Int) := by
        rw [show (x : Int) % 256 = ((x % 256 : Nat) : Int) by omega, i64_xor_nat _ _ (by omega) (by omega)]
      have hi256 : ((x % 256 ^^^ n : Nat) : Int) < 256 := by omega
      have hTi := HT.out _ hi
      have hxx : bits .xor .u32 ((x : Int) / 256) (T (x % 256 ^^^ n) : Int) = (crcBy T x n : Int) := by
        rw [show (x : Int) / 256 = ((x / 256 : Nat) : Int) by omega, u32_xor_nat _ _ (by omega) hTi]
        rfl
      have hlt2 : crcBy T x n < 4294967296 := crcBy_lt HT.out hx hn
      have htc := cells32_at T _ hi
      generalize crcBy T x n = y at *
      generalize T (x % 256 ^^^ n) = t at *
      generalize x % 256 ^^^ n = i at *
      go_wp2
      go_round
      case rel => exact ⟨k + 1, y, by omega, by go_num, hlt2, rfl, HX2⟩
      case measure => simp [intOf]; omega
    · rw [show l.drop k = [] from List.drop_eq_nil_of_le (by omega)] at HX
      have hu : (4294967295 : Int) - (x : Int) = (crcSumBy T l : Int) := by
        show _ = ((ones ^^^ crcReg T ones l : Nat) : Int)
        rw [HX.out]
        show _ = ((ones ^^^ x : Nat) : Int)
        rw [not_eq hx]
        omega
      go_wp2
      go_ret
      exact ⟨by rw [← hu]; rfl, HBw.out⟩
end Go.Proofs.Ytknkoeahcemmmaa.Hand
