/-
  By hand: the table's rows of two bytes, joined, are the row of these joined; no two rows are the same: the walk of CrcTables.
-/
import Derived.Test.YtknkoeahcemmmaaHCrcS
import Derived.BigQuiet
import Derived.Deep.QuietTactic
namespace Go.Proofs.Ytknkoeahcemmmaa.Hand
open Go.RowKit Go.Proofs.YtknkoeahcemmmaaW.PrintWords Go.Proofs.YtknkoeahcemmmaaW.PrintLast Go.Proofs.YtknkoeahcemmmaaW.PrintMore

theorem row_zero : crcRow 0 = 0 := by decide
set_option maxHeartbeats 2000000 in
set_option maxRecDepth 100000 in
theorem crcTables_calls (a b : Nat) (ha : a < 256) (hb : b < 256) (w : World) : Calls Try.prog 5 #[.int .u8 (a : Int), .int .u8 (b : Int)] w fun e w' => e = .returned (.bool true) ∧ Below w.heap.size w w' := by
  have hz := (zero_of_info zero256).1
  have hsz := (zero_of_info zero256).2
  have hxor : bits .xor .u8 (a : Int) (b : Int) = ((a ^^^ b : Nat) : Int) := u8_xor_nat a b ha hb
  have hab : a ^^^ b < 256 := Nat.xor_lt_two_pow (n := 8) ha hb
  have hrx : bits .xor .u32 (crcRow a : Int) (crcRow b : Int) = (crcRow (a ^^^ b) : Int) := by rw [u32_xor_nat _ _ (crcRow_lt a ha) (crcRow_lt b hb), row_xor]
  have hq : ((crcRow a : Int) == (crcRow b : Int)) = ((a : Int) == (b : Int)) := by
    rw [Bool.eq_iff_iff, beq_iff_eq, beq_iff_eq]
    constructor
    · intro h
      rw [row_inj ha hb (by omega)]
    · intro h
      rw [show a = b by omega]
  have c0 := cells32_at crcRow 0 (by decide)
  rw [row_zero] at c0
  have ca := cells32_at crcRow a ha
  have cb := cells32_at crcRow b hb
  have cx := cells32_at crcRow (a ^^^ b) hab
  go_enter Try.func5, Try.ntmps5
  go_wp2_with fail
  refine (crcShown_calls _).mono ?_
  rintro e w1 ⟨rfl, hb1⟩
  have HB1 := Aside0.mk hb1
  clear hb1
  go_wp2_with fail
  refine (crcTable_calls _).mono ?_
  rintro e w2 ⟨rfl, hb2⟩
  have HB2 := Aside0.mk (below_step HB1.out hb2)
  clear hb2
  go_wp2_with (refine wpList_store_row rfl 24 _ _ rfl w2.heap.size (cells32 crcRow) rfl rfl 24 (Array.replicate 256 (.int .u32 0)) (heap_alloc_new w2 _) (by rw [cells32_size]; exact hsz) (by rw [cells32_size]; simp) (cells32_one _) ?_; rw [World.setRow_alloc_new])
  have HB3 := Aside0.mk (below_step HB2.out (below_alloc (Below.refl _ _) (.cells (cells32 crcRow) 24)))
  have ha' : (a : Int) < 256 := by omega
  have hb' : (b : Int) < 256 := by omega
  have hab' : ((a ^^^ b : Nat) : Int) < 256 := by omega
  simp only [Act.put]
  go_quiet (fail)
  go_wp2
  go_ret
  exact ⟨rfl, pw_below_drewN HB3.out _⟩
end Go.Proofs.Ytknkoeahcemmmaa.Hand
