/-
  What was a block is opened as it was, and what stands behind it is told; cut anywhere it is too short: for every bytes, what stands behind and cut, where all is of bulk at most 1048576. (CrcBack)
-/
import Derived.Test.YtknkoeahcemmmaaUCrcBack
import Derived.Test.YtknkoeahcemmmaaLebP
namespace Go.Proofs.Ytknkoeahcemmmaa.Pure
open Go.RowKit Go.Proofs.Ytknkoeahcemmmaa.PCrc Go.Proofs.YtknkoeahcemmmaaW.PrintWords Go.Proofs.YtknkoeahcemmmaaW.PrintLast Go.Proofs.Ytknkoeahcemmmaa.Hand

/-- A block's bytes. -/
def blk (b : List Int) : List Int := putL 9 (b.length : Int) ++ (b ++ le4 (crcSum b))
theorem blk_len (b : List Int) : (blk b).length = (putL 9 (b.length : Int)).length + (b.length + 4) := by
  unfold blk
  rw [List.length_append, List.length_append]; rfl
theorem put_pos (n : Int) : 0 < (putL 9 n).length := List.length_pos_iff.2 (putL_ne 9 n)
theorem blk_bytes {b : List Int} (hB : ∀ x ∈ b, 0 ≤ x ∧ x < 256) (hl : b.length ≤ 140737488355328) : ∀ x ∈ blk b, 0 ≤ x ∧ x < 256 := fun x hx =>
  (List.mem_append.1 hx).elim (putL9_range ⟨by omega, by omega⟩ x) (fun h => (List.mem_append.1 h).elim (hB x) (le4_bytes _ x))
theorem block_f (b : List Int) (hB : ∀ x ∈ b, 0 ≤ x ∧ x < 256) (hl : b.length ≤ 140737488351232) : crc_Block.f b = some (blk b) := by
  unfold crc_Block.f crcBlock blk
  rw [if_pos ⟨hB, by omega⟩, List.append_assoc]
/-- A block is opened, and what stands behind it is told. -/
theorem open_blk (b more : List Int) (most : Int) (hB : ∀ x ∈ b, 0 ≤ x ∧ x < 256) (hM : ∀ x ∈ more, 0 ≤ x ∧ x < 256) (hl : (blk b ++ more).length ≤ 140737488355328) (h1 : (b.length : Int) ≤ most) (h2 : most ≤ 9223372036854775807) :
    crc_Open.f (blk b ++ more) most = some (b, more, 0) := by
  rw [List.length_append, blk_len] at hl
  have hn : (0 : Int) ≤ (b.length : Int) ∧ (b.length : Int) < 18446744073709551616 := by omega
  have h4 : (le4 (crcSum b)).length = 4 := rfl
  unfold crc_Open.f crcOpen
  rw [if_pos ⟨fun x hx => (List.mem_append.1 hx).elim (blk_bytes hB (by have := put_pos (b.length : Int); omega) x) (hM x), by rw [List.length_append, blk_len]; omega, by omega, by omega⟩]
  unfold crcOpenOut blk
  rw [List.append_assoc, num_put0 hn]
  simp only
  rw [if_neg (by omega), if_neg (by simp only [List.length_append, h4]; omega), Int.toNat_natCast, List.append_assoc, List.take_left', List.drop_left']
  · rw [List.take_left', List.drop_left', if_pos rfl]
    · rfl
    · rfl
  · rfl
  · rfl
theorem open_small (b : List Int) (most : Int) (hB : ∀ x ∈ b, 0 ≤ x ∧ x < 256) (hl : b.length ≤ 140737488351232) (h0 : -9223372036854775808 ≤ most) (h1 : most < (b.length : Int)) : crc_Open.f (blk b) most = some ([], [], 2) := by
  have hn : (0 : Int) ≤ (b.length : Int) ∧ (b.length : Int) < 18446744073709551616 := by omega
  have hpl := putL9_len (n := (b.length : Int))
  unfold crc_Open.f crcOpen
  rw [if_pos ⟨blk_bytes hB (by omega), by rw [blk_len]; omega, by omega, by omega⟩]
  unfold crcOpenOut blk
  rw [num_put0 hn]
  simp only
  rw [if_pos (by omega)]
theorem open_cut (b : List Int) (c : Nat) (hB : ∀ x ∈ b, 0 ≤ x ∧ x < 256) (hl : b.length ≤ 140737488351232) (hc : c < (blk b).length) : crc_Open.f ((blk b).take c) (b.length : Int) = some ([], [], 3) := by
  have hn : (0 : Int) ≤ (b.length : Int) ∧ (b.length : Int) < 18446744073709551616 := by omega
  have hpl := putL9_len (n := (b.length : Int))
  have hbl := blk_len b
  unfold crc_Open.f crcOpen
  rw [if_pos ⟨fun x hx => blk_bytes hB (by omega) x (List.mem_of_mem_take hx), by rw [List.length_take]; omega, by omega, by omega⟩]
  unfold crcOpenOut
  by_cases h : c < (putL 9 (b.length : Int)).length
  · rw [show (blk b).take c = (putL 9 (b.length : Int)).take c by unfold blk; rw [List.take_append_of_le_length (by omega)], num_cut 9 0 (b.length : Int) 0 c rfl (by omega) h]
  · obtain ⟨j, hj⟩ : ∃ j, c = (putL 9 (b.length : Int)).length + j := ⟨c - (putL 9 (b.length : Int)).length, by omega⟩
    have h4 : (le4 (crcSum b)).length = 4 := rfl
    rw [show (blk b).take c = putL 9 (b.length : Int) ++ (b ++ le4 (crcSum b)).take j by unfold blk; rw [hj, List.take_length_add_append], num_put0 hn]
    simp only
    rw [if_neg (by omega), if_pos (by rw [List.length_take, List.length_append, h4]; omega)]
theorem CrcBackUpto : law03_CrcBack.PureU := by
  intro b more cut _ _ hb _ _ hm w2 s0 s1
  have hB : ∀ x ∈ b, 0 ≤ x ∧ x < 256 := fun x hx => wf_u8_ (hb x hx)
  have hM : ∀ x ∈ more, 0 ≤ x ∧ x < 256 := fun x hx => wf_u8_ (hm x hx)
  have hc : 0 ≤ cut ∧ cut ≤ 65535 := by simpa [Lit.wf, IntKind.min, IntKind.max, IntKind.signed, IntKind.bits] using w2
  have hbl := blk_len b
  have hpl := putL9_len (n := (b.length : Int))
  have hpp := put_pos (b.length : Int)
  refine ⟨1, ?_⟩
  unfold law03_CrcBack.f law03_shown.f
  simp only [Option.bind_some]
  rw [block_f b hB (by omega)]
  simp only [Option.bind_some, List.nil_append, List.length_nil]
  rw [if_pos (by omega), if_pos (by omega), open_blk b more (b.length : Int) hB hM (by rw [List.length_append]; omega) (by omega) (by omega)]
  simp only [Option.bind_some, if_true]
  have e5 : wrap64 ((b.length : Int) + 5) = (b.length : Int) + 5 := by unfold wrap64; omega
  have e1 : wrap64 ((b.length : Int) - 1) = (b.length : Int) - 1 := by unfold wrap64; omega
  have ec : wrap64 cut = cut := by unfold wrap64; omega
  rw [e5, show decide (((blk b).length : Int) < (b.length : Int) + 5) = false from decide_eq_false (by omega), law03_CrcBack.j0, if_neg (by decide), if_neg (by omega), ec, e1]
  have et : Int.tmod cut ((blk b).length : Int) = cut % ((blk b).length : Int) := Int.tmod_eq_emod_of_nonneg hc.1
  have hpos : (0 : Int) < ((blk b).length : Int) := by omega
  have r0 := Int.emod_nonneg cut (show ((blk b).length : Int) ≠ 0 by omega)
  have r1 := Int.emod_lt_of_pos cut hpos
  rw [et, if_pos r0, if_pos (by omega), open_cut b _ hB (by omega) (by omega), open_small b _ hB (by omega) (by omega) (by omega)]
  rfl
end Go.Proofs.Ytknkoeahcemmmaa.Pure
