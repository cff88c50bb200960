/-
  The sums of three rows of bytes, as long as each other, joined, are the sum of these joined. (CrcJoins)
-/
import Derived.Test.YtknkoeahcemmmaaPCrjx4
namespace Go.Proofs.Ytknkoeahcemmmaa.Pure
open Go.RowKit Go.Proofs.Ytknkoeahcemmmaa.PCrj Go.Proofs.YtknkoeahcemmmaaW.PrintWords Go.Proofs.YtknkoeahcemmmaaW.PrintLast Go.Proofs.YtknkoeahcemmmaaW.PrintMore Go.Proofs.Ytknkoeahcemmmaa.Hand

theorem w64 {n : Int} (h0 : 0 ≤ n) (h1 : n < 9223372036854775808) : wrap64 n = n := by unfold wrap64; omega
def fx (x y : Int) : Int := ((x.toNat ^^^ y.toNat : Nat) : Int)
def at3 (a b c : List Int) (i : Nat) : Int := Go.bits .xor .u8 (Go.bits .xor .u8 (rd a (i : Int)) (rd b (i : Int))) (rd c (i : Int))
def upTo3 (a b c : List Int) (i : Nat) : List Int := (List.range i).map (at3 a b c)
theorem upTo3_succ (a b c : List Int) (i : Nat) : upTo3 a b c i ++ [at3 a b c i] = upTo3 a b c (i + 1) := by simp [upTo3, List.range_succ]
theorem upTo3_len (a b c : List Int) (i : Nat) : (upTo3 a b c i).length = i := by simp [upTo3]
def Bs (l : List Int) : Prop := ∀ x ∈ l, 0 ≤ x ∧ x < 256
theorem rd_nat (l : List Int) (hb : Bs l) (i : Nat) (h : i < l.length) : rd l (i : Int) = ((l[i].toNat : Nat) : Int) ∧ l[i].toNat < 256 := by
  have := hb _ (List.getElem_mem h)
  refine ⟨?_, by omega⟩
  simp only [rd, Int.toNat_natCast, List.getD_eq_getElem?_getD]
  rw [List.getElem?_eq_getElem h]
  show l[i] = _
  omega
theorem at3_eq (a b c : List Int) (ha : Bs a) (hb : Bs b) (hc : Bs c) (i : Nat) (h0 : i < a.length) (h1 : i < b.length) (h2 : i < c.length) : at3 a b c i = fx (fx a[i] b[i]) c[i] := by
  obtain ⟨e0, l0⟩ := rd_nat a ha i h0
  obtain ⟨e1, l1⟩ := rd_nat b hb i h1
  obtain ⟨e2, l2⟩ := rd_nat c hc i h2
  unfold at3 fx
  rw [e0, e1, e2, u8_xor_nat _ _ l0 l1, u8_xor_nat _ _ (Nat.xor_lt_two_pow (n := 8) l0 l1) l2, Int.toNat_natCast]
theorem upTo3_eq (a b c : List Int) (ha : Bs a) (hb : Bs b) (hc : Bs c) (n : Nat) (h0 : n ≤ a.length) (h1 : n ≤ b.length) (h2 : n ≤ c.length) :
    upTo3 a b c n = List.zipWith fx (List.zipWith fx (a.take n) (b.take n)) (c.take n) := by
  apply List.ext_getElem
  · simp [upTo3]; omega
  · intro i hi _
    rw [upTo3_len] at hi
    simp only [upTo3, List.getElem_map, List.getElem_range, List.getElem_zipWith, List.getElem_take]
    exact at3_eq a b c ha hb hc i (by omega) (by omega) (by omega)
theorem fx_byte {x y : Int} (h0 : 0 ≤ x ∧ x < 256) (h1 : 0 ≤ y ∧ y < 256) : 0 ≤ fx x y ∧ fx x y < 256 := by
  have : x.toNat ^^^ y.toNat < 2 ^ 8 := Nat.xor_lt_two_pow (by omega) (by omega)
  unfold fx
  omega
theorem upTo3_bytes (a b c : List Int) (ha : Bs a) (hb : Bs b) (hc : Bs c) (n : Nat) (h0 : n ≤ a.length) (h1 : n ≤ b.length) (h2 : n ≤ c.length) : Bs (upTo3 a b c n) := by
  intro x hx
  simp only [upTo3, List.mem_map, List.mem_range] at hx
  obtain ⟨i, hi, rfl⟩ := hx
  rw [at3_eq a b c ha hb hc i (by omega) (by omega) (by omega)]
  exact fx_byte (fx_byte (ha _ (List.getElem_mem _)) (hb _ (List.getElem_mem _))) (hc _ (List.getElem_mem _))
theorem sums (a b c : List Int) (ha : Bs a) (hb : Bs b) (hc : Bs c) (h1 : a.length = b.length) (h2 : a.length = c.length) :
    Go.bits .xor .u32 (Go.bits .xor .u32 (crcSumBy crcRow a : Int) (crcSumBy crcRow b : Int)) (crcSumBy crcRow c : Int) = (crcSumBy crcRow (List.zipWith fx (List.zipWith fx a b) c) : Int) := by
  have la := crcSum_lt a ha
  have lb := crcSum_lt b hb
  have lc := crcSum_lt c hc
  simp only [crcSum] at la lb lc
  rw [u32_xor_nat _ _ la lb, u32_xor_nat _ _ (Nat.xor_lt_two_pow (n := 32) la lb) lc]
  congr 1
  have e1 := crcReg_xor a b ones ones h1
  have e2 := crcReg_xor (List.zipWith fx a b) c (ones ^^^ ones) ones (by simp; omega)
  rw [Nat.xor_self, Nat.zero_xor] at e2
  rw [Nat.xor_self] at e1
  unfold crcSumBy
  show _ = ones ^^^ crcReg crcRow ones (List.zipWith (fun x y => ((x.toNat ^^^ y.toNat : Nat) : Int)) (List.zipWith fx a b) c)
  rw [e2]
  show _ = ones ^^^ (crcReg crcRow 0 (List.zipWith (fun x y => ((x.toNat ^^^ y.toNat : Nat) : Int)) a b) ^^^ crcReg crcRow ones c)
  rw [e1]
  generalize crcReg crcRow ones a = A
  generalize crcReg crcRow ones b = B
  generalize crcReg crcRow ones c = C
  generalize ones = o
  calc ((o ^^^ A) ^^^ (o ^^^ B)) ^^^ (o ^^^ C) = (o ^^^ o) ^^^ (o ^^^ ((A ^^^ B) ^^^ C)) := by ac_rfl
    _ = o ^^^ ((A ^^^ B) ^^^ C) := by rw [Nat.xor_self, Nat.zero_xor]
theorem loop (a b c : List Int) (ha : Bs a) (hb : Bs b) (hc : Bs c) (n : Nat) (h0 : n ≤ a.length) (h1 : n ≤ b.length) (h2 : n ≤ c.length) (hn : n < 140737488355328) :
    ∀ (d i k : Nat), i + d = n → d < k → law03_CrcJoins.l0 k a b c true (n : Int) (upTo3 a b c i) (i : Int) = some true := by
  intro d
  induction d with
  | zero =>
    intro i k hi hk
    obtain ⟨k, rfl⟩ : ∃ q, k = q + 1 := ⟨k - 1, by omega⟩
    obtain rfl : i = n := by omega
    rw [law03_CrcJoins.l0, if_neg (by omega)]
    unfold crc_Sum.f
    rw [if_pos ⟨by omega, by omega, by omega, by omega, ha, hb, hc, upTo3_bytes a b c ha hb hc i h0 h1 h2⟩, Int.toNat_natCast, upTo3_eq a b c ha hb hc i h0 h1 h2,
      sums _ _ _ (fun x hx => ha x (List.mem_of_mem_take hx)) (fun x hx => hb x (List.mem_of_mem_take hx)) (fun x hx => hc x (List.mem_of_mem_take hx)) (by simp; omega) (by simp; omega), beq_self_eq_true]
    rfl
  | succ d ih =>
    intro i k hi hk
    obtain ⟨k, rfl⟩ : ∃ q, k = q + 1 := ⟨k - 1, by omega⟩
    rw [law03_CrcJoins.l0, if_pos (by omega), if_pos (by omega), if_pos (by omega), if_pos (by omega), if_pos (by omega), if_pos (by rw [upTo3_len]; omega), w64 (by omega) (by omega)]
    show law03_CrcJoins.l0 k a b c true (n : Int) (upTo3 a b c i ++ [at3 a b c i]) _ = _
    rw [upTo3_succ, show ((i : Int) + 1) = ((i + 1 : Nat) : Int) by omega]
    exact ih (i + 1) k (by omega) (by omega)
theorem CrcJoins : law03_CrcJoins.Pure := by
  intro a b c _ hm0 ha _ hm1 hb _ hm2 hc
  have B : ∀ {l : List Int}, (∀ x ∈ l, (Lit.int .u8 x).wf = true) → Bs l := fun h x hx => by
    have : 0 ≤ x ∧ x ≤ 255 := by simpa [Lit.wf, IntKind.min, IntKind.max, IntKind.signed, IntKind.bits] using h x hx
    omega
  refine ⟨min (min a.length b.length) c.length + 1, ?_⟩
  have e : mn (mn (a.length : Int) (b.length : Int)) (c.length : Int) = ((min (min a.length b.length) c.length : Nat) : Int) := by
    unfold mn
    (repeat' split) <;> omega
  unfold law03_CrcJoins.f
  rw [show law03_shown.f = some true from rfl, e]
  exact loop a b c (B ha) (B hb) (B hc) _ (by omega) (by omega) (by omega) (by omega) _ 0 _ (Nat.zero_add _) (by omega)
end Go.Proofs.Ytknkoeahcemmmaa.Pure
