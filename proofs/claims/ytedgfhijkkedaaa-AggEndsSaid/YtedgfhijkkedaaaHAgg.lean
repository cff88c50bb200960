/-
  By hand: agg.Sum's contract (it calls math/bits.Add64, whose entry the model gives): the sum of whole numbers, told of each slice of int64s of at most 2^44 of them.
-/
import Derived.Test.YtedgfhijkkedaaaProg
import Derived.Test.YtedgfhijkkedaaaWWords
import Derived.Laws.Externs
import Derived.Lib.Hide
namespace Go.Proofs.Ytedgfhijkkedaaa.Hand
open Go.RowKit Go.Proofs.YtedgfhijkkedaaaW.PrintWords

/-- The sum, or 8 (ErrOverflow). -/
def sumOut (s : Int) : Int × Int := if -9223372036854775808 ≤ s ∧ s ≤ 9223372036854775807 then (s, 0) else (0, 8)
def aggSum (l : List Int) : Option (Int × Int) :=
  if (∀ x ∈ l, -9223372036854775808 ≤ x ∧ x ≤ 9223372036854775807) ∧ l.length ≤ 17592186044416 then some (sumOut l.sum) else none

theorem add64 (x y c : Int) (hx : 0 ≤ x) (hy : 0 ≤ y) (hc0 : 0 ≤ c) (hc : c ≤ 1) (w : World) : (callFunc 18 #[.int .u64 x, .int .u64 y, .int .u64 c]).run Try.prog w =
    .ok (.value (.tuple #[.int .u64 ((x + y + c) % 18446744073709551616), .int .u64 ((x + y + c) / 18446744073709551616)])) w := by
  rw [run_callFunc_extern (e := add64Entry) Try.func18 (by kernel_rfl) (by kernel_rfl) (by kernel_rfl) (by kernel_rfl), run_add64 x y c hx hy hc0 hc]
  rfl


theorem add64_0 (x y : Int) (hx : 0 ≤ x) (hy : 0 ≤ y) (w : World) : (callFunc 18 #[.int .u64 x, .int .u64 y, .int .u64 0]).run Try.prog w =
    .ok (.value (.tuple #[.int .u64 ((x + y) % 18446744073709551616), .int .u64 ((x + y) / 18446744073709551616)])) w := by
  simpa using add64 x y 0 hx hy (Int.le_refl 0) (by decide) w

/-- The lower word, and the upper one, of a sum in 128 bits. -/
def lo (s : Int) : Int := s % 18446744073709551616
def hi (s : Int) : Int := s / 18446744073709551616 % 18446744073709551616
theorem lo_ge (s : Int) : 0 ≤ lo s := by unfold lo; omega
theorem hi_ge (s : Int) : 0 ≤ hi s := by unfold hi; omega
theorem wrap_ge (v : Int) : 0 ≤ IntKind.u64.wrap v := by rw [IntKind.wrap_u64]; omega
theorem carry_ge (s v : Int) : 0 ≤ (lo s + IntKind.u64.wrap v) / 18446744073709551616 := by rw [IntKind.wrap_u64]; unfold lo; omega
theorem carry_le (s v : Int) : (lo s + IntKind.u64.wrap v) / 18446744073709551616 ≤ 1 := by rw [IntKind.wrap_u64]; unfold lo; omega
theorem lo_step (s v : Int) : (lo s + IntKind.u64.wrap v) % 18446744073709551616 = lo (s + v) := by rw [IntKind.wrap_u64]; unfold lo; omega
theorem div_wrap (v : Int) (h1 : -9223372036854775808 ≤ v) (h2 : v ≤ 9223372036854775807) : v / 9223372036854775808 = v / 18446744073709551616 ∧ (v / 18446744073709551616 = 0 ∨ v / 18446744073709551616 = -1) := by omega
theorem add_mods (q f c : Int) : (q % 18446744073709551616 + f % 18446744073709551616 + c) % 18446744073709551616 = (q + f + c) % 18446744073709551616 := by omega
theorem div_sum (s v : Int) : (s + v) / 18446744073709551616 = s / 18446744073709551616 + v / 18446744073709551616 + (s % 18446744073709551616 + v % 18446744073709551616) / 18446744073709551616 := by omega
theorem hi_step (s v : Int) (h1 : -9223372036854775808 ≤ v) (h2 : v ≤ 9223372036854775807) :
    (hi s + IntKind.u64.wrap (v / 9223372036854775808) + (lo s + IntKind.u64.wrap v) / 18446744073709551616) % 18446744073709551616 = hi (s + v) := by
  simp only [IntKind.wrap_u64, hi, lo]
  rw [(div_wrap v h1 h2).1, add_mods, div_sum s v]
/-- Which numbers of 128 bits are of 64. -/
theorem fits_iff (s : Int) (h1 : -162259276829213363391578010288128 ≤ s) (h2 : s ≤ 162259276829213363391578010288128) :
    (IntKind.u64.wrap (wrap64 (lo s) / 9223372036854775808) = hi s ↔ (-9223372036854775808 ≤ s ∧ s ≤ 9223372036854775807)) ∧ ((-9223372036854775808 ≤ s ∧ s ≤ 9223372036854775807) → wrap64 (lo s) = s) := by
  have hq : s = 18446744073709551616 * (s / 18446744073709551616) + s % 18446744073709551616 := by omega
  have hm1 : 0 ≤ s % 18446744073709551616 := by omega
  have hm2 : s % 18446744073709551616 < 18446744073709551616 := by omega
  simp only [IntKind.wrap_u64, hi, lo]
  generalize s / 18446744073709551616 = q at *
  generalize s % 18446744073709551616 = m at *
  have hq1 : -4611686018427387904 < q := by omega
  have hq2 : q < 4611686018427387904 := by omega
  rcases (show m < 9223372036854775808 ∨ 9223372036854775808 ≤ m by omega) with h | h
  · have e : wrap64 m = m := by unfold wrap64; omega
    rw [e]
    have e2 : m / 9223372036854775808 = 0 := by omega
    rw [e2]
    constructor
    · constructor <;> intro h3 <;> omega
    · intro h3; omega
  · have e : wrap64 m = m - 18446744073709551616 := by unfold wrap64; omega
    rw [e]
    have e2 : (m - 18446744073709551616) / 9223372036854775808 = -1 := by omega
    rw [e2]
    constructor
    · constructor <;> intro h3 <;> omega
    · intro h3; omega
theorem fits_yes (s : Int) (h1 : -162259276829213363391578010288128 ≤ s) (h2 : s ≤ 162259276829213363391578010288128) (h : (IntKind.u64.wrap (wrap64 (lo s) / 9223372036854775808) != hi s) = true) : sumOut s = (0, 8) := by
  rw [bne_iff_ne] at h
  unfold sumOut
  rw [if_neg (fun hf => h ((fits_iff s h1 h2).1.2 hf))]
theorem fits_no (s : Int) (h1 : -162259276829213363391578010288128 ≤ s) (h2 : s ≤ 162259276829213363391578010288128) (h : (IntKind.u64.wrap (wrap64 (lo s) / 9223372036854775808) != hi s) = false) : sumOut s = (wrap64 (lo s), 0) := by
  rw [bne_eq_false_iff_eq] at h
  have hf := (fits_iff s h1 h2).1.1 h
  unfold sumOut
  rw [if_pos hf, (fits_iff s h1 h2).2 hf]
theorem sum_take_succ (l : List Int) (k : Nat) (h : k < l.length) : (l.take (k + 1)).sum = (l.take k).sum + l.getD k 0 := by
  rw [List.take_succ_eq_append_getElem h, List.sum_append]; simp [List.getD_eq_getElem?_getD, h]
theorem sum_bounds (l : List Int) (hb : ∀ x ∈ l, -9223372036854775808 ≤ x ∧ x ≤ 9223372036854775807) : -9223372036854775808 * (l.length : Int) ≤ l.sum ∧ l.sum ≤ 9223372036854775808 * (l.length : Int) := by
  induction l with
  | nil => simp
  | cons a l ih =>
    have h1 := hb a (List.mem_cons_self ..)
    have h2 := ih (fun x hx => hb x (List.mem_cons_of_mem _ hx))
    simp only [List.sum_cons, List.length_cons]
    omega

theorem cells_int {k : IntKind} {w : World} {A : Option Addr} {xs : List Int} (h : Kd.C (Kd.int k) w A xs.length xs) (hn : 0 < xs.length) :
    ∃ ad, A = some ad ∧ ∀ j, j < xs.length → w.cell? (ad.add j) = some (.int k (xs.getD j 0)) := by
  obtain ⟨ad, hA, hc⟩ := h.2.2 hn
  refine ⟨ad, hA, fun j hj => ?_⟩
  obtain ⟨c, h1, h2, h3⟩ := hc j _ (List.getElem?_eq_getElem hj)
  have h4 : c = [Value.int k xs[j]] := h2
  subst h4
  have := h3 0 _ rfl
  simpa [Kd.int, Kd.scalar, List.getD_eq_getElem?_getD, hj] using this

set_option maxHeartbeats 400000 in
theorem aggSum_calls (A0 : Option Addr) (c0 : Nat) (l0 : List Int) (r1 : Int) (r2 : Int) (w : World) (hr0 : Kd.C (Kd.int .i64) w A0 l0.length l0) (_hc0 : l0.length ≤ c0) (h : aggSum l0 = some (r1, r2)) :
    Calls Try.prog 10 #[.slice A0 l0.length c0] w fun e w' => e = .returned (.tuple #[.int .i64 r1, .int .i64 r2]) ∧ Drawn0 w w' := by
  unfold aggSum at h
  split at h
  · rename_i hyp
    obtain ⟨hb, hl⟩ := hyp
    injection h with h
    have HS := sum_bounds l0 hb
    have H := Lib.hid h
    clear h
    go_enter Try.func10, Try.ntmps10
    go_wp2
    go_loop [4, 5, 11] (fun x y i => ∃ k : Nat, k ≤ l0.length ∧ i = .int .i64 k ∧ x = .int .u64 (lo (l0.take k).sum) ∧ y = .int .u64 (hi (l0.take k).sum)) (fun _ _ i => l0.length - (intOf i).toNat)
    case atStart => exact ⟨0, Nat.zero_le _, rfl, rfl, rfl⟩
    case round =>
      obtain ⟨k, hk, rfl, rfl, rfl⟩ := hrel
      by_cases hlt : k < l0.length
      · obtain ⟨ad, rfl, hcell⟩ := cells_int hr0 (by omega)
        have hck := hcell k hlt
        have hs := sum_take_succ l0 k hlt
        have hv : l0.getD k 0 ∈ l0 := by rw [List.getD_eq_getElem?_getD, List.getElem?_eq_getElem hlt]; exact List.getElem_mem hlt
        have hbv := hb _ hv
        clear hcell hv
        generalize l0.getD k 0 = v at *
        have Hs := Lib.hid hs
        clear hs
        generalize hS : (l0.take k).sum = s at *
        clear hS
        obtain ⟨v1, v2⟩ := hbv
        go_wp2_with (first | simp only [add64_0 (lo s) (IntKind.u64.wrap v) (lo_ge s) (wrap_ge v)] | simp only [add64 (hi s) (IntKind.u64.wrap (v / 9223372036854775808)) _ (hi_ge s) (wrap_ge _) (carry_ge s v) (carry_le s v)])
        go_round
        case rel => exact ⟨k + 1, by omega, by go_num, by rw [Hs.out, lo_step], by rw [Hs.out, hi_step _ _ v1 v2]⟩
        case measure => simp [intOf]; omega
      · have hke : l0.take k = l0 := List.take_of_length_le (by omega)
        rw [hke]
        clear hke
        have HS1 : -162259276829213363391578010288128 ≤ l0.sum := by omega
        have HS2 : l0.sum ≤ 162259276829213363391578010288128 := by omega
        generalize l0.sum = s at *
        go_wp2
        · have h1 := fits_yes s HS1 HS2 (by assumption)
          go_ret2
          rw [H.out, Prod.mk.injEq] at h1
          obtain ⟨rfl, rfl⟩ := h1
          exact ⟨rfl, Drawn0.refl _⟩
        · have h1 := fits_no s HS1 HS2 (by assumption)
          go_ret2
          rw [H.out, Prod.mk.injEq] at h1
          obtain ⟨rfl, rfl⟩ := h1
          exact ⟨rfl, Drawn0.refl _⟩
  · cases h

end Go.Proofs.Ytedgfhijkkedaaa.Hand
