/-
  By hand: leb.Put's contract: a number's bytes.
-/
import Derived.Test.YtjchjdbfmiibhaaHText
import Derived.Test.YtjchjdbfmiibhaaHZag
import Derived.Deep.LoopGhost
import Derived.OwnWalk
import Derived.Test.YtjchjdbfmiibhaaTw
namespace Go.Proofs.Ytjchjdbfmiibhaa.Hand
open Go.RowKit Go.Proofs.YtjchjdbfmiibhaaW.PrintWords Go.Proofs.YtjchjdbfmiibhaaW.PrintLast Go.Proofs.YtjchjdbfmiibhaaW.PrintMore

def putL : Nat → Int → List Int
  | 0, n => [n]
  | k + 1, n => if n < 128 then [n] else (n % 128 + 128) :: putL k (n / 128)
def lebPut (n : Int) : Option (List Int) := if 0 ≤ n ∧ n < 18446744073709551616 then some (putL 9 n) else none

theorem putL_len : ∀ (k : Nat) (n : Int), (putL k n).length ≤ k + 1
  | 0, n => by simp [putL]
  | k + 1, n => by
    unfold putL
    split
    · simp
    · have := putL_len k (n / 128)
      simp
      omega
set_option maxRecDepth 100000 in
theorem or_128 (x : Int) (h0 : 0 ≤ x) (h1 : x < 256) : Go.bits .or .u8 x 128 = x % 128 + 128 := by
  have := (by decide : ∀ a : Fin 256, Go.bits .or .u8 (a.1 : Int) 128 = (a.1 : Int) % 128 + 128) ⟨x.toNat, by omega⟩
  simpa [Int.toNat_of_nonneg h0] using this

theorem info_put : (Try.prog.info? 5).map (fun i => (i.zero, i.size, i.bytes)) = some (some (.int .u8 0), 1, 1) := by kernel_rfl

set_option maxHeartbeats 8000000 in
set_option maxRecDepth 100000 in
theorem lebPut_calls (a0 : Int) (r : List Int) (w : World) (hq : lebPut a0 = some r) :
    Calls Try.prog 47 #[.int .u64 a0] w fun e w' => ∃ v0_ : Value, e = .returned (v0_) ∧ Kd.R (Kd.int .u8) 5 w' w.heap.size (fun _ => True) v0_ r ∧ Below w.heap.size w w' := by
  unfold lebPut at hq
  split at hq
  · rename_i hb
    injection hq with hq
    have HB := Aside0.mk (Below.refl w.heap.size w)
    have HQ := Aside0.mk (show ([] : List Int) ++ putL 9 a0 = r by simpa using hq)
    have HN := Aside0.mk (show 0 ≤ a0 ∧ a0 < 128 ^ (9 + 1) ∧ ([] : List Int).length + 9 ≤ 9 by simp; omega)
    clear hq hb
    go_enter Try.func47, Try.ntmps47
    go_wp2
    go_loopg [0, 3] 9 (fun kq v0 v3 w' => ∃ (x : Int) (xs : List Int), v0 = .int .u64 x ∧ Aside0 (xs ++ putL kq x = r) ∧ Aside0 (0 ≤ x ∧ x < 128 ^ (kq + 1) ∧ xs.length + kq ≤ 9) ∧ Aside0 (Kd.R (Kd.int .u8) 5 w' w.heap.size (fun _ => True) v3 xs) ∧ Aside0 (Below w.heap.size w w'))
    case atStart => exact ⟨a0, [], rfl, HQ, HN, ⟨Kd.R_nil _ _ _ _ _⟩, HB⟩
    case round =>
      clear HQ HN
      obtain ⟨x, xs, rfl, HA, HN, HO, HB⟩ := hrel
      have HL := HN.out.2.2
      have HL2 : xs.length < 140737488355328 := by omega
      have HL3 := Aside0.mk HL2
      clear HL HL2
      have hx0 := HN.out.1
      by_cases c2 : x ≥ 128
      · cases gk with
        | zero => exact absurd HN.out.2.1 (by simp; omega)
        | succ k1 =>
          have hA := HA.out
          simp only [putL] at hA
          rw [if_neg (by omega)] at hA
          have HA2 := Aside0.mk (show (xs ++ [Go.bits .or .u8 (x % 256) 128]) ++ putL k1 (x / 128) = r by
            rw [or_128 _ (by omega) (by omega), show x % 256 % 128 = x % 128 by omega, List.append_assoc]
            exact hA)
          have HN2 := Aside0.mk (show 0 ≤ x / 128 ∧ x / 128 < 128 ^ (k1 + 1) ∧ (xs ++ [Go.bits .or .u8 (x % 256) 128]).length + k1 ≤ 9 by
            obtain ⟨_, q, q2⟩ := HN.out
            have e : (128 : Int) ^ (k1 + 1 + 1) = 128 ^ (k1 + 1) * 128 := Int.pow_succ ..
            generalize (128 : Int) ^ (k1 + 1) = p at *
            simp only [List.length_append, List.length_cons, List.length_nil]
            refine ⟨by omega, by omega, by omega⟩)
          clear hA HA HN
          have c2b0 : decide (128 ≤ x) = true := decide_eq_true c2
          clear c2
          obtain ⟨y, hy⟩ : ∃ y_ : List Int, y_ = (xs ++ [Go.bits .or .u8 (x % 256) 128]) := ⟨_, rfl⟩
          rw [← hy] at HA2 HN2
          have Ny := Aside0.mk hy
          clear hy
          go_wp2_with (at_builtin; refine Kd.R_append (Kd.int .u8) (w0 := w) w.heap.size rfl (.tmp 6) (.tmp 10) 25 5 (.int .u8 0) 1 rfl Try.underlying25 info_put rfl (by decide) (by omega) u3 xs (Go.bits .or .u8 ((x) % 256) 128) [.int .u8 (Go.bits .or .u8 ((x) % 256) 128)] (fun _ => True) (fun _ => False) rfl rfl ?aP (fun _ hk => hk.elim) ?aF ?aO ?aB ?aS ?aL ?_; (case aP => exact rfl); (case aB => exact HB.out); (case aF => exact (fun _ _ => trivial)); (case aO => exact HO.out); (case aS => exact (below_size HB.out)); (case aL => have := HL3.out; omega); intro v102 w4 ho hb hg hat; rw [← Ny.out] at ho; have n0_ := Aside0.mk (hb); have n1_ := Aside0.mk (ho); clear HB; clear HO; have HB := n0_; have HO103 := n1_; clear n0_ n1_; clear ho hb hg hat)
          go_roundg k1
          case measure => omega
          case rel => exact ⟨(x / 128), y, rfl, HA2, HN2, HO103, HB⟩
      · have hA := HA.out
        have e : putL gk x = [x] := by
          cases gk with
          | zero => rfl
          | succ k1 => simp only [putL]; rw [if_pos (by omega)]
        rw [e] at hA
        have c2b0 : decide (128 ≤ x) = false := decide_eq_false c2
        have Ny := Aside0.mk (show r = xs ++ [x % 256] by rw [← hA, show x % 256 = x by omega])
        clear c2 hA e HA HN
        go_wp2_with (at_builtin; refine Kd.R_append (Kd.int .u8) (w0 := w) w.heap.size rfl (.tmp 14) (.tmp 17) 25 5 (.int .u8 0) 1 rfl Try.underlying25 info_put rfl (by decide) (by omega) u3 xs (x % 256) [.int .u8 (x % 256)] (fun _ => True) (fun _ => False) rfl rfl ?aP (fun _ hk => hk.elim) ?aF ?aO ?aB ?aS ?aL ?_; (case aP => exact rfl); (case aB => exact HB.out); (case aF => exact (fun _ _ => trivial)); (case aO => exact HO.out); (case aS => exact (below_size HB.out)); (case aL => have := HL3.out; omega); intro v105 w6 ho hb hg hat; rw [← Ny.out] at ho; have n0_ := Aside0.mk (hb); have n1_ := Aside0.mk (ho); clear HB; clear HO; have HB := n0_; have HO106 := n1_; clear n0_ n1_; clear ho hb hg hat)
        go_ret
        exact ⟨_, rfl, HO106.out, HB.out⟩
  · cases hq
end Go.Proofs.Ytjchjdbfmiibhaa.Hand
