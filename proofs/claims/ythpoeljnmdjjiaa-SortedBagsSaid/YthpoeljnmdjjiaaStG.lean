/-
  Sorting, by hand: slices.symMergeCmpFunc, all of it.
-/
import Derived.Test.YthpoeljnmdjjiaaStF
namespace Go.Proofs.Ythpoeljnmdjjiaa.Srt
open Go.RowKit Go.Proofs.YthpoeljnmdjjiaaW.PrintWords Go.Proofs.YthpoeljnmdjjiaaW.PrintLast Go.Proofs.YthpoeljnmdjjiaaW.PrintMore
set_option linter.unusedVariables false
set_option linter.unusedSimpArgs false
variable {cf : Nat → Nat → Int}

theorem symMerge_all (C : Cf cf) (H : Nat → Hd) (w0 : World) (g cap : Nat) (f : Nat) (cb : Array Value) (ef : ∀ args w, (callFunc f args).run Try.prog w = .ok (.enter f args) w) (hcmp : CmpOK w0 g H f cb cf) (n : Nat) (hl : n ≤ 1000000) : ∀ N, SymOK cf H w0 g cap f cb n N := by
  intro N
  induction N with
  | zero => intro P X Y Q a m b w _ _ _ _ h1 h2 h3; omega
  | succ N ih =>
    intro P X Y Q a m b w hn ha hm hb h1 h2 h3 hs hs2 hx h
    rcases Nat.lt_or_ge (X.length + Y.length) (N + 1) with h4 | h4
    · exact ih P X Y Q a m b w hn ha hm hb h1 h2 (by omega) hs hs2 hx h
    · have h5 : X.length + Y.length = N + 1 := by omega
      rcases Nat.lt_or_ge 1 X.length with hX | hX
      · rcases Nat.lt_or_ge 1 Y.length with hY | hY
        · exact symMerge_mid C H w0 g cap f cb ef hcmp N n hl ih P X Y Q a m b w hn ha hm hb hX hY h5 hs hs2 hx h
        · obtain ⟨y, rfl⟩ : ∃ y, Y = [y] := List.length_eq_one_iff.1 (by omega)
          exact symMerge_right C H w0 g cap f cb ef hcmp P X y Q n a m b w hn hl ha hm (by simpa using hb) hX hs (fun x h => hx x h y (List.mem_singleton.2 rfl)) h
      · obtain ⟨x, rfl⟩ : ∃ x, X = [x] := List.length_eq_one_iff.1 (by omega)
        exact symMerge_left C H w0 g cap f cb ef hcmp P x Y Q n a m b w hn hl ha (by simpa using hm) (by simpa using hb) h2 hs2 (fun y h => hx x (List.mem_singleton.2 rfl) y h) h
end Go.Proofs.Ythpoeljnmdjjiaa.Srt
