/-
  By hand: a string made of a row that is shared (told by its value alone).
-/
import Derived.Test.YthpoeljnmdjjiaaProg
import Derived.Test.YthpoeljnmdjjiaaTw
namespace Go.Proofs.Ythpoeljnmdjjiaa.Hand
open Go.RowKit Go.Proofs.YthpoeljnmdjjiaaW.PrintWords Go.Proofs.YthpoeljnmdjjiaaW.PrintMore

theorem V_string {P : Program} {W : World} {src dst e e' : TypeId} {base : Nat} {ok : Nat → Prop} {v : Value} {xs : List Int} (hs : P.underlying src = some (.slice e)) (he : P.underlying e = some (.int .u8)) (hd : P.underlying dst = some .string)
    (h : Kd.V (Kd.int .u8) e' W base ok v xs) : (convert src dst v).run P W = .ok (.string (strOfNums xs)) W := by
  obtain ⟨A, c, rfl⟩ := Kd.V_slice h
  exact Kd.C_string hs he hd (Kd.V_reads' h).2.2
end Go.Proofs.Ythpoeljnmdjjiaa.Hand
