/-
  By hand: val.Clean's contract (a value's bits cleaned).
-/
import Derived.Test.YthooijfdlamkkaaHFlt
import Derived.WalkLawsBesides
import Derived.Test.YthooijfdlamkkaaWLast
import Derived.Test.YthooijfdlamkkaaWMore
import Derived.Lib.Hide
namespace Go.Proofs.Ythooijfdlamkkaa.Hand
open Go.RowKit Go.Proofs.YthooijfdlamkkaaW.PrintWords Go.Proofs.YthooijfdlamkkaaW.PrintLast Go.Proofs.YthooijfdlamkkaaW.PrintMore

def valClean (k i : Int) (s : ByteArray) : Option (Int × Int × ByteArray) := if k = 2 then (fltClean (IntKind.u64.wrap i)).bind fun c => some (k, wrap64 c, s) else some (k, i, s)

set_option maxRecDepth 100000 in
theorem valClean_calls (k i : Int) (s : ByteArray) (r1 r2 : Int) (r3 : ByteArray) (w : World) (hq : valClean k i s = some (r1, r2, r3)) :
    Calls Try.prog 14 #[.agg #[.int .i64 k, .int .i64 i, .string s]] w fun e w' => e = .returned (.agg #[.int .i64 r1, .int .i64 r2, .string r3]) ∧ Below w.heap.size w w' := by
  unfold valClean at hq
  have hu := Try.underlying23
  by_cases hk : k = 2
  · rw [if_pos hk] at hq
    subst hk
    obtain ⟨c, hc, hq⟩ := Option.bind_eq_some_iff.mp hq
    injection hq with hq
    simp only [Prod.mk.injEq] at hq
    obtain ⟨rfl, rfl, rfl⟩ := hq
    have hcc := Lib.hid hc
    clear hc
    go_enter Try.func14, Try.ntmps14
    go_wp2_with (go_at_call 23; refine (fltClean_calls _ c _ hcc.out).mono ?_; rintro e w1 ⟨rfl, ⟨nd, rfl⟩⟩)
    refine bodyPost_ret (results_cell_row rfl _ _ (w.heap.size + 1) 23 #[.int .i64 2, .int .i64 (wrap64 c), .string s] (0, 0) _ rfl (by
      refine blk_put (cs := #[.int .i64 2, .int .i64 (wrap64 c), .string (⟨#[]⟩ : ByteArray)]) ?_ 2 _ rfl
      refine blk_put (cs := #[.int .i64 2, .int .i64 0, .string (⟨#[]⟩ : ByteArray)]) ?_ 1 _ rfl
      refine blk_put (cs := #[.int .i64 0, .int .i64 0, .string (⟨#[]⟩ : ByteArray)]) ?_ 0 _ rfl
      refine blk_far ?_ (by simp) _
      refine blk_drewN ?_ _
      have := heap_alloc_new (w.alloc (.cells #[.int .i64 2, .int .i64 i, .string s] 23)) (.cells #[.int .i64 0, .int .i64 0, .string (⟨#[]⟩ : ByteArray)] 23)
      simpa using this) Try.underlying23 rfl (by kernel_rfl)) rfl ?_
    refine ⟨rfl, ?_⟩
    have h1 : Below w.heap.size w ((w.alloc (.cells #[.int .i64 2, .int .i64 i, .string s] 23)).alloc (.cells #[.int .i64 0, .int .i64 0, .string (⟨#[]⟩ : ByteArray)] 23)) :=
      ((Below.refl _ _).alloc (Nat.le_refl _) _).alloc (by simp) _
    exact ((((pw_below_drewN h1 nd).setCell (p := ⟨w.heap.size, 1, none⟩) (Nat.le_refl _) _).setCell (p := ⟨w.heap.size + 1, 0, none⟩) (Nat.le_succ _) _).setCell (p := ⟨w.heap.size + 1, 1, none⟩) (Nat.le_succ _) _).setCell (p := ⟨w.heap.size + 1, 2, none⟩) (Nat.le_succ _) _
  · rw [if_neg hk] at hq
    injection hq with hq
    simp only [Prod.mk.injEq] at hq
    obtain ⟨rfl, rfl, rfl⟩ := hq
    have hkb : (k == 2) = false := beq_eq_false_iff_ne.mpr hk
    clear hk
    go_enter Try.func14, Try.ntmps14
    go_wp2
    refine bodyPost_ret (results_cell_row rfl _ _ (w.heap.size + 1) 23 #[.int .i64 k, .int .i64 i, .string s] (0, 0) _ rfl (by
      have := heap_alloc_new (w.alloc (.cells #[.int .i64 k, .int .i64 i, .string s] 23)) (.cells #[.int .i64 k, .int .i64 i, .string s] 23)
      simpa using this) Try.underlying23 rfl (by kernel_rfl)) rfl ?_
    exact ⟨rfl, ((Below.refl _ _).alloc (Nat.le_refl _) _).alloc (by simp) _⟩
end Go.Proofs.Ythooijfdlamkkaa.Hand
