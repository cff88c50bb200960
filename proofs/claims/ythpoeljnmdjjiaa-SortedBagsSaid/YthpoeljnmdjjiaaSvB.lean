/-
  Sorting, by hand: slices.Clone of rows and of a row of rows; sorted.order; sorting of no elements.
-/
import Derived.Test.YthpoeljnmdjjiaaSvA
import Derived.Lib.LazyBuf
namespace Go.Proofs.Ythpoeljnmdjjiaa.PSrn
open Go.RowKit Go.Proofs.Ythpoeljnmdjjiaa.Hand Go.Proofs.Ythpoeljnmdjjiaa.Srt Go.Proofs.YthpoeljnmdjjiaaW.PrintWords Go.Proofs.YthpoeljnmdjjiaaW.PrintLast Go.Proofs.YthpoeljnmdjjiaaW.PrintMore
set_option linter.unusedVariables false
set_option linter.unusedSimpArgs false

set_option maxHeartbeats 2000000 in
set_option maxRecDepth 100000 in
theorem clone_calls (A0 : Option Addr) (c0 : Nat) (l0 : List S28) (w : World) (hr0 : Kd.C k28 w A0 l0.length l0) (hl : l0.length < 4398046511104) :
    Calls Try.prog 28 #[.slice A0 l0.length c0] w fun e w' => ∃ v, e = .returned v ∧ Kd.R k28 28 w' w.heap.size (fun _ => True) v l0 ∧ Below w.heap.size w w' := by
  have hu32 := Try.underlying26
  have HR0 := Aside0.mk hr0
  have Hl := Aside0.mk hl
  have HB := Aside0.mk (Below.refl w.heap.size w)
  have hnil : ∀ (A : Option Addr) (w : World), (binOp .eql 26 (.slice A l0.length c0) (.slice none 0 0)).run Try.prog w = .ok (.bool A.isNone) w := fun A w => Lib.run_eql_slice_nil w 26 28 A l0.length c0 0 0 Try.underlying26
  cases A0 with
  | none =>
    have h0 : l0 = [] := by
      rcases Nat.eq_zero_or_pos l0.length with h | h
      · exact List.eq_nil_of_length_eq_zero h
      · obtain ⟨ad, e, _⟩ := hr0.2.2 h; cases e
    have hnil2 := hnil none
    have H0 := Aside0.mk h0
    clear hr0 hl hnil h0
    simp only [Option.isNone_none] at hnil2
    go_enter Try.func28, Try.ntmps28
    go_wp2
    go_ret
    exact ⟨_, rfl, H0.out ▸ Kd.R_nil _ _ _ _ _, HB.out⟩
  | some ad =>
    have hnil2 := hnil (some ad)
    clear hr0 hl hnil
    simp only [Option.isNone_some] at hnil2
    go_enter Try.func28, Try.ntmps28
    go_wp2_with (first
      | ((with_reducible refine gate_dst (N := 5) rfl ?_); refine Kd.R_lit k28 _ 28 ?hg (N := 5) ?hd (xs := ([] : List S28)) (inner := []) (ok := fun _ => True) (okp := fun _ => True) ?hr ?hp (fun _ hk => hk) trivial (Below.refl w.heap.size w) (Nat.le_refl _) (by simp) ?_; (case hd => rfl); (case hg => rfl); (case hr => first | (go_simp; done) | (go_simp; rfl)); (case hp => exact (Reps.none _ _)); intro v5 w5 ho5 hb5 hg5 hnew5; have HO5 := Aside0.mk ho5; have HB5 := Aside0.mk hb5; clear ho5 hb5 hg5 hnew5 HB)
      | ((with_reducible refine gate_builtin (b := .append) (xs := #[.tmp 5, .tmp 6]) rfl ?_); at_builtin; refine Kd.R_append_rows k28 (w0 := w) w.heap.size rfl (.tmp 5) (.tmp 6) 26 28 (.agg #[(.int .i64 0), (.int .i64 0), (.string ⟨#[]⟩)]) 32 rfl Try.underlying26 info28 rfl (by decide) (by omega) v5 [] l0 _ _ _ (fun _ => True) (fun _ => False) rfl rfl HO5.out (Kd.C_below HR0.out HB5.out) (fun _ _ h => h) (fun _ h => h.elim) (fun _ _ => trivial) HB5.out (below_size HB5.out) (by have := Hl.out; simp; omega) ?_; intro v7 w7 ho7 hb7 hg7 hat7; rw [List.nil_append] at ho7; have HO7 := Aside0.mk ho7; have HB7 := Aside0.mk hb7; clear ho7 hb7 hg7 hat7))
    go_ret
    exact ⟨_, rfl, HO7.out, HB7.out⟩

set_option maxHeartbeats 2000000 in
set_option maxRecDepth 100000 in
theorem cloneL_calls (A0 : Option Addr) (c0 : Nat) (hs : List (List Value)) (w : World) (hr0 : Kd.C (Kd.raw 1) w A0 hs.length hs) (hl : hs.length < 4398046511104) :
    Calls Try.prog 25 #[.slice A0 hs.length c0] w fun e w' => ∃ v, e = .returned v ∧ Kd.R (Kd.raw 1) 26 w' w.heap.size (fun _ => True) v hs ∧ Below w.heap.size w w' := by
  have hu32 := Try.underlying22
  have HR0 := Aside0.mk hr0
  have Hl := Aside0.mk hl
  have HB := Aside0.mk (Below.refl w.heap.size w)
  have hnil : ∀ (A : Option Addr) (w : World), (binOp .eql 22 (.slice A hs.length c0) (.slice none 0 0)).run Try.prog w = .ok (.bool A.isNone) w := fun A w => Lib.run_eql_slice_nil w 22 26 A hs.length c0 0 0 Try.underlying22
  cases A0 with
  | none =>
    have h0 : hs = [] := by
      rcases Nat.eq_zero_or_pos hs.length with h | h
      · exact List.eq_nil_of_length_eq_zero h
      · obtain ⟨ad, e, _⟩ := hr0.2.2 h; cases e
    have hnil2 := hnil none
    have H0 := Aside0.mk h0
    clear hr0 hl hnil h0
    simp only [Option.isNone_none] at hnil2
    go_enter Try.func25, Try.ntmps25
    go_wp2
    go_ret
    exact ⟨_, rfl, H0.out ▸ Kd.R_nil _ _ _ _ _, HB.out⟩
  | some ad =>
    have hnil2 := hnil (some ad)
    clear hr0 hl hnil
    simp only [Option.isNone_some] at hnil2
    go_enter Try.func25, Try.ntmps25
    go_wp2_with (first
      | ((with_reducible refine gate_dst (N := 5) rfl ?_); refine Kd.R_lit (Kd.raw 1) _ 26 ?hg (N := 5) ?hd (xs := ([] : List (List Value))) (inner := []) (ok := fun _ => True) (okp := fun _ => True) ?hr ?hp (fun _ hk => hk) trivial (Below.refl w.heap.size w) (Nat.le_refl _) (by simp) ?_; (case hd => rfl); (case hg => rfl); (case hr => first | (go_simp; done) | (go_simp; rfl)); (case hp => exact (Reps.none _ _)); intro v5 w5 ho5 hb5 hg5 hnew5; have HO5 := Aside0.mk ho5; have HB5 := Aside0.mk hb5; clear ho5 hb5 hg5 hnew5 HB)
      | ((with_reducible refine gate_builtin (b := .append) (xs := #[.tmp 5, .tmp 6]) rfl ?_); at_builtin; refine Kd.R_append_rows (Kd.raw 1) (w0 := w) w.heap.size rfl (.tmp 5) (.tmp 6) 22 26 (.slice none 0 0) 24 rfl Try.underlying22 info26 rfl (by decide) (by omega) v5 [] hs _ _ _ (fun _ => True) (fun _ => False) rfl rfl HO5.out (Kd.C_below HR0.out HB5.out) (fun _ _ h => h) (fun _ h => h.elim) (fun _ _ => trivial) HB5.out (below_size HB5.out) (by have := Hl.out; simp; omega) ?_; intro v7 w7 ho7 hb7 hg7 hat7; rw [List.nil_append] at ho7; have HO7 := Aside0.mk ho7; have HB7 := Aside0.mk hb7; clear ho7 hb7 hg7 hat7))
    go_ret
    exact ⟨_, rfl, HO7.out, HB7.out⟩

set_option maxRecDepth 100000 in
theorem order_calls (Ak : Option Addr) (n ck : Nat) (w : World) :
    Calls Try.prog 27 #[.slice Ak n ck] w fun e w' => e = .returned (.func (.func 44) #[] #[.pointer (some ⟨w.heap.size, 0, none⟩)]) ∧ w' = w.alloc (.cells #[.slice Ak n ck] 23) := by
  go_enter Try.func27, Try.ntmps27
  go_wp2
  go_ret
  exact ⟨rfl, rfl⟩

set_option maxRecDepth 100000 in
theorem insertion_zero (dv fv : Value) (w : World) :
    Calls Try.prog 59 #[dv, .int .i64 0, .int .i64 0, fv] w fun e w' => e = .returned (.tuple #[]) ∧ w' = w := by
  go_enter Try.func59, Try.ntmps59
  go_wp2
  go_loopw [8] (fun v8 wr => v8 = .int .i64 1 ∧ Aside0 (wr = w)) (fun _ _ => 0)
  case atStart => exact ⟨rfl, ⟨rfl⟩⟩
  case round =>
    obtain ⟨rfl, HS⟩ := hrel
    go_wp2
    go_end0
    exact ⟨rfl, HS.out⟩
set_option maxRecDepth 100000 in
theorem stable_zero (dv fv : Value) (w : World) :
    Calls Try.prog 43 #[dv, .int .i64 0, fv] w fun e w' => e = .returned (.tuple #[]) ∧ w' = w := by
  go_enter Try.func43, Try.ntmps43
  go_wp2
  go_loopw [7, 8] (fun v7 v8 wr => v7 = .int .i64 0 ∧ v8 = .int .i64 20 ∧ Aside0 (wr = w)) (fun _ _ _ => 0)
  case atStart => exact ⟨rfl, rfl, ⟨rfl⟩⟩
  case round =>
    obtain ⟨rfl, rfl, HS⟩ := hrel
    go_wp2_with (go_at_call 59; refine (insertion_zero _ _ _).mono ?_; rintro e w5 ⟨rfl, rfl⟩)
    go_loopw [6] (fun v6 wr => v6 = .int .i64 20 ∧ Aside0 (wr = w)) (fun _ _ => 0)
    case atStart => exact ⟨rfl, HS⟩
    case round =>
      clear HS
      obtain ⟨rfl, HS⟩ := hrel
      go_wp2
      go_end0
      exact ⟨rfl, HS.out⟩
set_option maxRecDepth 100000 in
theorem sortStable_zero (A : Option Addr) (c : Nat) (fv : Value) (w : World) :
    Calls Try.prog 26 #[.slice A 0 c, fv] w fun e w' => e = .returned (.tuple #[]) ∧ w' = w := by
  go_enter Try.func26, Try.ntmps26
  go_wp2_with (go_at_call 43; refine (stable_zero _ _ _).mono ?_; rintro e w5 ⟨rfl, rfl⟩)
  go_end0
  exact ⟨rfl, rfl⟩
end Go.Proofs.Ythpoeljnmdjjiaa.PSrn
