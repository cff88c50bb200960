/-
  By hand: append of a row of bytes (of a named slice type) onto a row of the call's own.
-/
import Derived.Test.YtjchjdbfmiibhaaHLeb
import Derived.Maps.AppendAt
namespace Go.Proofs.Ytjchjdbfmiibhaa.Hand
open Go.RowKit Go.Proofs.YtjchjdbfmiibhaaW.PrintWords

section
variable {P : Program}
theorem append_types {t t' e e' : TypeId} {i : TypeInfo} (ht : P.underlying t = some (.slice e)) (ht' : P.underlying t' = some (.slice e')) (hi : P.info? e = some i) (ty : TypeId) (B A : Option Addr) (n c m k : Nat) (w : World) :
    (Builtin.append_ #[t, t'] ty #[.slice B n c, .slice A m k]).run P w = (Builtin.append_ #[t, t] ty #[.slice B n c, .slice A m k]).run P w := by
  simp [Builtin.append_, run_underlying ht, run_underlying ht', sizeOf, typeInfo, hi]

theorem run_append_bytes {W : World} (base : Nat) (t t' ty e e' : TypeId) (i : TypeInfo) (ht : P.underlying t = some (.slice e)) (ht' : P.underlying t' = some (.slice e')) (hi : P.info? e = some i)
    (hz : i.zero = some (.int .u8 0)) (hs : i.size = 1) (hby : i.bytes = 1) (v : Value) (xs ys : List Int) (A : Option Addr) (m c : Nat)
    (HO : (Kd.int .u8).R e W base (fun _ => True) v xs) (HR : (Kd.int .u8).C W A m ys) (hbase : base ≤ W.heap.size) (hl : xs.length + m ≤ 140737488355328) :
    ∃ v1 w1, (Builtin.append_ #[t, t'] ty #[v, .slice A m c]).run P W = .ok v1 w1 ∧ (Kd.int .u8).R e w1 base (fun _ => True) v1 (xs ++ ys) ∧ W.grownBy w1 v.ownBlock ∧ (v1.ownBlock = v.ownBlock ∨ v1.ownBlock = some W.heap.size) := by
  have hown := Kd.own_of_R HO
  have hrd := Kd.reads_of_C (d := (0 : Int)) HR
  have hm : ys.length = m := HR.1
  obtain ⟨B, cB, rfl⟩ := Kd.R_slice HO
  rw [append_types ht ht' hi]
  rcases A with _ | ad
  · have h0 : m = 0 := by
      rcases Nat.eq_zero_or_pos m with h0 | h0
      · exact h0
      · obtain ⟨ad, h, _⟩ := HR.2.2 h0
        cases h
    subst h0
    obtain rfl : ys = [] := List.eq_nil_of_length_eq_zero hm
    refine ⟨_, W, ?_, by simpa using HO, World.grownBy.refl W _, .inl rfl⟩
    rcases hown.2 with ⟨hv, _⟩ | ⟨g, cap, cur, hv, _, _, hnc, _⟩
    · rw [hv]
      simp [Builtin.append_, run_underlying ht, sizeOf, typeInfo, hi, Builtin.lenOf, Builtin.firstCells]
    · rw [hv]
      simp [Builtin.append_, run_underlying ht, sizeOf, typeInfo, hi, Builtin.lenOf, Builtin.firstCells, hnc, storeCells]
  · obtain ⟨v1, w1, hrun, h2, h3, _, h5⟩ := run_append_own_at (P := P) W base t ty e i (.int .u8 0) 1 1 ht hi hz hs hby rfl (by omega) _ xs.length _ hown ad m c (encs (Value.int .u8) ys)
      (by simp [encs, hm]) (fun j u hu => by
        have hj : j < ys.length := by
          rcases Nat.lt_or_ge j ys.length with h | h
          · exact h
          · simp [encs, List.getElem?_eq_none h] at hu
        obtain ⟨ad', he, hc⟩ := hrd.2.2 (by omega)
        injection he with he
        subst he
        have := hc j (by omega)
        rw [this]
        simp [encs, hj] at hu
        simp [← hu, List.getD_eq_getElem?_getD, hj])
      (fun u hu => by simp [encs] at hu; obtain ⟨z, _, rfl⟩ := hu; rfl) (by simp only [maxLen]; omega) (by omega) hbase
    refine ⟨v1, w1, hrun, ?_, h3, h5⟩
    have e1 : encs (Value.int .u8) xs ++ encs (Value.int .u8) ys = encs (Value.int .u8) (xs ++ ys) := by simp [encs]
    rw [e1, ← hm, ← List.length_append] at h2
    exact Kd.R_of_own h2 (fun _ _ => trivial)

variable {ops : Array Oper} {o : Oper} {a : Act} {Q : Exit → Act → World → Prop} {Kc : Act → World → Prop}
theorem bytes_step {W : World} (base : Nat) (hw : Region.wanted o (yielded ops a.tmps) = true) (s x : Operand) (t t' e e' : TypeId) (i : TypeInfo)
    (ho : o.op = .call { callee := .builtin .append, args := #[s, x], argTypes := #[t, t'] })
    (ht : P.underlying t = some (.slice e)) (ht' : P.underlying t' = some (.slice e')) (hi : P.info? e = some i)
    (hz : i.zero = some (.int .u8 0)) (hs : i.size = 1) (hby : i.bytes = 1) (v : Value) (xs ys : List Int) (A : Option Addr) (m c : Nat) (hsv : a.eval s = v) (hxv : a.eval x = .slice A m c)
    (HO : (Kd.int .u8).R e W base (fun _ => True) v xs) (HR : (Kd.int .u8).C W A m ys) (hbase : base ≤ W.heap.size) (hl : xs.length + m ≤ 140737488355328)
    (h : ∀ v1 w1, (Kd.int .u8).R e w1 base (fun _ => True) v1 (xs ++ ys) → W.grownBy w1 v.ownBlock → (v1.ownBlock = v.ownBlock ∨ v1.ownBlock = some W.heap.size) → Kc (a.put o.dst v1) w1) {E : Prop} :
    if Region.wanted o (yielded ops a.tmps) = true then Oper.wp P o a W Kc Q else E := by
  obtain ⟨v1, w1, hrun, h2, h3, h5⟩ := run_append_bytes (P := P) base t t' o.type e e' i ht ht' hi hz hs hby v xs ys A m c HO HR hbase hl
  rw [if_pos hw]
  unfold Oper.wp execOp
  simp only [ho, resolve, invoke, builtin, Sem.run_bind, Sem.run_pure, Result.andThen_ok, List.map_toArray, List.map_cons, List.map_nil, hsv, hxv, hrun]
  exact h v1 w1 h2 h3 h5
end
/-- An empty row, just made. -/
theorem empty_row {W : World} {base : Nat} (e : TypeId) (hb : base ≤ W.heap.size) : (Kd.int .u8).R e (W.alloc (.cells #[] e)) base (fun _ => True) (.slice (some ⟨W.heap.size, 0, none⟩) 0 0) [] := by
  refine ⟨fun _ _ => trivial, [], ⟨by simp, .inr ⟨W.heap.size, 0, #[], rfl, hb, heap_alloc_new W _, Nat.le_refl _, by simp [maxLen], by simp, by simp⟩⟩, Reps.none _ _⟩
end Go.Proofs.Ytjchjdbfmiibhaa.Hand
