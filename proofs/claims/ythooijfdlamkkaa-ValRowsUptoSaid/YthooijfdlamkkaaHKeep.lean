/-
  An append onto a row of the call's own, behind which the elder, shorter row is read again: it reads as it read.
-/
import Derived.Test.YthooijfdlamkkaaWWords
import Derived.Laws.AppendOwn
import Derived.Maps.AppendAt
namespace Go.Proofs.Ythooijfdlamkkaa.Hand
open Go.RowKit Go.Proofs.YthooijfdlamkkaaW.PrintWords
section
variable {P : Program}
/-- The elder value owns its row as before, whichever way the append went. -/
theorem own_keep (W : World) (base : Nat) (t ty e : TypeId) (i : TypeInfo) (z : Value) (size bytes : Nat) (ht : P.underlying t = some (.slice e)) (hi : P.info? e = some i) (hz : i.zero = some z)
    (hsize : i.size = size) (hby : i.bytes = bytes)
    (v : Value) (n : Nat) (xs : List Value) (hown : W.ownsRow base e size v n xs)
    (a : Addr) (m c : Nat) (news : List Value) (hl : news.length = m * size) (hnews : ∀ j u, news[j]? = some u → W.cell? (a.add j) = some u) (h1 : ∀ u ∈ news, u.oneCell' = true)
    (h63 : n + m ≤ maxLen) (hbytes : (n + m) * bytes ≤ 140737488355328) {v1 : Value} {w1 : World} (hr : (Builtin.append_ #[t, t] ty #[v, .slice (some a) m c]).run P W = .ok v1 w1) :
    w1.ownsRow base e size v n xs := by
  subst hsize
  subst hby
  have hsmall : n + m ≤ 9223372036854775807 := by simp only [maxLen] at h63; omega
  rcases hown.2 with ⟨rfl, rfl⟩ | ⟨g, cap, cur, rfl, hbg, hg, hnc, hcm, hcs, htake⟩
  · exact ⟨hown.1, .inl ⟨rfl, rfl⟩⟩
  · by_cases hroom : n + m ≤ cap
    · have hfit : n * i.size + news.length ≤ cur.size := by rw [hl, hcs, ← Nat.add_mul]; exact Nat.mul_le_mul_right _ hroom
      rw [run_append_room (P := P) W t ty e i ht hi g n cap cur hg a m c news hl hnews h1 hroom hfit] at hr
      injection hr with _ hw
      subst hw
      refine ⟨hown.1, .inr ⟨g, cap, _, rfl, hbg, setRow_heap W g cur _ e _ hg, hnc, hcm, ?_, ?_⟩⟩
      · simp only [List.size_toArray, List.length_append, List.length_take, List.length_drop, Array.length_toList]
        omega
      · rw [htake, List.append_assoc, ← hown.1]
        exact List.take_left
    · have holds : ∀ j u, xs[j]? = some u → W.cell? ((⟨g, 0, none⟩ : Addr).add j) = some u := hown.cells (g := g) rfl
      rw [run_append_grow (P := P) W t ty e i z ht hi hz ⟨g, 0, none⟩ n cap xs hown.1 holds a m c news hl hnews (by omega) (by omega) (growslice_fits (by omega) hbytes)] at hr
      injection hr with _ hw
      subst hw
      have hlt : g < W.heap.size := blk_lt hg
      exact ⟨hown.1, .inr ⟨g, cap, cur, rfl, hbg, (Below.heap_alloc W.drew _ g hlt).trans hg, hnc, hcm, hcs, htake⟩⟩

/-- A kind whose elements lead nowhere. -/
structure Flat {α : Type} (d : Kd α) (R : α → List Value → Prop) : Prop where
  K : ∀ {W x c}, d.K W x c → R x c
  M : ∀ {W b o x c}, R x c → d.M W b o x c
  N : ∀ {W b o x c}, d.M W b o x c → R x c

variable {ops : Array Oper} {rest : List Oper} {o : Oper} {a : Act} {Q : Exit → Act → World → Prop} {α : Type}
theorem append_keep (d : Kd α) {Rr : α → List Value → Prop} (F : Flat d Rr) {w0 W : World} (base : Nat) (hgd : Region.wanted o (yielded ops a.tmps) = true) (s x : Operand) (t e : TypeId) (z : Value) (bytes : Nat)
    (ho : o.op = .call { callee := .builtin .append, args := #[s, x], argTypes := #[t, t] })
    (ht : P.underlying t = some (.slice e)) (hinfo : (P.info? e).map (fun i => (i.zero, i.size, i.bytes)) = some (some z, d.sz, bytes)) (hz : z.cells.size = d.sz) (hs0 : 0 < d.sz) (hb0 : 0 < bytes)
    (v : Value) (xs ys : List α) (A : Option Addr) (m c : Nat) (ok : Nat → Prop) (hs : a.eval s = v) (hx : a.eval x = .slice A m c)
    (HO : d.R e W base ok v xs) (HR : d.C W A m ys) (hfresh : ∀ k, W.heap.size ≤ k → ok k)
    (HB : Below base w0 W) (hbase : base ≤ W.heap.size) (hl : (xs.length + m) * bytes ≤ 140737488355328)
    (h : ∀ v1 w1, d.R e w1 base ok v1 (xs ++ ys) → d.R e w1 base ok v xs → Below base w0 w1 → W.grownBy w1 v.ownBlock → wpList P ops Q rest (a.put o.dst v1) w1) : wpList P ops Q (o :: rest) a W := by
  obtain ⟨i0, hi, hzz⟩ := Option.map_eq_some_iff.1 hinfo
  simp only [Prod.mk.injEq] at hzz
  obtain ⟨hz0, hz1, hz2⟩ := hzz
  have hm : ys.length = m := HR.1
  have hlen : xs.length + m ≤ 140737488355328 := Nat.le_trans (Nat.le_mul_of_pos_right _ hb0) hl
  obtain ⟨hok, inner, hown, hr⟩ := HO
  have hx0 : Reps Rr d.sz xs inner := hr.imp_ (fun p c hp => F.N hp)
  have hrun : ∃ v1 w1, (Builtin.append_ #[t, t] o.type #[v, .slice A m c]).run P W = .ok v1 w1 ∧ d.R e w1 base ok v1 (xs ++ ys) ∧ d.R e w1 base ok v xs ∧ W.grownBy w1 v.ownBlock := by
    rcases A with _ | ad
    · have h0 : m = 0 := by
        rcases Nat.eq_zero_or_pos m with h0 | h0
        · exact h0
        · obtain ⟨ad, h, _⟩ := HR.2.2 h0
          cases h
      subst h0
      obtain rfl : ys = [] := List.eq_nil_of_length_eq_zero hm
      have hR : d.R e W base ok v xs := ⟨hok, inner, hown, hr⟩
      refine ⟨v, W, ?_, by rw [List.append_nil]; exact hR, hR, World.grownBy.refl W _⟩
      rcases hown.2 with ⟨rfl, hn⟩ | ⟨g, cap, cur, rfl, _, _, hnc, _⟩
      · simp [Builtin.append_, run_underlying ht, sizeOf, typeInfo, hi, Builtin.lenOf, Builtin.firstCells]
      · simp [Builtin.append_, run_underlying ht, sizeOf, typeInfo, hi, Builtin.lenOf, Builtin.firstCells, hnc, storeCells]
    · obtain ⟨news, hnr, hnc⟩ := ReadsRow.inner_ HR
      have hnM : Reps Rr d.sz ys news := hnr.imp_ (fun p c hp => F.K hp)
      have hone : ∀ u ∈ news, u.oneCell' = true := by
        intro u hu
        obtain ⟨q, hq, rfl⟩ := List.mem_iff_getElem.1 hu
        have hql : q / d.sz < ys.length := by
          rw [Nat.div_lt_iff_lt_mul hs0]
          rw [← hnM.1]
          exact hq
        have hc := hnM.2 (q / d.sz) _ (List.getElem?_eq_getElem hql)
        refine d.K_one (d.K_of_M (F.M (W := W) (b := 0) (o := fun _ => True) hc)) _ ?_
        rw [List.mem_iff_getElem?]
        refine ⟨q % d.sz, ?_⟩
        rw [List.getElem?_take, if_pos (Nat.mod_lt _ hs0), List.getElem?_drop, Nat.mul_comm, Nat.div_add_mod, List.getElem?_eq_getElem hq]
      have hl63 : xs.length + m ≤ maxLen := by simp only [maxLen]; omega
      have hnl : news.length = m * d.sz := by rw [hnM.1, hm]
      obtain ⟨v1, w1, hrn, h2, hg, _, hat⟩ := run_append_own_at (P := P) W base t o.type e i0 z d.sz bytes ht hi hz0 hz1 hz2 hz hs0 v xs.length inner hown ad m c news hnl hnc hone hl63 hl hbase
      have hkeep := own_keep (P := P) W base t o.type e i0 z d.sz bytes ht hi hz0 hz1 hz2 v xs.length inner hown ad m c news hnl hnc hone hl63 hl hrn
      refine ⟨v1, w1, hrn, ⟨fun k hk => ?_, inner ++ news, by rw [List.length_append, hm]; exact h2, (Kd.reps_append hx0 hnM).imp_ (fun p c hp => F.M hp)⟩, ⟨hok, inner, hkeep, hx0.imp_ (fun p c hp => F.M hp)⟩, hg⟩
      rcases hat with hat | hat
      · exact hok k (by rw [← hat]; exact hk)
      · rw [hat] at hk
        injection hk with hk
        exact hfresh k (by omega)
  obtain ⟨v1, w1, hrn, q1, q2, q3⟩ := hrun
  refine wpList_step fun K hK => ?_
  rw [if_pos hgd]
  unfold Oper.wp execOp
  simp only [ho, resolve, invoke, builtin, Sem.run_bind, Sem.run_pure, Result.andThen_ok, List.map_toArray, List.map_cons, List.map_nil, hs, hx, hrn]
  exact hK _ _ (h v1 w1 q1 q2 (HB.grown q3 hbase (own_base hown)) q3)
end
end Go.Proofs.Ythooijfdlamkkaa.Hand
