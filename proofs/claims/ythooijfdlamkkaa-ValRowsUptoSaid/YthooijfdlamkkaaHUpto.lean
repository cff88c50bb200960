/-
  By hand: an argument laid open where the arguments' bulk is bounded: its measure is at most its bulk.
-/
import Derived.Test.YthooijfdlamkkaaHOpen
import Derived.Test.YthooijfdlamkkaaRows
import Derived.Deep.CondSized
import Derived.ChangeSlices
namespace Go.Proofs.Ythooijfdlamkkaa.Hand
open Go.RowKit Go.ChangeShapes Go.WideShapes Go.Proofs.YthooijfdlamkkaaW.PrintWords

theorem bulk_one {H : Type} (d : DataW H) : 1 ≤ Rows.uptoBulk d := by
  cases d with
  | lit l => cases l <;> simp [Rows.uptoBulk]
  | nil => simp [Rows.uptoBulk]
  | ptr d => simp [Rows.uptoBulk]
  | slice elems spare => simp [Rows.uptoBulk]
  | agg parts => simp [Rows.uptoBulk]
  | iface t d => simp [Rows.uptoBulk]
  | map entries => simp [Rows.uptoBulk]
  | held h => simp [Rows.uptoBulk]
theorem bulk_mem {H : Type} : ∀ (l : List (DataW H)) (j : Nat) (d : DataW H), l[j]? = some d → Rows.uptoBulk d ≤ Rows.uptoBulkAll l
  | [], j, d, h => by simp at h
  | x :: r, 0, d, h => by
    simp only [List.getElem?_cons_zero, Option.some.injEq] at h
    subst h
    simp only [Rows.uptoBulkAll]
    omega
  | x :: r, j + 1, d, h => by
    simp only [List.getElem?_cons_succ] at h
    have := bulk_mem r j d h
    simp only [Rows.uptoBulkAll]
    omega
theorem bulk_length {H : Type} (l : List (DataW H)) : l.length ≤ Rows.uptoBulkAll l := by
  induction l with
  | nil => simp [Rows.uptoBulkAll]
  | cons x r ih => have := bulk_one x; simp only [Rows.uptoBulkAll, List.length_cons]; omega
theorem bulk_append {H : Type} (l r : List (DataW H)) : Rows.uptoBulkAll (l ++ r) = Rows.uptoBulkAll l + Rows.uptoBulkAll r := by
  induction l with
  | nil => simp [Rows.uptoBulkAll]
  | cons x l ih => simp only [List.cons_append, Rows.uptoBulkAll, ih]; omega
theorem small_at {H : Type} {l : List (DataW H)} (hk : Rows.uptoSmall H l = true) (j : Nat) (d : DataW H) (h : l[j]? = some d) : Rows.uptoBulk d ≤ 1048576 := by
  have h1 : Rows.uptoBulkAll l ≤ 1048576 := of_decide_eq_true hk
  have h2 := bulk_mem l j d h
  omega
theorem small_ints {H : Type} {enc : TypeId × Value → H} {P : Program} {W : World} {base : Nat} {spare : Nat → Bool} {held : Bool} {t e : TypeId} {k : IntKind} {a : Option Addr} {len cap : Nat} {d : DataW H} {ps : List MemPlace}
    (hu : P.underlying t = some (.slice e)) (he : P.underlying e = some (.int k)) (hc : P.cellsOf e = 1) (h : DataW.Trod enc P W base spare held t (.slice a len cap) d ps) (hs : Rows.uptoBulk d ≤ 1048576) : len ≤ 1048576 := by
  obtain ⟨fuel, hf⟩ := h
  rcases open_ints hu he hc hf with ⟨hcs, _⟩ | ⟨x, l, c, zs, hcs, _, hl, _, hz, hx, _, _⟩
  · simp [Value.cells] at hcs
    obtain ⟨rfl, rfl, rfl⟩ := hcs
    simp
  · simp [Value.cells] at hcs
    obtain ⟨rfl, rfl, rfl⟩ := hcs
    obtain ⟨hx, _⟩ := Prod.mk.inj hx
    subst hx
    have hl2 : len ≤ zs.length := by
      rw [hz]
      split
      · exact hl
      · exact Nat.le_refl _
    have h1 := bulk_length (lits (H := H) k (zs.take len))
    have h2 : (lits (H := H) k (zs.take len)).length = len := by simp [lits]; omega
    simp only [Rows.uptoBulk] at hs
    omega
theorem small_str {H : Type} {s : ByteArray} (h : Rows.uptoBulk (DataW.lit (H := H) (.string s.data.toList)) ≤ 1048576) : s.size ≤ 1048576 := by
  simp only [Rows.uptoBulk, Array.length_toList] at h
  have : s.size = s.data.size := rfl
  omega

structure OpensM {α : Type} (P : Program) (T : TypeId) (d : Kd α) (wf : α → Prop) (m : α → Nat) : Prop where
  cells : P.cellsOf T = d.sz
  fit : ∀ {H : Type} {enc : TypeId × Value → H} {w : World} {base : Nat} {spare : Nat → Bool} {held : Bool} {fuel : Nat} {cs : List Value} {x : DataW H × List MemPlace},
    DataW.trod enc P w base spare held fuel T cs = some x → (∀ n ∈ x.1.weights P T, n ≤ reachBytes) → ∃ a, d.K w a cs ∧ wf a ∧ m a ≤ Rows.uptoBulk x.1
theorem opensM_of {α : Type} {P : Program} {T : TypeId} {d : Kd α} {wf : α → Prop} (h : Opens P T d wf) : OpensM P T d wf (fun _ => 1) where
  cells := h.cells
  fit := by
    intro H enc w base spare held fuel cs x hx hz
    obtain ⟨a, hK, hw⟩ := h.fit hx hz
    exact ⟨a, hK, hw, bulk_one _⟩
theorem opensM_string {P : Program} {T : TypeId} (ht : P.underlying T = some .string) (hc : P.cellsOf T = 1) : OpensM P T Kd.string (fun a => a.size ≤ 140737488351232) (fun a => a.size + 1) where
  cells := hc
  fit := by
    intro H enc w base spare held fuel cs x h hz
    obtain ⟨s, rfl, rfl, _⟩ := DataW.trod_string ht h
    refine ⟨s, rfl, ?_, ?_⟩
    · have := hz s.data.toList.length (by simp [DataW.weights])
      rw [Array.length_toList] at this
      exact this
    · simp only [Rows.uptoBulk, Array.length_toList]
      exact Nat.le_refl _
theorem opensM_slice {α : Type} {P : Program} {T e : TypeId} {d : Kd α} {wf : α → Prop} {m : α → Nat} {B : Nat} (ht : P.underlying T = some (.slice e)) (hc : P.cellsOf T = 1) (hB : P.bytesOf e = B) (ho : OpensM P e d wf m) : OpensM P T (Kd.slice e d) (WfRow B wf) (fun l => (l.map m).sum + 1) where
  cells := hc
  fit := by
    intro H enc w base spare held fuel cs x h hz
    rcases Go.Deep.open_slice ht h with ⟨rfl, rfl⟩ | ⟨a, len, cap, m', n, D, Pl, rfl, hb, hl, hm, hmm, rfl, hx⟩
    · exact ⟨[], ⟨none, 0, rfl, Nat.le_refl _, rfl, by simp, fun h => absurd h (by simp)⟩, by simp [WfRow], by simp [Rows.uptoBulk]⟩
    · have hlm : len ≤ m' := by rw [hmm]; split <;> omega
      have hz2 : (len + (m' - len)) * P.bytesOf e ≤ reachBytes ∧ ∀ i, i < len → ∀ n ∈ (D i).weights P e, n ≤ reachBytes := by
        simp only [DataW.weights, ht, List.length_map, List.length_range, List.mem_cons, List.mem_append] at hz
        refine ⟨hz _ (.inl rfl), fun i hi n hn => hz n (.inr (.inl (weightsAll_mem (i := i) (d := D i) ?_ n hn)))⟩
        rw [List.getElem?_map, List.getElem?_range hi]; rfl
      obtain ⟨hz1, hz2⟩ := hz2
      have key : ∀ i, i < len → ∃ y cs', d.K w y cs' ∧ wf y ∧ m y ≤ Rows.uptoBulk (D i) ∧ ∀ j u, cs'[j]? = some u → w.cell? (a.add (i * d.sz + j)) = some u := by
        intro i hi
        obtain ⟨cs', hcs, htr⟩ := hx i (by omega)
        obtain ⟨y, hK, hwf, hmy⟩ := ho.fit htr (hz2 i hi)
        obtain ⟨_, hlen, hat⟩ := World.cells?_some hcs
        refine ⟨y, cs', hK, hwf, hmy, fun j u hu => ?_⟩
        have hj : j < cs'.length := (List.getElem?_eq_some_iff.1 hu).1
        have := hat j (by omega)
        rw [← ho.cells, ← Go.Deep.add_add, this, hu]
      have hlist : ∃ l : List α, l.length = len ∧ (l.map m).sum ≤ Rows.uptoBulkAll ((List.range len).map D) ∧ ∀ i y, l[i]? = some y → wf y ∧ ∃ cs', d.K w y cs' ∧ ∀ j u, cs'[j]? = some u → w.cell? (a.add (i * d.sz + j)) = some u := by
        clear hz1 hz2 hx hz hl hlm h hmm
        induction len with
        | zero => exact ⟨[], rfl, by simp, fun i y h => by simp at h⟩
        | succ n ih =>
          obtain ⟨l, hl, hs, hp⟩ := ih (fun i hi => key i (by omega))
          obtain ⟨y, cs', hK, hwf, hmy, hc⟩ := key n (by omega)
          refine ⟨l ++ [y], by simp [hl], ?_, fun i z hz => ?_⟩
          · rw [List.range_succ, List.map_append, List.map_append, List.sum_append, bulk_append]
            simp only [List.map_cons, List.map_nil, List.sum_cons, List.sum_nil, Rows.uptoBulkAll]
            omega
          rcases Nat.lt_or_ge i l.length with hi | hi
          · rw [List.getElem?_append_left hi] at hz
            exact hp i z hz
          · have hi' : i = n := by
              have := (List.getElem?_eq_some_iff.1 hz).1
              rw [List.length_append, List.length_singleton] at this
              omega
            subst hi'
            rw [List.getElem?_append_right hi, hl] at hz
            simp at hz
            subst hz
            exact ⟨hwf, cs', hK, hc⟩
      obtain ⟨l, hll, hs, hp⟩ := hlist
      subst hll
      have hmx : l.length ≤ maxLen := by omega
      refine ⟨l, ⟨some a, cap, rfl, hl, rfl, by unfold maxLen at hmx; omega, fun _ => ⟨a, rfl, fun j p hj => ?_⟩⟩, ⟨hmx, ?_, fun y hy => ?_⟩, ?_⟩
      · obtain ⟨_, cs', hK, hc⟩ := hp j p hj
        exact ⟨cs', d.K_len hK, hK, hc⟩
      · rw [← hB]
        refine Nat.le_trans (Nat.mul_le_mul_right _ ?_) hz1
        omega
      · obtain ⟨i, hi, rfl⟩ := List.getElem_of_mem hy
        exact (hp i _ (List.getElem?_eq_getElem hi)).1
      · simp only [Rows.uptoBulk]
        omega
theorem open_arg_sliceM {α : Type} {H : Type} {enc : TypeId × Value → H} {P : Program} {W : World} {base b0 : Nat} {r : Reach} {spare : Nat → Bool} {held : Bool} {T e : TypeId} {d : Kd α} {wf : List α → Prop} {m : List α → Nat} {v : Value} {dd : DataW H} {ps : List MemPlace} {ts : List TypeId} {ds : List (DataW H)} {j : Nat}
    (hu : P.underlying T = some (.slice e)) (hv : Value.okWide P W r b0 T v) (ho : OpensM P T (Kd.slice e d) wf m) (hsz : (DataW.weightsEach P ts ds).all (· ≤ reachBytes) = true) (ht : ts[j]? = some T) (hd : ds[j]? = some dd) (h : DataW.Trod enc P W base spare held T v dd ps) (hs : Rows.uptoBulk dd ≤ 1048576) :
    ∃ (A : Option Addr) (c : Nat) (l : List α), v = .slice A l.length c ∧ l.length ≤ c ∧ d.C W A l.length l ∧ wf l ∧ m l ≤ 1048576 := by
  obtain ⟨a, len, cap, rfl⟩ := okWide_slice hu hv
  obtain ⟨fuel, hf⟩ := h
  obtain ⟨l, ⟨A, c, he, hl, hC⟩, hw, hm⟩ := ho.fit hf (fun n hn => by
    have := List.all_eq_true.1 hsz n (DataW.weights_mem_each ht hd n hn)
    simpa using this)
  simp [Value.cells] at he
  obtain ⟨rfl, rfl, rfl⟩ := he
  exact ⟨_, _, l, rfl, hl, hC, hw, Nat.le_trans hm hs⟩
end Go.Proofs.Ythooijfdlamkkaa.Hand
