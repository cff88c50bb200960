/-
  By hand: an argument of any kind (numbers, bools, strings, slices, records, one within the other), laid open to the words that the printed contracts take.
-/
import Derived.Test.YthpoeljnmdjjiaaTw
import Derived.Deep.Slices
import Derived.SizedLaws
namespace Go.Proofs.Ythpoeljnmdjjiaa.Hand
open Go.RowKit Go.ChangeShapes Go.WideShapes Go.Proofs.YthpoeljnmdjjiaaW.PrintWords

theorem empty_beq (l : List UInt8) : (l == (⟨#[]⟩ : ByteArray).toList) = l.isEmpty := by rw [show (⟨#[]⟩ : ByteArray).toList = [] from by rw [ByteArray.toList_eq]]; cases l <;> rfl
theorem nil_beq (l : List UInt8) : (l == ([] : List UInt8)) = l.isEmpty := by cases l <;> rfl
/-- Whatever is read as a value of the type T is of the kind d, and bounded as wf says. -/
structure Opens {α : Type} (P : Program) (T : TypeId) (d : Kd α) (wf : α → Prop) : Prop where
  cells : P.cellsOf T = d.sz
  fit : ∀ {H : Type} {enc : TypeId × Value → H} {w : World} {base : Nat} {spare : Nat → Bool} {held : Bool} {fuel : Nat} {cs : List Value} {x : DataW H × List MemPlace},
    DataW.trod enc P w base spare held fuel T cs = some x → (∀ n ∈ x.1.weights P T, n ≤ reachBytes) → ∃ a, d.K w a cs ∧ wf a

theorem opens_int {P : Program} {T : TypeId} {k : IntKind} (ht : P.underlying T = some (.int k)) (hc : P.cellsOf T = 1) : Opens P T (Kd.int k) (fun a => (Lit.int k a).wf = true) where
  cells := hc
  fit := by
    intro H enc w base spare held fuel cs x h _
    obtain ⟨n, rfl, _, hw⟩ := DataW.trod_int ht h
    exact ⟨n, rfl, hw⟩
theorem opens_bool {P : Program} {T : TypeId} (ht : P.underlying T = some .bool) (hc : P.cellsOf T = 1) : Opens P T Kd.bool (fun _ => True) where
  cells := hc
  fit := by
    intro H enc w base spare held fuel cs x h _
    obtain ⟨n, rfl, _⟩ := DataW.trod_bool ht h
    exact ⟨n, rfl, trivial⟩
theorem opens_string {P : Program} {T : TypeId} (ht : P.underlying T = some .string) (hc : P.cellsOf T = 1) : Opens P T Kd.string (fun a => a.size ≤ 140737488351232) where
  cells := hc
  fit := by
    intro H enc w base spare held fuel cs x h hz
    obtain ⟨s, rfl, rfl, _⟩ := DataW.trod_string ht h
    refine ⟨s, rfl, ?_⟩
    have := hz s.data.toList.length (by simp [DataW.weights])
    rw [Array.length_toList] at this
    exact this
theorem weightsAll_mem {H : Type} {P : Program} {e : TypeId} : ∀ {l : List (DataW H)} {i : Nat} {d : DataW H}, l[i]? = some d → ∀ n ∈ d.weights P e, n ∈ DataW.weightsAll P e l
  | [], i, d, h, n, hn => by simp at h
  | d0 :: r, 0, d, h, n, hn => by
    simp only [List.getElem?_cons_zero, Option.some.injEq] at h
    subst h
    simp only [DataW.weightsAll, List.mem_append]
    exact .inl hn
  | d0 :: r, i + 1, d, h, n, hn => by
    simp only [List.getElem?_cons_succ] at h
    simp only [DataW.weightsAll, List.mem_append]
    exact .inr (weightsAll_mem h n hn)
def WfRow {α : Type} (B : Nat) (wf : α → Prop) (l : List α) : Prop := l.length ≤ maxLen ∧ l.length * B ≤ 140737488351232 ∧ ∀ x ∈ l, wf x
theorem opens_slice {α : Type} {P : Program} {T e : TypeId} {d : Kd α} {wf : α → Prop} {B : Nat} (ht : P.underlying T = some (.slice e)) (hc : P.cellsOf T = 1) (hB : P.bytesOf e = B) (ho : Opens P e d wf) : Opens P T (Kd.slice e d) (WfRow B wf) where
  cells := hc
  fit := by
    intro H enc w base spare held fuel cs x h hz
    rcases Go.Deep.open_slice ht h with ⟨rfl, rfl⟩ | ⟨a, len, cap, m, n, D, Pl, rfl, hb, hl, hm, hmm, rfl, hx⟩
    · exact ⟨[], ⟨none, 0, rfl, Nat.le_refl _, rfl, by simp, fun h => absurd h (by simp)⟩, by simp [WfRow]⟩
    · have hlm : len ≤ m := by rw [hmm]; split <;> omega
      have hz2 : (len + (m - len)) * P.bytesOf e ≤ reachBytes ∧ ∀ i, i < len → ∀ n ∈ (D i).weights P e, n ≤ reachBytes := by
        simp only [DataW.weights, ht, List.length_map, List.length_range, List.mem_cons, List.mem_append] at hz
        refine ⟨hz _ (.inl rfl), fun i hi n hn => hz n (.inr (.inl (weightsAll_mem (i := i) (d := D i) ?_ n hn)))⟩
        rw [List.getElem?_map, List.getElem?_range hi]; rfl
      obtain ⟨hz1, hz2⟩ := hz2
      have key : ∀ i, i < len → ∃ y cs', d.K w y cs' ∧ wf y ∧ ∀ j u, cs'[j]? = some u → w.cell? (a.add (i * d.sz + j)) = some u := by
        intro i hi
        obtain ⟨cs', hcs, htr⟩ := hx i (by omega)
        obtain ⟨y, hK, hwf⟩ := ho.fit htr (hz2 i hi)
        obtain ⟨_, hlen, hat⟩ := World.cells?_some hcs
        refine ⟨y, cs', hK, hwf, fun j u hu => ?_⟩
        have hj : j < cs'.length := (List.getElem?_eq_some_iff.1 hu).1
        have := hat j (by omega)
        rw [← ho.cells, ← Go.Deep.add_add, this, hu]
      have hlist : ∃ l : List α, l.length = len ∧ ∀ i y, l[i]? = some y → wf y ∧ ∃ cs', d.K w y cs' ∧ ∀ j u, cs'[j]? = some u → w.cell? (a.add (i * d.sz + j)) = some u := by
        clear hz1 hz2 hx hz hl hlm h hmm
        induction len with
        | zero => exact ⟨[], rfl, fun i y h => by simp at h⟩
        | succ n ih =>
          obtain ⟨l, hl, hp⟩ := ih (fun i hi => key i (by omega))
          obtain ⟨y, cs', hK, hwf, hc⟩ := key n (by omega)
          refine ⟨l ++ [y], by simp [hl], fun i z hz => ?_⟩
          rcases Nat.lt_or_ge i l.length with hi | hi
          · rw [List.getElem?_append_left hi] at hz
            exact hp i z hz
          · have hi' : i = n := by
              have := (List.getElem?_eq_some_iff.1 hz).1
              rw [List.length_append, List.length_singleton] at this
              omega
            subst hi'
            rw [List.getElem?_append_right hi, hl] at hz
            simp at hz
            subst hz
            exact ⟨hwf, cs', hK, hc⟩
      obtain ⟨l, hll, hp⟩ := hlist
      subst hll
      have hmx : l.length ≤ maxLen := by omega
      refine ⟨l, ⟨some a, cap, rfl, hl, rfl, by unfold maxLen at hmx; omega, fun _ => ⟨a, rfl, fun j p hj => ?_⟩⟩, hmx, ?_, fun y hy => ?_⟩
      · obtain ⟨_, cs', hK, hc⟩ := hp j p hj
        exact ⟨cs', d.K_len hK, hK, hc⟩
      · rw [← hB]
        refine Nat.le_trans (Nat.mul_le_mul_right _ ?_) hz1
        omega
      · obtain ⟨i, hi, rfl⟩ := List.getElem_of_mem hy
        exact (hp i _ (List.getElem?_eq_getElem hi)).1

/-- Fields in line, from a place on. -/
def OpensF {α : Type} (P : Program) (fs : List Field) (off : Nat) (d : Kd α) (wf : α → Prop) : Prop :=
  ∀ {H : Type} {enc : TypeId × Value → H} {w : World} {base : Nat} {spare : Nat → Bool} {held : Bool} {fuel : Nat} {cs : List Value} {ys : List (DataW H × List MemPlace)},
    ys.length = fs.length → off + d.sz ≤ cs.length → (∀ (i : Nat) (f : Field), fs[i]? = some f → DataW.trod enc P w base spare held fuel f.type ((cs.drop f.offset).take (P.cellsOf f.type)) = ys[i]?) →
    (∀ n ∈ DataW.weightsEach P (fs.map (·.type)) (ys.map (·.1)), n ≤ reachBytes) → ∃ a, d.K w a ((cs.drop off).take d.sz) ∧ wf a
theorem opensF_one {α : Type} {P : Program} {f : Field} {d : Kd α} {wf : α → Prop} (ho : Opens P f.type d wf) : OpensF P [f] f.offset d wf := by
  intro H enc w base spare held fuel cs ys hl _ hat hz
  have h := hat 0 f rfl
  obtain ⟨y, rfl⟩ : ∃ y, ys = [y] := List.length_eq_one_iff.1 hl
  rw [ho.cells] at h
  exact ho.fit h (fun n hn => hz n (by simpa [DataW.weightsEach] using hn))
theorem opensF_cons {α β : Type} {P : Program} {f : Field} {fs : List Field} {d : Kd α} {d2 : Kd β} {wf : α → Prop} {wf2 : β → Prop} {off2 : Nat} (ho : Opens P f.type d wf) (h2 : OpensF P fs off2 d2 wf2) (hoff : off2 = f.offset + d.sz) :
    OpensF P (f :: fs) f.offset (Kd.pair d d2) (fun x => wf x.1 ∧ wf2 x.2) := by
  intro H enc w base spare held fuel cs ys hl hlen hat hz
  obtain ⟨y, ys, rfl⟩ : ∃ y r, ys = y :: r := by
    cases ys with
    | nil => simp at hl
    | cons y r => exact ⟨y, r, rfl⟩
  have h := hat 0 f rfl
  rw [ho.cells] at h
  have hsz : (Kd.pair d d2).sz = d.sz + d2.sz := rfl
  rw [hsz] at hlen ⊢
  obtain ⟨a, hK, hw⟩ := ho.fit h (fun n hn => hz n (by
    simp only [List.map_cons, DataW.weightsEach, List.mem_append]
    exact .inl hn))
  obtain ⟨b, hK2, hw2⟩ := h2 (ys := ys) (cs := cs) (by simpa using hl) (by omega) (fun i g hg => hat (i + 1) g (by simpa using hg)) (fun n hn => hz n (by
    simp only [List.map_cons, DataW.weightsEach, List.mem_append]
    exact .inr hn))
  refine ⟨(a, b), ⟨_, _, ?_, hK, hK2⟩, hw, hw2⟩
  rw [hoff, List.take_add, List.drop_drop]
theorem opens_struct {α : Type} {P : Program} {T : TypeId} {fs : Array Field} {d : Kd α} {wf : α → Prop} (ht : P.underlying T = some (.struct fs)) (hc : P.cellsOf T = d.sz) (h : OpensF P fs.toList 0 d wf) : Opens P T d wf where
  cells := hc
  fit := by
    intro H enc w base spare held fuel cs x hx hz
    obtain ⟨xs, n, rfl, rfl, hlen, hsz, hat⟩ := DataW.trod_struct ht hx
    obtain ⟨a, hK, hw⟩ := h (cs := cs) (ys := xs) (by simpa using hsz) (by omega) (fun i f hf => hat i f (by simpa using hf)) (fun n hn => hz n (by
      simp only [DataW.weights, ht]
      exact hn))
    rw [List.drop_zero, ← hc, ← hlen, List.take_length] at hK
    exact ⟨a, hK, hw⟩
theorem opens_iso {α β : Type} {P : Program} {T : TypeId} {d : Kd α} {wf : α → Prop} (f : β → α) (g : α → β) (hfg : ∀ a, f (g a) = a) (h : Opens P T d wf) : Opens P T (Kd.iso d f) (fun b => wf (f b)) where
  cells := h.cells
  fit := by
    intro H enc w base spare held fuel cs x hx hz
    obtain ⟨a, hK, hw⟩ := h.fit hx hz
    exact ⟨g a, by show d.K w (f (g a)) cs; rw [hfg]; exact hK, by show wf (f (g a)); rw [hfg]; exact hw⟩
theorem opens_wf {α : Type} {P : Program} {T : TypeId} {d : Kd α} {wf wf' : α → Prop} (h : Opens P T d wf) (hw : ∀ a, wf a → wf' a) : Opens P T d wf' where
  cells := h.cells
  fit := by
    intro H enc w base spare held fuel cs x hx hz
    obtain ⟨a, hK, h2⟩ := h.fit hx hz
    exact ⟨a, hK, hw a h2⟩

/-- An argument: by its place among the parameters. -/
theorem open_arg {α : Type} {H : Type} {enc : TypeId × Value → H} {P : Program} {W : World} {base : Nat} {spare : Nat → Bool} {held : Bool} {T : TypeId} {d : Kd α} {wf : α → Prop} {v : Value} {dd : DataW H} {ps : List MemPlace} {ts : List TypeId} {ds : List (DataW H)} {j : Nat}
    (ho : Opens P T d wf) (hsz : (DataW.weightsEach P ts ds).all (· ≤ reachBytes) = true) (ht : ts[j]? = some T) (hd : ds[j]? = some dd) (h : DataW.Trod enc P W base spare held T v dd ps) : ∃ a, d.K W a v.cells.toList ∧ wf a := by
  obtain ⟨fuel, hf⟩ := h
  exact ho.fit hf (fun n hn => by
    have := List.all_eq_true.1 hsz n (DataW.weights_mem_each ht hd n hn)
    simpa using this)
theorem open_arg_slice {α : Type} {H : Type} {enc : TypeId × Value → H} {P : Program} {W : World} {base b0 : Nat} {r : Reach} {spare : Nat → Bool} {held : Bool} {T e : TypeId} {d : Kd α} {wf : List α → Prop} {v : Value} {dd : DataW H} {ps : List MemPlace} {ts : List TypeId} {ds : List (DataW H)} {j : Nat}
    (hu : P.underlying T = some (.slice e)) (hv : Value.okWide P W r b0 T v) (ho : Opens P T (Kd.slice e d) wf) (hsz : (DataW.weightsEach P ts ds).all (· ≤ reachBytes) = true) (ht : ts[j]? = some T) (hd : ds[j]? = some dd) (h : DataW.Trod enc P W base spare held T v dd ps) :
    ∃ (A : Option Addr) (c : Nat) (l : List α), v = .slice A l.length c ∧ l.length ≤ c ∧ d.C W A l.length l ∧ wf l := by
  obtain ⟨a, len, cap, rfl⟩ := okWide_slice hu hv
  obtain ⟨l, ⟨A, c, he, hl, hC⟩, hw⟩ := open_arg ho hsz ht hd h
  simp [Value.cells] at he
  obtain ⟨rfl, rfl, rfl⟩ := he
  exact ⟨_, _, l, rfl, hl, hC, hw⟩
theorem open_arg_struct {α : Type} {H : Type} {enc : TypeId × Value → H} {P : Program} {W : World} {base b0 : Nat} {r : Reach} {spare : Nat → Bool} {held : Bool} {T : TypeId} {fs : Array Field} {d : Kd α} {wf : α → Prop} {v : Value} {dd : DataW H} {ps : List MemPlace} {ts : List TypeId} {ds : List (DataW H)} {j : Nat}
    (hu : P.underlying T = some (.struct fs)) (hv : Value.okWide P W r b0 T v) (ho : Opens P T d wf) (hsz : (DataW.weightsEach P ts ds).all (· ≤ reachBytes) = true) (ht : ts[j]? = some T) (hd : ds[j]? = some dd) (h : DataW.Trod enc P W base spare held T v dd ps) :
    ∃ (a : α) (cs : List Value), v = .agg ⟨cs⟩ ∧ d.K W a cs ∧ wf a := by
  obtain ⟨cs, rfl, _⟩ := okWide_struct hu hv
  obtain ⟨a, hK, hw⟩ := open_arg ho hsz ht hd h
  exact ⟨a, cs.toList, by simp, hK, hw⟩
end Go.Proofs.Ythpoeljnmdjjiaa.Hand
