/-
  A value repeated, in a row of the call's own: copying within it (slices.Repeat's way), plainly.
-/
import Derived.Test.YtjchjdbfmiibhaaTw
import Derived.Laws.MakeOwn
import Derived.Laws.CopyRow
import Derived.Laws.CopyOwn
import Derived.Deep.RegionLaw
namespace Go.Proofs.Ytjchjdbfmiibhaa.Hand
open Go.RowKit Go.Proofs.YtjchjdbfmiibhaaW.PrintWords
section
variable {P : Program}
/-- copy, of elements of several cells. -/
theorem run_copy_cells (w : World) (dT sT ty elem : TypeId) (i : TypeInfo) (sz : Nat) (g o dLen dCap : Nat) (a : Addr) (sLen sCap : Nat) (cur : Array Value) (t : TypeId) (cs : List Value) (m : Nat)
    (hu : P.underlying dT = some (.slice elem)) (hi : P.info? elem = some i) (hsz : i.size = sz)
    (hg : w.heap[g]? = some (.cells cur t (0, 0))) (hm : m = Nat.min sLen dLen) (hn : cs.length = m * sz)
    (hsrc : ∀ j v, cs[j]? = some v → w.cell? (a.add j) = some v) (hfit : o + cs.length ≤ cur.size) (h1 : ∀ v ∈ cs, v.oneCell' = true) :
    (Builtin.copy_ #[dT, sT] ty #[.slice (some ⟨g, o, none⟩) dLen dCap, .slice (some a) sLen sCap]).run P w =
      .ok (goInt m) (w.setRow g (cur.toList.take o ++ cs ++ cur.toList.drop (o + cs.length)).toArray) := by
  subst hsz
  subst hm
  have hl := run_firstCells_some (P := P) w i.size (Nat.min sLen dLen) a sLen sCap cs hn hsrc
  have hst := run_storeCells_at P g o t cs 0 cur w hg (by simpa using hfit) h1
  simp [Builtin.copy_, run_underlying hu, Builtin.lenOf, sizeOf, typeInfo, hi, hl, hst]
theorem slice_from (t e : TypeId) {i : TypeInfo} {sz : Nat} (ht : P.underlying t = some (.slice e)) (hi : P.info? e = some i) (hsz : i.size = sz) (g m n : Nat) (h : n < m) (W : World) :
    (Instr.slice t (.slice (some ⟨g, 0, none⟩) m m) (some (.int .i64 (n : Int))) none none).run P W = .ok (.slice (some ⟨g, n * sz, none⟩) (m - n) (m - n)) W := by
  have hel : P.elem t = e := by simp [Program.elem, ht]
  have hu : P.underlying t = some (.slice (P.elem t)) := by rw [hel]; exact ht
  rw [run_slice_l W t (some ⟨g, 0, none⟩) m m hu .i64 (n : Int) (by omega) (by omega), hel]
  have hne : ¬ m = n := by omega
  simp [sizeOf, typeInfo, hi, hsz, sliced, Result.andThen, Addr.add, hne]
  exact fun h => h.symm
theorem slice_to (t e : TypeId) {i : TypeInfo} (ht : P.underlying t = some (.slice e)) (hi : P.info? e = some i) (g m n : Nat) (h : n < m) (W : World) :
    (Instr.slice t (.slice (some ⟨g, 0, none⟩) m m) none (some (.int .i64 (n : Int))) none).run P W = .ok (.slice (some ⟨g, 0, none⟩) n m) W := by
  have hel : P.elem t = e := by simp [Program.elem, ht]
  have hu : P.underlying t = some (.slice (P.elem t)) := by rw [hel]; exact ht
  have hne : ¬ m = 0 := by omega
  rw [run_slice_h W t (some ⟨g, 0, none⟩) m m hu .i64 (n : Int) (by omega) (by omega), hel]
  simp [sizeOf, typeInfo, hi, sliced, Result.andThen, Addr.add, hne]
theorem make_run (t e : TypeId) {i : TypeInfo} {z : Value} {sz bytes : Nat} (ht : P.underlying t = some (.slice e)) (hi : P.info? e = some i) (hz : i.zero = some z) (hsz : i.size = sz) (hby : i.bytes = bytes) (m : Nat) (hm : bytes * m ≤ 281474976710656) (h63 : m ≤ 9223372036854775807) (W : World) :
    (Instr.makeSlice t (.int .i64 (m : Int)) (.int .i64 (m : Int))).run P W = .ok (.slice (some ⟨W.heap.size, 0, none⟩) m m) (W.alloc (.cells (madeCells z.cells (m * sz)) e)) := by
  subst hsz
  subst hby
  have hb : (i.bytes : Int) * (m : Int) ≤ 281474976710656 := by
    have h : ((i.bytes * m : Nat) : Int) ≤ 281474976710656 := by omega
    rwa [Int.natCast_mul] at h
  have := run_make (P := P) W t e i z ht hi hz .i64 .i64 (m : Int) (m : Int) (by omega) (by omega) hb (by omega)
  simpa using this
end
/-- A value's cells, so many times. -/
def rep (c : List Value) : Nat → List Value
  | 0 => []
  | n + 1 => rep c n ++ c
theorem rep_len (c : List Value) : ∀ n, (rep c n).length = n * c.length
  | 0 => by simp [rep]
  | n + 1 => by rw [rep, List.length_append, rep_len c n, Nat.add_mul, Nat.one_mul]
theorem rep_add (c : List Value) (n : Nat) : ∀ k, rep c (n + k) = rep c n ++ rep c k
  | 0 => by simp [rep]
  | k + 1 => by rw [← Nat.add_assoc, rep, rep, rep_add c n k, List.append_assoc]
theorem rep_mem {c : List Value} {v : Value} : ∀ {n : Nat}, v ∈ rep c n → v ∈ c
  | 0, h => by cases h
  | n + 1, h => by
    rcases List.mem_append.1 h with h | h
    · exact rep_mem h
    · exact h
theorem rep_one (c : List Value) : rep c 1 = c := by simp [rep]
theorem reps_rep {α : Type} {R : α → List Value → Prop} {x : α} {c : List Value} (h : R x c) : ∀ n, Reps R c.length (List.replicate n x) (rep c n)
  | 0 => Reps.none _ _
  | n + 1 => by
    rw [List.replicate_succ', rep]
    exact (reps_rep h n).snoc h rfl
/-- A row of m elements, the first n of which are c. -/
def Rep (w : World) (g : Nat) (t : TypeId) (c : List Value) (m n : Nat) : Prop := ∃ cur : Array Value, w.heap[g]? = some (.cells cur t (0, 0)) ∧ cur.size = m * c.length ∧ cur.toList.take (n * c.length) = rep c n
theorem Rep.made (w : World) (t : TypeId) (c : List Value) (z : Array Value) (m : Nat) : Rep (w.alloc (.cells (madeCells z (m * c.length)) t)) w.heap.size t c m 0 :=
  ⟨_, heap_alloc_new w _, size_madeCells _ _, by simp [rep]⟩
theorem Rep.cell {w : World} {g : Nat} {t : TypeId} {c : List Value} {m n : Nat} (h : Rep w g t c m n) {j : Nat} {v : Value} (hv : (rep c n)[j]? = some v) : w.cell? ⟨g, j, none⟩ = some v := by
  obtain ⟨cur, h1, h2, h3⟩ := h
  rw [← h3, List.getElem?_take] at hv
  split at hv
  · simp only [World.cell?, h1]
    simpa using hv
  · cases hv
/-- k elements more are laid behind the first n. -/
theorem Rep.copy {P : Program} {w : World} {g : Nat} {c : List Value} {m n k : Nat} (dT ty elem : TypeId) (i : TypeInfo) (h : Rep w g elem c m n)
    (hu : P.underlying dT = some (.slice elem)) (hi : P.info? elem = some i) (hsz : i.size = c.length) (a : Addr) (sLen sCap : Nat) (hk : k = Nat.min sLen (m - n)) (hn : n ≤ m)
    (hsrc : ∀ j v, (rep c k)[j]? = some v → w.cell? (a.add j) = some v) (h1 : ∀ v ∈ c, v.oneCell' = true) :
    ∃ cs, (∀ dCap, (Builtin.copy_ #[dT, dT] ty #[.slice (some ⟨g, n * c.length, none⟩) (m - n) dCap, .slice (some a) sLen sCap]).run P w = .ok (goInt k) (w.setRow g cs)) ∧ Rep (w.setRow g cs) g elem c m (n + k) := by
  obtain ⟨cur, g1, g2, g3⟩ := h
  have hle : k ≤ m - n := by rw [hk]; exact Nat.min_le_right _ _
  have hlen := rep_len c k
  have hmul : (n + k) * c.length ≤ m * c.length := Nat.mul_le_mul_right _ (by omega)
  rw [Nat.add_mul] at hmul
  refine ⟨(cur.toList.take (n * c.length) ++ rep c k ++ cur.toList.drop (n * c.length + (rep c k).length)).toArray,
    fun dCap => run_copy_cells w dT dT ty elem i c.length g (n * c.length) (m - n) dCap a sLen sCap cur elem (rep c k) k hu hi hsz g1 hk hlen hsrc (by omega) (fun v hv => h1 v (rep_mem hv)), _, setRow_heap w g cur _ elem _ g1, ?_, ?_⟩
  · simp only [List.size_toArray, List.length_append, List.length_take, List.length_drop, Array.length_toList]
    omega
  · rw [g3, rep_add, Nat.add_mul, ← hlen]
    simp only []
    rw [show n * c.length = (rep c n).length from (rep_len c n).symm, ← List.length_append]
    exact List.take_left
theorem Rep.drew {w w' : World} {g : Nat} {t : TypeId} {c : List Value} {m n : Nat} (h : Rep w g t c m n) (hw : w'.heap = w.heap) : Rep w' g t c m n := by
  obtain ⟨cur, h1, h2⟩ := h
  exact ⟨cur, by rw [hw]; exact h1, h2⟩
/-- The whole of it, a row of the call's own. -/
theorem Rep.row {α : Type} {d : Kd α} {w : World} {g base : Nat} {t : TypeId} {c : List Value} {m : Nat} {x : α} (h : Rep w g t c m m) (hb : base ≤ g) (hm : m ≤ 9223372036854775807) (hsz : c.length = d.sz) (hM : ∀ ok, d.M w base ok x c) :
    d.R t w base (fun _ => True) (.slice (some ⟨g, 0, none⟩) m m) (List.replicate m x) := by
  obtain ⟨cur, h1, h2, h3⟩ := h
  refine ⟨fun _ _ => trivial, rep c m, ⟨?_, .inr ⟨g, m, cur, ?_, hb, h1, ?_, by simpa [maxLen] using hm, ?_, ?_⟩⟩, ?_⟩
  · rw [rep_len, hsz, List.length_replicate]
  · rw [List.length_replicate]
  · rw [List.length_replicate]; exact Nat.le_refl _
  · rw [h2, hsz]
  · rw [List.length_replicate, ← hsz]; exact h3
  · rw [← hsz]; exact reps_rep (hM _) m
end Go.Proofs.Ytjchjdbfmiibhaa.Hand
