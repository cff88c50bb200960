/-
  Sorting, by hand: the sort of a clone of whatever length (slices.SortFunc as the kit's shelf has it).
-/
import Derived.Test.YthpoeljnmdjjiaaSvG
import Derived.Test.YthpoeljnmdjjiaaStR
namespace Go.Proofs.Ythpoeljnmdjjiaa.PSrn
open Go.RowKit Go.Proofs.Ythpoeljnmdjjiaa.Hand Go.Proofs.Ythpoeljnmdjjiaa.Srt Go.Proofs.YthpoeljnmdjjiaaW.PrintWords Go.Proofs.YthpoeljnmdjjiaaW.PrintLast Go.Proofs.YthpoeljnmdjjiaaW.PrintMore
set_option linter.unusedVariables false
set_option linter.unusedSimpArgs false

/-- A world that has but grown. -/
theorem grow_of {W W' : World} (h : Below W.heap.size W W') (hd : W.drawn ≤ W'.drawn) : ∃ q os', W' = Sort.grow (W.drewN q) os' := by
  refine ⟨W'.drawn - W.drawn, W'.heap.extract W.heap.size, ?_⟩
  have hh : W.heap ++ W'.heap.extract W.heap.size = W'.heap := by
    refine Array.ext_getElem? (fun k => ?_)
    rw [Array.getElem?_append]
    have hs := h.size
    split
    · rename_i hk
      exact (h.block k hk).symm
    · rename_i hk
      rw [Array.getElem?_extract]
      split
      · congr 1; omega
      · rename_i h2
        rw [Array.getElem?_eq_none (by omega)]
  obtain ⟨heap, tape, drawn, os, output⟩ := W
  obtain ⟨heap', tape', drawn', os', output'⟩ := W'
  obtain ⟨h1, h2, h3, h4, h5⟩ := h
  simp only at h1 h2 h3 hh hd
  subst h1 h2 h3
  unfold Sort.grow World.drewN
  simp only
  rw [hh]
  congr 1
  omega
theorem putCells_all (enc : Nat → Value) (d : Array Nat) (L T : List Value) (h : d.size = L.length) : Sort.putCells enc 0 d (L ++ T).toArray = (d.toList.map enc ++ T).toArray := by
  refine Array.ext (by simp [Sort.putCells, h]) (fun i h1 h2 => ?_)
  simp only [Sort.putCells, Array.getElem_mapIdx]
  by_cases hi : i < d.size
  · rw [if_pos ⟨Nat.zero_le _, by omega⟩]
    simp only [List.getElem_toArray]
    rw [List.getElem_append_left (by simpa using hi), List.getElem_map, Nat.sub_zero, getElem!_pos d i hi]
    simp
  · rw [if_neg (by omega)]
    simp only [List.getElem_toArray]
    rw [List.getElem_append_right (by omega), List.getElem_append_right (by simp; omega)]
    simp [h]
theorem sw_blk {enc : Nat → Value} {W : World} {g m : Nat} {d : Array Nat} {os : Array Obj} {cs : Array Value} (h : W.heap[g]? = some (.cells cs 26 (0, 0))) : (sortWorld enc W g 0 m d os).heap[g]? = some (.cells (Sort.putCells enc 0 d cs) 26 (0, 0)) := by
  have hg := blk_lt h
  unfold sortWorld Sort.grow Sort.putRow Sort.mapBlock Sort.ahead
  simp only
  rw [Array.getElem?_append_left (by simpa using hg), Array.getElem?_modify]
  simp [h, Sort.onCells]
theorem sw_other {enc : Nat → Value} {W : World} {g m : Nat} {d : Array Nat} {os : Array Obj} {k : Nat} (hk : k < W.heap.size) (hne : k ≠ g) : (sortWorld enc W g 0 m d os).heap[k]? = W.heap[k]? := by
  unfold sortWorld Sort.grow Sort.putRow Sort.mapBlock Sort.ahead
  simp only
  rw [Array.getElem?_append_left (by simpa using hk), Array.getElem?_modify, if_neg (fun h => hne h.symm)]
theorem sw_size {enc : Nat → Value} {W : World} {g m : Nat} {d : Array Nat} {os : Array Obj} : W.heap.size ≤ (sortWorld enc W g 0 m d os).heap.size := by
  unfold sortWorld Sort.grow Sort.putRow Sort.mapBlock Sort.ahead
  simp
theorem sw_grown {enc : Nat → Value} {W : World} {g m c n : Nat} {d : Array Nat} {os : Array Obj} : W.grownBy (sortWorld enc W g 0 m d os) (Value.slice (some ⟨g, 0, none⟩) n c).ownBlock :=
  ⟨rfl, rfl, rfl, sw_size, fun k hk hne => sw_other hk (fun h => hne (by rw [h]; rfl))⟩
theorem swo_of {cf : Nat → Nat → Int} (C : Cf cf) : Sort.SWO (ltOf cf) := by
  refine ⟨fun x => ?_, fun x y z h1 h2 => ?_, fun x y z h1 h2 => ?_⟩
  · have := C.anti x x
    exact decide_eq_false (by omega)
  · have h1 := of_decide_eq_true h1
    have h2 := of_decide_eq_true h2
    have h3 := C.trans x y z (by omega) (by omega)
    refine decide_eq_true ?_
    have a1 := C.anti x z
    have a2 := C.anti y z
    have a3 := C.anti x y
    rcases Int.lt_or_eq_of_le h3 with h | h
    · exact h
    · have h5 := C.trans z x y (by omega) (by omega)
      omega
  · have h1 := of_decide_eq_false h1
    have h2 := of_decide_eq_false h2
    have a1 := C.anti x y
    have a2 := C.anti y z
    have a3 := C.anti x z
    have h3 := C.trans z y x (by omega) (by omega)
    exact decide_eq_false (by omega)
/-- The sort of a clone of its own, of whatever length. -/
theorem sortBlk_any (w : World) (rows : List (List S28)) (Hf : Nat → Hd) (A : Option Addr) (c : Nat) (W : World) (hH : HdOf w rows Hf) (hw : Below w.heap.size w W) (hn : rows.length ≤ 10000) (h : SB w.heap.size rows Hf (.slice A rows.length c) (List.range rows.length) W) :
    Calls Try.prog 30 #[.slice A rows.length c, .func (.func 31) #[] #[]] W fun e W' => e = .returned (.tuple #[]) ∧ SortsTo w rows Hf (.slice A rows.length c) W W' := by
  rcases Nat.lt_or_ge 12 rows.length with h12 | h12
  · rcases h.2 with ⟨h0, _⟩ | ⟨h0, g, cap, T, e, hB, hb⟩
    · omega
    · injection e with e1 e2 e3
      subst e1
      have hgl := blk_lt hb
      have hCf := cfFull_ok rows
      have hcmp : CmpLays1 Try.prog 31 #[] (fun i => hdr (Hf i)) (cfFull rows) g 0 (Array.range rows.length).size W := by
        intro m os dk _ x y
        have hW : Below w.heap.size w (sortWorld (fun i => hdr (Hf i)) W g 0 m dk os) := hw.trans ⟨rfl, rfl, rfl, sw_size, fun k hk => sw_other (Nat.lt_of_lt_of_le hk hw.size) (by omega)⟩
        have h1 := hH.below hW
        have := full_calls2 (Hf x).1 (Hf x).2.2 (rows.getD x []) (Hf y).1 (Hf y).2.2 (rows.getD y []) _ (h1.rd x) (h1.rd y)
        rw [← h1.eq, ← h1.eq] at this
        refine Calls.mono this ?_
        rintro e w' ⟨h2, h3, h4⟩
        exact ⟨h2, grow_of h3 h4⟩
      have hH0 : Sort.Holds (fun i => hdr (Hf i)) W g 0 (Array.range rows.length) := by
        intro j hj
        have hj2 : j < rows.length := by simpa using hj
        refine ⟨?_, blk_frozen hb _⟩
        rw [Nat.zero_add, blk_cell hb, List.getElem?_toArray, List.getElem?_append_left (by simpa using hj2), List.getElem?_map, List.getElem?_range hj2]
        simp [hj2]
      have key := Any.slices_SortFunc srtLays (fun i => hdr (Hf i)) (fun _ => rfl) (cfFull rows) (swo_of hCf) 31 #[] g 0 c (Array.range rows.length) W (fun _ _ => rfl) hcmp hH0 hgl (by simp; omega)
      rw [Array.size_range] at key
      refine (show Calls Try.prog 30 #[.slice (some ⟨g, 0, none⟩) rows.length c, .func (.func 31) #[] #[]] W _ from key).mono ?_
      rintro e4 W' ⟨h1, d', n, os, ⟨p1, p2, p3⟩, hs, rfl⟩
      rw [Array.size_range] at p1
      have hperm : d'.toList.Perm (List.range rows.length) := by
        have e1 : (d'.extract 0 rows.length).toList = d'.toList := by rw [← p1]; simp
        have e2 : ((Array.range rows.length).extract 0 rows.length).toList = List.range rows.length := by simp [Array.toList_range]
        rw [e1, e2] at p3
        exact p3
      refine ⟨h1, d'.toList, ?_, ⟨hperm, .inr ⟨h0, g, c, T, rfl, hB, ?_⟩⟩, sw_grown⟩
      · refine List.pairwise_iff_getElem.2 (fun i j hi hj hij => ?_)
        have := of_decide_eq_false (hs i j (Nat.zero_le _) hij (by rw [← p1]; simpa using hj))
        have a1 := hCf.anti d'.toList[i] d'.toList[j]
        have ei : d'[i]! = d'.toList[i] := by rw [getElem!_pos d' i (by simpa using hi)]; simp
        have ej : d'[j]! = d'.toList[j] := by rw [getElem!_pos d' j (by simpa using hj)]; simp
        rw [ei, ej] at this
        omega
      · rw [sw_blk hb, putCells_all _ _ _ _ (by rw [p1]; simp)]
  · exact sortBlk_small w rows Hf A c W hH hw h12 h
end Go.Proofs.Ythpoeljnmdjjiaa.PSrn
