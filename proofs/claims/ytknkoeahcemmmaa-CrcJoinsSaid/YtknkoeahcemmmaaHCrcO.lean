/-
  By hand: the contract of crc.Open: a block's bytes, and what stands behind it, or an error.
-/
import Derived.Test.YtknkoeahcemmmaaHCrcB
import Derived.Test.YtknkoeahcemmmaaLebP
import Derived.Laws.CopyOwn
import Derived.Laws.MakeOwn
namespace Go.Proofs.Ytknkoeahcemmmaa.Hand
open Go.RowKit Go.Proofs.YtknkoeahcemmmaaW.PrintWords Go.Proofs.YtknkoeahcemmmaaW.PrintLast Go.Proofs.YtknkoeahcemmmaaW.PrintMore

def crcOpenOut (l : List Int) (most : Int) : List Int × List Int × Int := match numGo l 0 0 with
  | .inl e => ([], [], e)
  | .inr (n, t) => if most < 0 ∨ most < n then ([], [], 2) else if (t.length : Int) < n + 4 then ([], [], 3)
      else if le4 (crcSum (t.take n.toNat)) = (t.drop n.toNat).take 4 then (t.take n.toNat, (t.drop n.toNat).drop 4, 0) else ([], [], 5)
def crcOpen (l : List Int) (most : Int) : Option (List Int × List Int × Int) :=
  if (∀ x ∈ l, 0 ≤ x ∧ x < 256) ∧ l.length ≤ 140737488355328 ∧ -9223372036854775808 ≤ most ∧ most ≤ 9223372036854775807 then some (crcOpenOut l most) else none

theorem num_err : ∀ (l : List Int) (i : Nat) (m e : Int), numGo l i m = .inl e → e = 3 ∨ e = 4 := by
  intro l
  induction l with
  | nil => intro i m e h; simp [numGo] at h; omega
  | cons c l ih =>
    intro i m e h
    simp only [numGo] at h
    split at h
    · injection h with h; omega
    · split at h
      · cases h
      · exact ih _ _ _ h
theorem num_rest {l t : List Int} {n : Int} (hB : ∀ x ∈ l, 0 ≤ x ∧ x < 256) (h : numGo l 0 0 = .inr (n, t)) : ∃ k : Nat, l.length = k + t.length ∧ l.drop k = t := by
  have e := put_num0 hB h
  refine ⟨(putL 9 n).length, ?_, ?_⟩
  · have := congrArg List.length e
    rwa [List.length_append] at this
  · have : (putL 9 n ++ t).drop (putL 9 n).length = t := List.drop_left
    rwa [← e] at this

def OpenPost (w : World) (r1 r2 : List Int) (r3 : Int) (e : Ending) (w' : World) : Prop :=
  ∃ v0_ v1_ : Value, e = .returned (.tuple #[v0_, v1_, .int .i64 r3]) ∧ Kd.R (Kd.int .u8) 5 w' w.heap.size (fun k_ => some k_ ≠ (v1_ : Value).ownBlock) v0_ r1 ∧ Kd.R (Kd.int .u8) 5 w' w.heap.size (fun k_ => some k_ ≠ (v0_ : Value).ownBlock) v1_ r2 ∧ Below w.heap.size w w'
theorem open_no {w w' : World} {n : Int} (h : Below w.heap.size w w') : OpenPost w [] [] n (.returned (.tuple #[.slice none 0 0, .slice none 0 0, .int .i64 n])) w' :=
  ⟨_, _, rfl, Kd.R_nil _ _ _ _ _, Kd.R_nil _ _ _ _ _, h⟩
set_option maxHeartbeats 1000000 in
set_option maxRecDepth 100000 in
theorem open_e3 (A0 : Option Addr) (c0 : Nat) (l0 : List Int) (a1 : Int) (w : World) (HCw : Aside0 (Kd.C (Kd.int .u8) w A0 l0.length l0)) (hc0 : l0.length ≤ c0) 
    (HGet : Aside0 (lebGet l0 = some (0, 0, 3))) : Calls Try.prog 16 #[.slice A0 l0.length c0, .int .i64 a1] w (OpenPost w [] [] 3) := by
  go_enter Try.func16, Try.ntmps16
  go_wp2_with (go_at_call 21; refine (lebGet_calls A0 c0 l0 _ _ _ _ HCw.out hc0 HGet.out).mono ?_; rintro e w1 ⟨rfl, hb1⟩; have HB1 := Aside0.mk hb1; clear hb1)
  go_ret3
  exact open_no HB1.out
set_option maxHeartbeats 1000000 in
set_option maxRecDepth 100000 in
theorem open_e4 (A0 : Option Addr) (c0 : Nat) (l0 : List Int) (a1 : Int) (w : World) (HCw : Aside0 (Kd.C (Kd.int .u8) w A0 l0.length l0)) (hc0 : l0.length ≤ c0) 
    (HGet : Aside0 (lebGet l0 = some (0, 0, 4))) : Calls Try.prog 16 #[.slice A0 l0.length c0, .int .i64 a1] w (OpenPost w [] [] 4) := by
  go_enter Try.func16, Try.ntmps16
  go_wp2_with (go_at_call 21; refine (lebGet_calls A0 c0 l0 _ _ _ _ HCw.out hc0 HGet.out).mono ?_; rintro e w1 ⟨rfl, hb1⟩; have HB1 := Aside0.mk hb1; clear hb1)
  go_ret3
  exact open_no HB1.out
set_option maxHeartbeats 1000000 in
set_option maxRecDepth 100000 in
theorem open_neg (A0 : Option Addr) (c0 : Nat) (l0 : List Int) (a1 : Int) (w : World) (HCw : Aside0 (Kd.C (Kd.int .u8) w A0 l0.length l0)) (hc0 : l0.length ≤ c0) 
    (m k : Nat) (HGet : Aside0 (lebGet l0 = some ((m : Int), (k : Int), 0))) (hm0 : a1 < 0) : Calls Try.prog 16 #[.slice A0 l0.length c0, .int .i64 a1] w (OpenPost w [] [] 2) := by
  have hg0 : decide (a1 < 0) = true := decide_eq_true hm0
  go_enter Try.func16, Try.ntmps16
  go_wp2_with (go_at_call 21; refine (lebGet_calls A0 c0 l0 _ _ _ _ HCw.out hc0 HGet.out).mono ?_; rintro e w1 ⟨rfl, hb1⟩; have HB1 := Aside0.mk hb1; clear hb1)
  go_ret3
  exact open_no HB1.out
set_option maxHeartbeats 1000000 in
set_option maxRecDepth 100000 in
theorem open_big (A0 : Option Addr) (c0 : Nat) (l0 : List Int) (a1 : Int) (w : World) (HCw : Aside0 (Kd.C (Kd.int .u8) w A0 l0.length l0)) (hc0 : l0.length ≤ c0) (ha0 : -9223372036854775808 ≤ a1) (ha1 : a1 ≤ 9223372036854775807)
    (m k : Nat) (HGet : Aside0 (lebGet l0 = some ((m : Int), (k : Int), 0))) (hm1 : 0 ≤ a1) (hm2 : a1 < (m : Int)) : Calls Try.prog 16 #[.slice A0 l0.length c0, .int .i64 a1] w (OpenPost w [] [] 2) := by
  have hg0 : decide (a1 < 0) = false := decide_eq_false (by omega)
  have hg1 : decide (a1 < (m : Int)) = true := decide_eq_true hm2
  go_enter Try.func16, Try.ntmps16
  go_wp2_with (go_at_call 21; refine (lebGet_calls A0 c0 l0 _ _ _ _ HCw.out hc0 HGet.out).mono ?_; rintro e w1 ⟨rfl, hb1⟩; have HB1 := Aside0.mk hb1; clear hb1)
  go_ret3
  exact open_no HB1.out
set_option maxHeartbeats 1000000 in
set_option maxRecDepth 100000 in
theorem open_short (A0 : Option Addr) (c0 : Nat) (l0 : List Int) (a1 : Int) (w : World) (HCw : Aside0 (Kd.C (Kd.int .u8) w A0 l0.length l0)) (hc0 : l0.length ≤ c0) (ha0 : -9223372036854775808 ≤ a1) (ha1 : a1 ≤ 9223372036854775807)
    (m k : Nat) (HGet : Aside0 (lebGet l0 = some ((m : Int), (k : Int), 0))) (hk1 : k ≤ l0.length) (hlen : l0.length ≤ 140737488355328) (hm1 : 0 ≤ a1) (hm2 : (m : Int) ≤ a1) (hm4 : (l0.length : Int) - (k : Int) < m + 4) : Calls Try.prog 16 #[.slice A0 l0.length c0, .int .i64 a1] w (OpenPost w [] [] 3) := by
  have hg0 : decide (a1 < 0) = false := decide_eq_false (by omega)
  have hg1 : decide (a1 < (m : Int)) = false := decide_eq_false (by omega)
  have hg2 : decide ((l0.length : Int) - (k : Int) < (m : Int) + 4) = true := decide_eq_true hm4
  go_enter Try.func16, Try.ntmps16
  go_wp2_with (go_at_call 21; refine (lebGet_calls A0 c0 l0 _ _ _ _ HCw.out hc0 HGet.out).mono ?_; rintro e w1 ⟨rfl, hb1⟩; have HB1 := Aside0.mk hb1; clear hb1)
  go_ret3
  exact open_no HB1.out
theorem eq4 (a0 a1 a2 a3 b0 b1 b2 b3 : Int) (W : World) : (Op.equalIn 10000 50 (.agg #[.int .u8 a0, .int .u8 a1, .int .u8 a2, .int .u8 a3]) (.agg #[.int .u8 b0, .int .u8 b1, .int .u8 b2, .int .u8 b3])).run Try.prog W = .ok (a0 == b0 && (a1 == b1 && (a2 == b2 && a3 == b3))) W := by
  have hr : List.range' 0 4 = [0, 1, 2, 3] := rfl
  rw [show (10000 : Nat) = 9998 + 1 + 1 from rfl, Op.equalIn]
  generalize (9998 : Nat) = d
  simp [run_underlying Try.underlying50, go_sem, hr, List.forIn_cons]
  by_cases h0 : a0 = b0 <;> by_cases h1 : a1 = b1 <;> by_cases h2 : a2 = b2 <;> by_cases h3 : a3 = b3 <;> simp [*]
theorem body_row {W : World} {base g : Nat} {e : TypeId} {xs : List Int} {ok : Nat → Prop} (hb : base ≤ g) (hg : W.heap[g]? = some (.cells (encs (Value.int .u8) xs).toArray e (0, 0))) (hm : xs.length ≤ maxLen) (hok : ok g) :
    (Kd.int .u8).R e W base ok (.slice (some ⟨g, 0, none⟩) xs.length xs.length) xs :=
  Kd.R_of_own ⟨by simp [encs], .inr ⟨g, xs.length, _, rfl, hb, hg, Nat.le_refl _, hm, by simp [encs], by rw [Nat.mul_one]; exact List.take_of_length_le (by simp [encs])⟩⟩ (fun k hk => by
    have : g = k := by simpa [Value.ownBlock] using hk
    rw [← this]; exact hok)
theorem splice_all {α : Type} (L cs : List α) (h : L.length = cs.length) : splice L 0 cs = cs := by
  unfold splice
  rw [List.take_zero, List.nil_append, Nat.zero_add, ← h, List.drop_length, List.append_nil]
theorem enc_cells {W : World} {A : Option Addr} {xs : List Int} (h : (Kd.int .u8).C W A xs.length xs) (hp : 0 < xs.length) : ∃ ad, A = some ad ∧ ∀ j v, (encs (Value.int .u8) xs)[j]? = some v → W.cell? (ad.add j) = some v := by
  obtain ⟨ad, e, hc⟩ := cells_int' h hp
  refine ⟨ad, e, fun j v hv => ?_⟩
  have hj : j < xs.length := by
    rcases Nat.lt_or_ge j xs.length with h1 | h1
    · exact h1
    · rw [List.getElem?_eq_none (by simpa [encs] using h1)] at hv; cases hv
  rw [hc j hj, ← hv]
  simp [encs, hj, List.getD_eq_getElem?_getD]
theorem made_list (m : Nat) (z : Value) : madeCells #[z] m = (List.replicate m z).toArray := by
  apply Array.toList_inj.1
  rw [toList_madeCells_one]
/-- Where the body's bytes are read from. -/
theorem open_src {w w1 : World} {ad : Addr} {l0 body : List Int} {k m : Nat} {z : Value} {e : TypeId} (hC : Kd.C (Kd.int .u8) w (some ad) l0.length l0) (hB : Below w.heap.size w w1) (hb : (l0.drop k).take m = body) (hk : k + m ≤ l0.length) :
    ∀ j v, (encs (Value.int .u8) body)[j]? = some v → (w1.alloc (.cells (madeCells #[z] m) e)).cell? ((ad.add k).add j) = some v := by
  intro j v hv
  have hbl : body.length = m := by rw [← hb, List.length_take, List.length_drop]; omega
  have hj : j < body.length := by
    rcases Nat.lt_or_ge j body.length with h1 | h1
    · exact h1
    · rw [List.getElem?_eq_none (by simpa [encs] using h1)] at hv; cases hv
  obtain ⟨ad', e', hc⟩ := cells_int' hC (by omega)
  injection e' with e'
  subst e'
  have h := hc (k + j) (by omega)
  have h2 : (w1.alloc (.cells (madeCells #[z] m) e)).cell? (ad.add (k + j)) = some (.int .u8 (l0.getD (k + j) 0)) := pw_cell_below (below_step hB (below_alloc (Below.refl _ _) _)) h
  rw [add_add, h2, ← hv]
  subst hb
  simp only [encs, List.getElem?_map, List.getElem?_take, List.getElem?_drop]
  rw [if_pos (by omega), List.getElem?_eq_getElem (by omega), List.getD_eq_getElem?_getD, List.getElem?_eq_getElem (by omega)]
  rfl
/-- The body's bytes are copied. -/
theorem open_copy {w w1 : World} {ad : Addr} {l0 body : List Int} {k m c : Nat} (hC : Kd.C (Kd.int .u8) w (some ad) l0.length l0) (hB : Below w.heap.size w w1) (hb : (l0.drop k).take m = body) (hk : k + m ≤ l0.length) :
    ∃ w2 : World, (Builtin.copy_ #[22, 22] 3 #[.slice (some ⟨w1.heap.size, 0, none⟩) m m, .slice (some (ad.add k)) (l0.length - k) c]).run Try.prog (w1.alloc (.cells (madeCells #[.int .u8 0] m) 5)) = .ok (goInt m) w2 ∧
      w2.heap[w1.heap.size]? = some (.cells (encs (Value.int .u8) body).toArray 5 (0, 0)) ∧ Below w.heap.size w w2 := by
  obtain ⟨i0, hi0, hz0, hz1, hz2⟩ := info_parts info_u8'
  have hsz1 : (Try.prog.info? 5).map (·.size) = some 1 := by rw [hi0]; simp [hz1]
  have hbl : body.length = m := by rw [← hb, List.length_take, List.length_drop]; omega
  have hG := heap_alloc_new w1 (.cells (madeCells #[.int .u8 0] m) 5)
  have hB1 := below_step hB (below_alloc (Below.refl _ _) (.cells (madeCells #[.int .u8 0] m) 5))
  have hel : (encs (Value.int .u8) body).length = m := by simp [encs, hbl]
  have h := run_copy_row (P := Try.prog) (w1.alloc (.cells (madeCells #[.int .u8 0] m) 5)) 22 22 3 5 w1.heap.size 0 m m (ad.add k) (l0.length - k) c (madeCells #[.int .u8 0] m) 5 (encs (Value.int .u8) body) Try.underlying22 hsz1 hG
    (by rw [hel]; exact (Nat.min_eq_right (by omega)).symm) (open_src hC hB hb hk) (by rw [hel, made_list]; simp) (fun v hv => by simp only [encs, List.mem_map] at hv; obtain ⟨z, _, rfl⟩ := hv; rfl)
  rw [hel] at h
  refine ⟨_, h, ?_, below_setRow hB1 hB.size _⟩
  rw [setRow_heap _ _ _ _ _ _ hG]
  congr 2
  rw [made_list, List.take_zero, List.nil_append, Nat.zero_add, List.drop_of_length_le (by simp), List.append_nil]
/-- What stands behind the body: four bytes of the sum, and the rest. -/
theorem rest_cells {w W' : World} {ad : Addr} {l0 tl : List Int} {j : Nat} {x0 x1 x2 x3 : Int} (hC : Kd.C (Kd.int .u8) w (some ad) l0.length l0) (hW : Below w.heap.size w W') (h : l0.drop j = x0 :: x1 :: x2 :: x3 :: tl) :
    W'.cell? (ad.add j) = some (.int .u8 x0) ∧ W'.cell? ((ad.add j).add 1) = some (.int .u8 x1) ∧ W'.cell? ((ad.add j).add 2) = some (.int .u8 x2) ∧ W'.cell? ((ad.add j).add 3) = some (.int .u8 x3) := by
  have hl := congrArg List.length h
  simp only [List.length_drop, List.length_cons] at hl
  obtain ⟨ad', e', hc⟩ := cells_int' hC (by omega)
  injection e' with e'
  subst e'
  have at_ : ∀ i x, (l0.drop j)[i]? = some x → W'.cell? (ad.add (j + i)) = some (.int .u8 x) := fun i x hx => by
    rw [List.getElem?_drop] at hx
    have hj : j + i < l0.length := by
      rcases Nat.lt_or_ge (j + i) l0.length with h1 | h1
      · exact h1
      · rw [List.getElem?_eq_none h1] at hx; cases hx
    have h2 := pw_cell_below hW (hc (j + i) hj)
    rw [h2, List.getD_eq_getElem?_getD, hx]
    rfl
  rw [h] at at_
  refine ⟨at_ 0 x0 rfl, ?_, ?_, ?_⟩
  · rw [add_add]; exact at_ 1 x1 rfl
  · rw [add_add]; exact at_ 2 x2 rfl
  · rw [add_add]; exact at_ 3 x3 rfl
theorem tail_reads {w : World} {ad : Addr} {l0 tl : List Int} {j c : Nat} {x0 x1 x2 x3 : Int} (hC : Kd.C (Kd.int .u8) w (some ad) l0.length l0) (hc : l0.length ≤ c) (hj : j + 4 ≤ l0.length) (h : l0.drop j = x0 :: x1 :: x2 :: x3 :: tl) :
    (Kd.int .u8).C w (if c - j = 4 then some (ad.add j) else some ((ad.add j).add 4)) (l0.length - j - 4) tl := by
  have h1 := Kd.C_drop (m := j) hC (by omega) hc
  rw [if_neg (by omega), show (Kd.int .u8).sz = 1 from rfl, Nat.mul_one, h] at h1
  have h2 := Kd.C_drop (m := 4) (c := c - j) h1 (by simp) (by have := congrArg List.length h; simp only [List.length_drop] at this; omega)
  have hl := congrArg List.length h
  simp only [List.length_drop, List.length_cons] at hl
  rw [show (Kd.int .u8).sz = 1 from rfl, Nat.mul_one] at h2
  rw [show l0.length - j - 4 = tl.length by omega]
  exact h2
theorem open_yes {w w6 w8 : World} {g : Nat} {v8 : Value} {body tl : List Int} (hB : Below w.heap.size w (w6.alloc (.cells #[] 5))) (hlg : g < w6.heap.size) (hgb : w.heap.size ≤ g)
    (hG : w6.heap[g]? = some (.cells (encs (Value.int .u8) body).toArray 5 (0, 0))) (ho : (Kd.int .u8).R 5 w8 w.heap.size (fun _ => True) v8 ([] ++ tl))
    (hg8 : (w6.alloc (.cells #[] 5)).grownBy w8 (Value.slice (some ⟨w6.heap.size, 0, none⟩) 0 0).ownBlock)
    (hn8 : v8.ownBlock = (Value.slice (some ⟨w6.heap.size, 0, none⟩) 0 0).ownBlock ∨ v8.ownBlock = some (w6.alloc (.cells #[] 5)).heap.size) (hm : body.length ≤ maxLen) :
    OpenPost w body tl 0 (.returned (.tuple #[.slice (some ⟨g, 0, none⟩) body.length body.length, v8, .int .i64 0])) w8 := by
  have hsz : (w6.alloc (.cells #[] 5)).heap.size = w6.heap.size + 1 := by simp
  have hown : (Value.slice (some ⟨w6.heap.size, 0, none⟩) 0 0).ownBlock = some w6.heap.size := rfl
  rw [hown] at hg8 hn8
  have hh : w8.heap[g]? = w6.heap[g]? := (hg8.block g (by omega) (fun e => by injection e with e; omega)).trans (heap_alloc_old w6 _ hlg)
  have hne : some g ≠ v8.ownBlock := by
    rcases hn8 with h | h <;> rw [h] <;> intro e <;> injection e with e <;> omega
  refine ⟨_, _, rfl, body_row hgb (hh.trans hG) hm hne, ?_, hB.grown hg8 hB.size (fun k hk => by injection hk with hk; have := hB.size; omega)⟩
  rw [List.nil_append] at ho
  refine Kd.R_of_own (Kd.own_of_R ho) (fun k hk => ?_)
  show some k ≠ some g
  rw [← hk]
  exact fun e => hne e.symm
set_option maxHeartbeats 2000000 in
set_option maxRecDepth 100000 in
theorem open_rest (ad : Addr) (c0 : Nat) (l0 : List Int) (a1 : Int) (w : World) (HCw : Aside0 (Kd.C (Kd.int .u8) w (some ad) l0.length l0)) (hc0 : l0.length ≤ c0) (ha1 : a1 ≤ 9223372036854775807) (hlen : l0.length ≤ 140737488355328)
    (m k : Nat) (HGet : Aside0 (lebGet l0 = some ((m : Int), (k : Int), 0))) (hk1 : k ≤ l0.length) (hm1 : 0 ≤ a1) (hm2 : (m : Int) ≤ a1) (hm4 : k + m + 4 ≤ l0.length)
    (body tl : List Int) (x0 x1 x2 x3 : Int) (HBody : Aside0 ((l0.drop k).take m = body)) (HTl : Aside0 (l0.drop (k + m) = x0 :: x1 :: x2 :: x3 :: tl)) (HBy : Aside0 (∀ x ∈ body, 0 ≤ x ∧ x < 256)) :
    Calls Try.prog 16 #[.slice (some ad) l0.length c0, .int .i64 a1] w fun e w' => (le4 (crcSum body) = [x0, x1, x2, x3] → OpenPost w body tl 0 e w') ∧ (le4 (crcSum body) ≠ [x0, x1, x2, x3] → OpenPost w [] [] 5 e w') := by
  have hg0 : decide (a1 < 0) = false := decide_eq_false (by omega)
  have hg1 : decide (a1 < (m : Int)) = false := decide_eq_false (by omega)
  have hg2 : decide ((l0.length : Int) - (k : Int) < (m : Int) + 4) = false := decide_eq_false (by omega)
  obtain ⟨i0, hi0, hz0, hz1, hz2⟩ := info_parts info_u8'
  have hbl : body.length = m := by rw [← HBody.out, List.length_take, List.length_drop]; omega
  obtain rfl : body.length = m := hbl
  have hmk : ∀ W : World, (Instr.makeSlice 22 (.int .u64 (body.length : Int)) (.int .u64 (body.length : Int))).run Try.prog W = .ok (.slice (some ⟨W.heap.size, 0, none⟩) body.length body.length) (W.alloc (.cells (madeCells #[.int .u8 0] body.length) 5)) := fun W => by
    have h := run_make (P := Try.prog) W 22 5 i0 (.int .u8 0) Try.underlying22 hi0 hz0 .u64 .u64 (body.length : Int) (body.length : Int) (by omega) (by omega) (by rw [hz2]; omega) (by omega)
    rw [hz1, Int.toNat_natCast, Nat.mul_one] at h
    exact h
  have hcut1 : ∀ W : World, (Instr.slice 22 (.slice (some ad) l0.length c0) (some (.int .i64 (k : Int))) none none).run Try.prog W = .ok (.slice (some (ad.add k)) (l0.length - k) (c0 - k)) W := fun W => by
    have h := cut_from (P := Try.prog) 22 5 .i64 Try.underlying22 hi0 1 hz1 (some ad) l0.length c0 (k : Int) (by omega) (by omega) W
    rw [Int.toNat_natCast, if_neg (by omega), Nat.mul_one] at h
    exact h
  have hcut2 : ∀ W : World, (Instr.slice 22 (.slice (some ad) l0.length c0) (some (.int .i64 ((k : Int) + (body.length : Int)))) none none).run Try.prog W = .ok (.slice (some (ad.add (k + body.length))) (l0.length - (k + body.length)) (c0 - (k + body.length))) W := fun W => by
    have h := cut_from (P := Try.prog) 22 5 .i64 Try.underlying22 hi0 1 hz1 (some ad) l0.length c0 ((k : Int) + (body.length : Int)) (by omega) (by omega) W
    rw [show ((k : Int) + (body.length : Int)).toNat = k + body.length by omega, if_neg (by omega), Nat.mul_one] at h
    exact h
  go_enter Try.func16, Try.ntmps16
  go_wp2_with (go_at_call 21; refine (lebGet_calls (some ad) c0 l0 _ _ _ _ HCw.out hc0 HGet.out).mono ?_; rintro e w1 ⟨rfl, hb1⟩; obtain ⟨w2, hcp, hg2, hb2⟩ := open_copy (m := body.length) (body := body) (c := c0 - k) HCw.out hb1 HBody.out (by omega); have HG2 := Aside0.mk hg2; have HB2 := Aside0.mk hb2; have HgB : Aside0 (w.heap.size ≤ w1.heap.size) := ⟨hb1.size⟩; clear hb1 hg2 hb2)
  have HCb := Aside0.mk (Kd.C_drew (Kd.R_reads' (body_row (base := w.heap.size) (ok := fun _ => True) HgB.out HG2.out (by unfold maxLen; omega) trivial)).2.2)
  have HB3 := Aside0.mk (below_drew HB2.out)
  have HS := Aside0.mk (fun (W' : World) (hW : Below w.heap.size w W') => rest_cells HCw.out hW HTl.out)
  have hcut3 : ∀ W : World, (Instr.slice 22 (.slice (some (ad.add (k + body.length))) (l0.length - (k + body.length)) (c0 - (k + body.length))) none (some (.int .i64 4)) none).run Try.prog W = .ok (.slice (some (ad.add (k + body.length))) 4 (c0 - (k + body.length))) W :=
    cut_to (P := Try.prog) 22 5 .i64 Try.underlying22 hi0 (some (ad.add (k + body.length))) (l0.length - (k + body.length)) (c0 - (k + body.length)) 4 (by omega) (by omega) (by omega)
  have hcut4 : ∀ W : World, (Instr.slice 22 (.slice (some (ad.add (k + body.length))) (l0.length - (k + body.length)) (c0 - (k + body.length))) (some (.int .i64 4)) none none).run Try.prog W = .ok (.slice (if c0 - (k + body.length) = 4 then some (ad.add (k + body.length)) else some ((ad.add (k + body.length)).add 4)) (l0.length - (k + body.length) - 4) (c0 - (k + body.length) - 4)) W :=
    cut_from (P := Try.prog) 22 5 .i64 Try.underlying22 hi0 1 hz1 (some (ad.add (k + body.length))) (l0.length - (k + body.length)) (c0 - (k + body.length)) 4 (by omega) (by omega)
  have HCt := Aside0.mk (tail_reads (c := c0) HCw.out hc0 hm4 HTl.out)
  obtain ⟨A4, hA4⟩ : ∃ A4 : Option Addr, A4 = (if c0 - (k + body.length) = 4 then some (ad.add (k + body.length)) else some ((ad.add (k + body.length)).add 4)) := ⟨_, rfl⟩
  rw [← hA4] at hcut4 HCt
  clear hA4
  have hlg : w1.heap.size < w2.drew.heap.size := blk_lt HG2.out
  have HD3 := Aside0.mk (Below.refl w2.drew.heap.size w2.drew)
  clear hcut1 hcut2 hcp hmk
  have hL2 : l0.length - (k + body.length) ≤ 140737488355328 := by omega
  generalize ad.add (k + body.length) = ad2 at *
  generalize l0.length - (k + body.length) = L2 at *
  generalize c0 - (k + body.length) = c2 at *
  have hat : ∀ W : World, (Instr.arrayAt 50 (.slice (some ad2) 4 c2)).run Try.prog W = .ok (.pointer (some ad2)) W := fun W => by simp [Instr.arrayAt, run_underlying Try.underlying50]
  have hlt := crcSum_lt body HBy.out
  obtain ⟨tq, htq⟩ : ∃ t : Bool, t = ((crcSum body : Int) % 256 == x0 && ((crcSum body : Int) / 256 % 256 == x1 && ((crcSum body : Int) / 65536 % 256 == x2 && (crcSum body : Int) / 16777216 % 256 == x3))) := ⟨_, rfl⟩
  have heq4 : ∀ W : World, (Op.equalIn 10000 50 (.agg #[.int .u8 ((crcSum body : Int) % 256), .int .u8 ((crcSum body : Int) / 256 % 256), .int .u8 ((crcSum body : Int) / 65536 % 256), .int .u8 ((crcSum body : Int) / 16777216 % 256)]) (.agg #[.int .u8 x0, .int .u8 x1, .int .u8 x2, .int .u8 x3])).run Try.prog W = .ok tq W := fun W => by rw [eq4, htq]
  have HQ : Aside0 (tq = true ↔ le4 (crcSum body) = [x0, x1, x2, x3]) := ⟨by rw [htq]; simp only [Bool.and_eq_true, beq_iff_eq, le4, List.cons.injEq, and_true]⟩
  clear htq
  go_region_held3 (fun w' => w'.cell? ad2 = some (.int .u8 x0) ∧ w'.cell? ⟨ad2.block, ad2.off + 1, none⟩ = some (.int .u8 x1) ∧ w'.cell? ⟨ad2.block, ad2.off + 2, none⟩ = some (.int .u8 x2) ∧ w'.cell? ⟨ad2.block, ad2.off + 3, none⟩ = some (.int .u8 x3))
    (first | exact HS.out _ HB6.out | exact HS.out _ HB5.out | exact HS.out _ HB4.out | exact HS.out _ HB3.out)
    (first
      | (go_at_call 11; refine (crcTable_calls w2.drew).mono ?_; rintro e w4 ⟨rfl, hb4⟩; have HC4 := Aside0.mk (Kd.C_below HCb.out hb4); have HB4 := Aside0.mk (below_step HB3.out hb4); have HD4 := Aside0.mk (below_step HD3.out hb4); clear hb4)
      | (go_at_call 13; refine (crcSum_calls crcRow crcRow_lt (some ⟨w1.heap.size, 0, none⟩) body.length body w4 HC4.out HBy.out).mono ?_; rintro e w5 ⟨rfl, hb5⟩; have HB5 := Aside0.mk (below_step HB4.out hb5); have HD5 := Aside0.mk (below_step HD4.out hb5); clear hb5)
      | (go_at_call 22; refine (crcFour_lit (crcSum body) hlt w5).mono ?_; rintro e w6 ⟨rfl, hb6⟩; have HB6 := Aside0.mk (below_step HB5.out hb6); have HD6 := Aside0.mk (below_step HD5.out hb6); clear hb6))
  all_goals
    cases tq with
    | false =>
      go_wp2
      go_ret3
      exact ⟨fun h => absurd (HQ.out.2 h) (by decide), fun _ => open_no HB6.out⟩
    | true =>
      have HG6 := Aside0.mk ((HD6.out.block w1.heap.size hlg).trans HG2.out)
      have hlg6 : w1.heap.size < w6.heap.size := blk_lt HG6.out
      have HB7 := Aside0.mk (below_step HB6.out (below_alloc (Below.refl _ _) (.cells #[] 5)))
      have HO := Aside0.mk (empty_row (W := w6) (base := w.heap.size) 5 HB6.out.size)
      have HC7 := Aside0.mk (Kd.C_below HCt.out HB7.out)
      go_wp2_with (at_builtin; refine bytes_list (W := w6.alloc (.cells #[] 5)) w.heap.size rfl (.tmp 63) (.tmp 65) 22 22 5 5 i0 rfl Try.underlying22 Try.underlying22 hi0 hz0 hz1 hz2 (.slice (some ⟨w6.heap.size, 0, none⟩) 0 0) [] tl A4 (L2 - 4) (c2 - 4) rfl rfl HO.out HC7.out ?aS ?aL ?_; (case aS => exact HB7.out.size); (case aL => simp only [List.length_nil]; omega); intro v8 w8 ho8 hg8 hn8; have HO8 := Aside0.mk ho8; have HE8 := Aside0.mk (And.intro hg8 hn8); clear ho8 hg8 hn8)
      go_ret3
      refine ⟨fun _ => open_yes HB7.out hlg6 HgB.out HG6.out HO8.out HE8.out.1 HE8.out.2 (by unfold maxLen; omega), fun h => absurd (HQ.out.1 (by trivial)) h⟩
theorem crcOpen_calls (A0 : Option Addr) (c0 : Nat) (l0 : List Int) (a1 : Int) (r1 r2 : List Int) (r3 : Int) (w : World) (hr0 : Kd.C (Kd.int .u8) w A0 l0.length l0) (hc0 : l0.length ≤ c0) (hq : crcOpen l0 a1 = some (r1, r2, r3)) :
    Calls Try.prog 16 #[.slice A0 l0.length c0, .int .i64 a1] w (OpenPost w r1 r2 r3) := by
  unfold crcOpen at hq
  split at hq
  · rename_i hyp
    obtain ⟨hb, hlen, ha0, ha1⟩ := hyp
    injection hq with hq
    have hnr := fun n t => numGo_range l0 0 0 n t hb (by omega) (by omega) (by decide)
    have hnk := fun n t => num_rest (n := n) (t := t) hb
    have hne := num_err l0 0 0
    have HGet : Aside0 (lebGet l0 = some (getOut l0)) := ⟨if_pos hb⟩
    unfold crcOpenOut at hq
    unfold getOut at HGet
    generalize numGo l0 0 0 = o at *
    have HCw := Aside0.mk hr0
    cases o with
    | inl n =>
      simp only [Prod.mk.injEq] at hq
      obtain ⟨rfl, rfl, rfl⟩ := hq
      rcases hne n rfl with rfl | rfl
      · exact open_e3 A0 c0 l0 a1 w HCw hc0 HGet
      · exact open_e4 A0 c0 l0 a1 w HCw hc0 HGet
    | inr nt =>
      obtain ⟨n, t⟩ := nt
      obtain ⟨hn0, hn1⟩ := hnr n t rfl
      obtain ⟨k, hk1, hk2⟩ := hnk n t rfl
      simp only at hq HGet
      rw [show (l0.length : Int) - (t.length : Int) = (k : Int) by omega] at HGet
      obtain ⟨m, rfl⟩ := Int.eq_ofNat_of_zero_le hn0
      by_cases hm0 : a1 < 0
      · rw [if_pos (.inl hm0)] at hq
        simp only [Prod.mk.injEq] at hq
        obtain ⟨rfl, rfl, rfl⟩ := hq
        exact open_neg A0 c0 l0 a1 w HCw hc0 m k HGet hm0
      · by_cases hm2 : a1 < (m : Int)
        · rw [if_pos (.inr hm2)] at hq
          simp only [Prod.mk.injEq] at hq
          obtain ⟨rfl, rfl, rfl⟩ := hq
          exact open_big A0 c0 l0 a1 w HCw hc0 ha0 ha1 m k HGet (by omega) hm2
        · rw [if_neg (by omega)] at hq
          by_cases hm4 : (t.length : Int) < m + 4
          · rw [if_pos hm4] at hq
            simp only [Prod.mk.injEq] at hq
            obtain ⟨rfl, rfl, rfl⟩ := hq
            exact open_short A0 c0 l0 a1 w HCw hc0 ha0 ha1 m k HGet (by omega) hlen (by omega) (by omega) (by omega)
          · rw [if_neg hm4, Int.toNat_natCast] at hq
            have hdl : (t.drop m).length = t.length - m := List.length_drop
            obtain ⟨x0, x1, x2, x3, tl, htl⟩ : ∃ x0 x1 x2 x3 tl, t.drop m = x0 :: x1 :: x2 :: x3 :: tl := by
              match h : t.drop m with
              | x0 :: x1 :: x2 :: x3 :: tl => exact ⟨x0, x1, x2, x3, tl, rfl⟩
              | [] => rw [h] at hdl; simp at hdl; omega
              | [_] => rw [h] at hdl; simp at hdl; omega
              | [_, _] => rw [h] at hdl; simp at hdl; omega
              | [_, _, _] => rw [h] at hdl; simp at hdl; omega
            obtain ⟨ad, rfl, _⟩ := hr0.2.2 (show 0 < l0.length by omega)
            have hby : ∀ x ∈ t.take m, 0 ≤ x ∧ x < 256 := fun x hx => hb x (by rw [← hk2] at hx; exact List.mem_of_mem_drop (List.mem_of_mem_take hx))
            have key := open_rest ad c0 l0 a1 w HCw hc0 ha1 hlen m k HGet (by omega) (by omega) (by omega) (by omega) (t.take m) tl x0 x1 x2 x3 ⟨by rw [hk2]⟩ ⟨by rw [← List.drop_drop, hk2, htl]⟩ ⟨hby⟩
            rw [htl] at hq
            refine key.mono fun e w' hp => ?_
            by_cases hs : le4 (crcSum (t.take m)) = [x0, x1, x2, x3]
            · rw [if_pos (show le4 (crcSum (t.take m)) = List.take 4 (x0 :: x1 :: x2 :: x3 :: tl) from hs)] at hq
              simp only [Prod.mk.injEq] at hq
              obtain ⟨rfl, rfl, rfl⟩ := hq
              exact hp.1 hs
            · rw [if_neg (show ¬ le4 (crcSum (t.take m)) = List.take 4 (x0 :: x1 :: x2 :: x3 :: tl) from hs)] at hq
              simp only [Prod.mk.injEq] at hq
              obtain ⟨rfl, rfl, rfl⟩ := hq
              exact hp.2 hs
  · cases hq
end Go.Proofs.Ytknkoeahcemmmaa.Hand
