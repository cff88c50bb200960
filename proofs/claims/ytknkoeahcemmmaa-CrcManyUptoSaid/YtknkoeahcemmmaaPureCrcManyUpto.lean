/-
  Blocks one behind the other are opened one behind the other; a byte more is no block: for every rows of bytes, where all is of bulk at most 1048576. (CrcMany)
-/
import Derived.Test.YtknkoeahcemmmaaUCrcMany
import Derived.Test.YtknkoeahcemmmaaLebP
namespace Go.Proofs.Ytknkoeahcemmmaa.Pure
open Go.RowKit Go.Proofs.Ytknkoeahcemmmaa.PCrc Go.Proofs.YtknkoeahcemmmaaW.PrintWords Go.Proofs.YtknkoeahcemmmaaW.PrintLast Go.Proofs.Ytknkoeahcemmmaa.Hand

/-- A block's bytes. -/
def blk (b : List Int) : List Int := putL 9 (b.length : Int) ++ (b ++ le4 (crcSum b))
theorem blk_len (b : List Int) : (blk b).length = (putL 9 (b.length : Int)).length + (b.length + 4) := by
  unfold blk
  rw [List.length_append, List.length_append]; rfl
theorem put_pos (n : Int) : 0 < (putL 9 n).length := List.length_pos_iff.2 (putL_ne 9 n)
theorem blk_bytes {b : List Int} (hB : ∀ x ∈ b, 0 ≤ x ∧ x < 256) (hl : b.length ≤ 140737488355328) : ∀ x ∈ blk b, 0 ≤ x ∧ x < 256 := fun x hx =>
  (List.mem_append.1 hx).elim (putL9_range ⟨by omega, by omega⟩ x) (fun h => (List.mem_append.1 h).elim (hB x) (le4_bytes _ x))
theorem block_f (b : List Int) (hB : ∀ x ∈ b, 0 ≤ x ∧ x < 256) (hl : b.length ≤ 140737488351232) : crc_Block.f b = some (blk b) := by
  unfold crc_Block.f crcBlock blk
  rw [if_pos ⟨hB, by omega⟩, List.append_assoc]
/-- A block is opened, and what stands behind it is told. -/
theorem open_blk (b more : List Int) (most : Int) (hB : ∀ x ∈ b, 0 ≤ x ∧ x < 256) (hM : ∀ x ∈ more, 0 ≤ x ∧ x < 256) (hl : (blk b ++ more).length ≤ 140737488355328) (h1 : (b.length : Int) ≤ most) (h2 : most ≤ 9223372036854775807) :
    crc_Open.f (blk b ++ more) most = some (b, more, 0) := by
  rw [List.length_append, blk_len] at hl
  have hn : (0 : Int) ≤ (b.length : Int) ∧ (b.length : Int) < 18446744073709551616 := by omega
  have h4 : (le4 (crcSum b)).length = 4 := rfl
  unfold crc_Open.f crcOpen
  rw [if_pos ⟨fun x hx => (List.mem_append.1 hx).elim (blk_bytes hB (by have := put_pos (b.length : Int); omega) x) (hM x), by rw [List.length_append, blk_len]; omega, by omega, by omega⟩]
  unfold crcOpenOut blk
  rw [List.append_assoc, num_put0 hn]
  simp only
  rw [if_neg (by omega), if_neg (by simp only [List.length_append, h4]; omega), Int.toNat_natCast, List.append_assoc, List.take_left', List.drop_left']
  · rw [List.take_left', List.drop_left', if_pos rfl]
    · rfl
    · rfl
  · rfl
  · rfl

/-- Blocks one behind the other. -/
def blks : List (List Int) → List Int
  | [] => []
  | b :: r => blk b ++ blks r
theorem blks_snoc : ∀ (l : List (List Int)) (b : List Int), blks (l ++ [b]) = blks l ++ blk b
  | [], b => by simp [blks]
  | x :: l, b => by simp only [List.cons_append, blks, List.append_assoc]; rw [blks_snoc l b]
def Small (l : List (List Int)) : Prop := ∀ b ∈ l, (∀ x ∈ b, 0 ≤ x ∧ x < 256) ∧ b.length ≤ 1048576
theorem blks_bytes : ∀ (l : List (List Int)), Small l → ∀ x ∈ blks l, 0 ≤ x ∧ x < 256
  | [], _, x, hx => by cases hx
  | b :: r, h, x, hx => by
    obtain ⟨h1, h2⟩ := h b (List.mem_cons_self ..)
    exact (List.mem_append.1 hx).elim (blk_bytes h1 (by omega) x) (blks_bytes r (fun c hc => h c (List.mem_cons_of_mem _ hc)) x)
theorem blks_len : ∀ (l : List (List Int)), Small l → (blks l).length ≤ l.length * 1048590
  | [], _ => by simp [blks]
  | b :: r, h => by
    have h1 := h b (List.mem_cons_self ..)
    have h2 := blks_len r (fun c hc => h c (List.mem_cons_of_mem _ hc))
    have h3 := blk_len b
    have h4 := putL9_len (n := (b.length : Int))
    simp only [blks, List.length_append, List.length_cons]
    have := h1.2
    omega
theorem rdL (l : List (List Int)) (i : Nat) (h : i < l.length) : rd_L1 l (i : Int) = l[i] := by
  unfold rd_L1
  rw [Int.toNat_natCast, List.getD_eq_getElem?_getD, List.getElem?_eq_getElem h]; rfl
theorem w_next (i : Nat) (h : i < 100) : wrap64 ((i : Int) + 1) = ((i + 1 : Nat) : Int) := by unfold wrap64; omega
theorem read_l (l : List (List Int)) (hs : Small l) (M : List (List Int)) (hM : M = l.take 20) : ∀ (d i k : Nat), i + d = M.length → 2 * d + 2 ≤ k → law03_CrcMany.l1 k l true (blks (M.drop i)) (i : Int) = some true := by
  have hml : M.length ≤ 20 ∧ M.length ≤ l.length := by rw [hM, List.length_take]; omega
  have hMs : Small M := fun b hb => hs b (by rw [hM] at hb; exact List.mem_of_mem_take hb)
  intro d
  induction d with
  | zero =>
    intro i k hi hk
    obtain ⟨k, rfl⟩ : ∃ q, k = q + 2 := ⟨k - 2, by omega⟩
    have hd : M.drop i = [] := List.drop_of_length_le (by omega)
    have hend : law03_CrcMany.j3 (k + 1) l true (blks []) (i : Int) false = some true := by
      have ho : crc_Open.f [] 9 = some ([], [], 3) := by
        unfold crc_Open.f crcOpen
        rw [if_pos ⟨fun x hx => (by cases hx), by decide, by decide, by decide⟩]
        rfl
      rw [law03_CrcMany.j3, if_neg (by decide)]
      simp only [blks]
      rw [ho]
      simp
    rw [hd, law03_CrcMany.l1]
    by_cases c : (i : Int) < (l.length : Int)
    · rw [if_pos c]
      have h20 : i = 20 := by
        have : M.length = min 20 l.length := by rw [hM, List.length_take]
        omega
      rw [show decide ((i : Int) < 20) = false from decide_eq_false (by omega)]
      exact hend
    · rw [if_neg c]
      exact hend
  | succ d ih =>
    intro i k hi hk
    obtain ⟨k, rfl⟩ : ∃ q, k = q + 2 := ⟨k - 2, by omega⟩
    have him : i < M.length := by omega
    have hil : i < l.length := by omega
    have hMi : M[i] = l[i] := by subst hM; exact List.getElem_take ..
    have hb := hMs M[i] (List.getElem_mem him)
    have hr : Small (M.drop (i + 1)) := fun b hb => hMs b (List.mem_of_mem_drop hb)
    have hrl := blks_len _ hr
    have hdl : (M.drop (i + 1)).length ≤ 20 := by rw [List.length_drop]; omega
    have hdr : M.drop i = M[i] :: M.drop (i + 1) := List.drop_eq_getElem_cons him
    have hrd := rdL l i hil
    rw [← hMi] at hrd
    clear hMi
    generalize M[i] = b at *
    obtain ⟨hb1, hb2⟩ := hb
    have hbl := blk_len b
    have hpl := putL9_len (n := (b.length : Int))
    have ho := open_blk b (blks (M.drop (i + 1))) 1048576 hb1 (blks_bytes _ hr) (by rw [List.length_append]; omega) (by omega) (by omega)
    rw [law03_CrcMany.l1, if_pos (by omega), show decide ((i : Int) < 20) = true from decide_eq_true (by omega), law03_CrcMany.j3, if_pos rfl, hdr]
    simp only [blks]
    rw [ho]
    simp only [Option.bind_some]
    rw [if_pos (by omega), if_pos (by omega), hrd, if_neg (by omega), if_pos trivial, if_pos rfl, w_next i (by omega)]
    exact ih (i + 1) k (by omega) (by omega)
theorem make_l (l : List (List Int)) (hs : Small l) (M : List (List Int)) (hM : M = l.take 20) : ∀ (d i k : Nat), i + d = M.length → d + 60 ≤ k → law03_CrcMany.l0 k l true (blks (M.take i)) (i : Int) = some true := by
  have hml : M.length ≤ 20 ∧ M.length ≤ l.length := by rw [hM, List.length_take]; omega
  have hMs : Small M := fun b hb => hs b (by rw [hM] at hb; exact List.mem_of_mem_take hb)
  intro d
  induction d with
  | zero =>
    intro i k hi hk
    obtain ⟨k, rfl⟩ : ∃ q, k = q + 2 := ⟨k - 2, by omega⟩
    have hend : law03_CrcMany.j1 (k + 1) l true (blks (M.take i)) = some true := by
      rw [law03_CrcMany.j1, List.take_of_length_le (by omega)]
      have := read_l l hs M hM M.length 0 k (by omega) (by omega)
      rwa [List.drop_zero] at this
    rw [law03_CrcMany.l0]
    by_cases c : (i : Int) < (l.length : Int)
    · have h20 : i = 20 := by
        have : M.length = min 20 l.length := by rw [hM, List.length_take]
        omega
      rw [if_pos c, if_neg (by omega)]
      exact hend
    · rw [if_neg c]
      exact hend
  | succ d ih =>
    intro i k hi hk
    obtain ⟨k, rfl⟩ : ∃ q, k = q + 1 := ⟨k - 1, by omega⟩
    have him : i < M.length := by omega
    have hil : i < l.length := by omega
    have hMi : M[i] = l[i] := by subst hM; exact List.getElem_take ..
    have hb := hMs M[i] (List.getElem_mem him)
    have ht : Small (M.take i) := fun b hb => hMs b (List.mem_of_mem_take hb)
    have htl := blks_len _ ht
    have hdl : (M.take i).length ≤ 20 := by rw [List.length_take]; omega
    have hta : M.take (i + 1) = M.take i ++ [M[i]] := List.take_succ_eq_append_getElem him
    have hrd := rdL l i hil
    rw [← hMi] at hrd
    clear hMi
    have next := ih (i + 1) k (by omega) (by omega)
    rw [hta, blks_snoc] at next
    generalize M[i] = b at *
    obtain ⟨hb1, hb2⟩ := hb
    have hbl := blk_len b
    have hpl := putL9_len (n := (b.length : Int))
    have ho := block_f b hb1 (by omega)
    rw [law03_CrcMany.l0, if_pos (by omega), if_pos (by omega), if_pos (by omega), hrd, ho]
    simp only [Option.bind_some]
    rw [if_pos (by omega), w_next i (by omega)]
    exact next
theorem sum_mem : ∀ (l : List (List Int)) (f : List Int → Nat) (b : List Int), b ∈ l → f b ≤ (l.map f).sum
  | x :: l, f, b, h => by
    simp only [List.map_cons, List.sum_cons]
    rcases List.mem_cons.1 h with rfl | h
    · omega
    · have := sum_mem l f b h
      omega
theorem sum_ones : ∀ (l : List Int), (l.map (fun _ => 1)).sum = l.length
  | [] => rfl
  | x :: l => by simp only [List.map_cons, List.sum_cons, List.length_cons, sum_ones l]; omega
theorem CrcManyUpto : law03_CrcMany.PureU := by
  intro l hw hs
  have hS : Small l := fun b hb => by
    have h1 := hw.2.2 b hb
    refine ⟨fun x hx => wf_u8_ (h1.2.2 x hx), ?_⟩
    have h2 := sum_mem l (fun l => (l.map (fun _ => 1)).sum + 1) b hb
    have h3 := sum_ones b
    simp only at hs h2
    omega
  refine ⟨80, ?_⟩
  unfold law03_CrcMany.f law03_shown.f
  simp only [Option.bind_some]
  have hml : (l.take 20).length ≤ 20 := by rw [List.length_take]; omega
  have := make_l l hS (l.take 20) rfl (l.take 20).length 0 80 (by omega) (by omega)
  rw [List.take_zero] at this
  exact this
end Go.Proofs.Ytknkoeahcemmmaa.Pure
