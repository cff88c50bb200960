/-
  Any value's bytes, and any bytes as a value of any kind, are the document's, or refused: for every input. (ValBytes)
-/
import Derived.Test.YthooijfdlamkkaaRefVal
namespace Go.Proofs.Ythooijfdlamkkaa.Pure
open Go.RowKit Go.Proofs.Ythooijfdlamkkaa.PVtr Go.Proofs.YthooijfdlamkkaaW.PrintWords Go.Proofs.YthooijfdlamkkaaW.PrintLast Go.Proofs.YthooijfdlamkkaaW.PrintMore Go.Proofs.Ythooijfdlamkkaa.Hand

theorem u64_U (i : Int) : U (IntKind.u64.wrap i) := by rw [IntKind.wrap_u64]; unfold U; omega
theorem nil_str : ((⟨#[]⟩ : ByteArray).toList == ([] : List UInt8)) = true := by rw [ByteArray.toList_eq]; rfl

theorem may_eq (k i : Int) (s : ByteArray) : ∃ b, val_May.f k i s = some b ∧ ref05_May.f k i s = some b := by
  unfold val_May.f ref05_May.f
  by_cases h2 : k = 2
  · subst h2
    rw [if_pos rfl, if_neg (by decide), if_neg (by decide), if_pos rfl, clean_f (u64_U i), rclean_f (u64_U i)]
    simp only [Option.bind_some]
    by_cases hs : s.toList = ([] : List UInt8)
    · rw [if_pos hs, hs]
      by_cases hc : IntKind.u64.wrap i = cl (IntKind.u64.wrap i)
      · rw [if_pos hc]
        exact ⟨_, rfl, by rw [← hc]; simp⟩
      · rw [if_neg hc]
        exact ⟨_, rfl, by congr 1; rw [beq_eq_false_iff_ne]; exact fun h => hc h.symm⟩
    · rw [if_neg hs]
      split
      · exact ⟨_, rfl, by congr 1; symm; rw [beq_eq_false_iff_ne]; exact hs⟩
      · exact ⟨_, rfl, rfl⟩
  · rw [if_neg h2]
    by_cases h1 : k = 1
    · subst h1
      rw [if_pos rfl, if_neg (by decide), if_pos rfl]
      exact ⟨_, rfl, rfl⟩
    · rw [if_neg h1]
      by_cases h3 : k = 3
      · subst h3
        rw [if_pos (show (3 : Int) = 3 from rfl), if_neg (show ¬ ((3 : Int) = 0) by decide), if_neg (show ¬ ((3 : Int) = 1) by decide), if_neg (show ¬ ((3 : Int) = 2) by decide)]
        by_cases hi : i = 0
        · rw [if_pos hi]
          exact ⟨_, rfl, by rw [if_pos rfl]⟩
        · rw [if_neg hi]
          exact ⟨_, rfl, by rw [if_pos rfl]⟩
      · rw [if_neg h3]
        by_cases h0 : k = 0
        · subst h0
          rw [if_pos rfl, if_pos rfl]
          by_cases hi : i = 0
          · rw [if_pos hi]
            exact ⟨_, rfl, by rw [hi]; simp⟩
          · rw [if_neg hi]
            exact ⟨_, rfl, by congr 1; simp [hi]⟩
        · rw [if_neg h0, if_neg h0, if_neg h1, if_neg h2, if_neg h3]
          exact ⟨_, rfl, rfl⟩

theorem more_l (K : Int) : ∀ j, val_Bytes.l0 (9 + j) K [] 0 = some (dig 8 K, 0)
  | 0 => bytes_l K
  | j + 1 => (val_Bytes.mono_l (9 + j)) _ _ _ _ (more_l K j)
theorem rbytes_l (K : Int) (hK : U K) : ref05_Bytes.l0 9 K (List.replicate 8 0) 7 = some (dig 8 K, 0) := by
  obtain ⟨h1, h2⟩ := hK
  have step : ∀ (k : Nat) (x : Int) (l : List Int) (n m : Int), 0 ≤ x → x < 18446744073709551616 → 0 ≤ n → n < l.length → wrap64 (n - 1) = m →
      ref05_Bytes.l0 (k + 1) x l n = ref05_Bytes.l0 k (x / 256) (l.set n.toNat (x % 256)) m := by
    intro k x l n m hx0 hx1 hn0 hn1 hm
    have e1 : IntKind.u64.wrap (Int.tdiv x 256) = x / 256 := by rw [Int.tdiv_eq_ediv_of_nonneg hx0, IntKind.wrap_u64]; omega
    have e2 : Int.tmod x 256 % 256 = x % 256 := by rw [Int.tmod_eq_emod_of_nonneg hx0]; omega
    rw [ref05_Bytes.l0, if_pos (by omega), if_pos hn0, if_pos hn1, e1, e2, hm]
  have d : ∀ n, K / 256 ^ n / 256 = K / 256 ^ (n + 1) := by
    intro n
    rw [Int.pow_succ, Int.ediv_ediv_of_nonneg (Int.le_of_lt (p256 n))]
  have b : ∀ n, 0 ≤ K / 256 ^ n ∧ K / 256 ^ n < 18446744073709551616 := by
    intro n
    have hp := p256 n
    exact ⟨Int.ediv_nonneg h1 (by omega), Int.lt_of_le_of_lt (Int.ediv_le_self _ h1) h2⟩
  have d0 : K = K / 256 ^ 0 := by simp
  conv => lhs; rw [d0]
  rw [show (List.replicate 8 (0 : Int)) = [0, 0, 0, 0, 0, 0, 0, 0] from rfl]
  rw [step 8 _ _ 7 6 (b 0).1 (b 0).2 (by decide) (by decide) (by decide +kernel), d 0, step 7 _ _ 6 5 (b 1).1 (b 1).2 (by decide) (by simp) (by decide +kernel), d 1,
    step 6 _ _ 5 4 (b 2).1 (b 2).2 (by decide) (by simp) (by decide +kernel), d 2, step 5 _ _ 4 3 (b 3).1 (b 3).2 (by decide) (by simp) (by decide +kernel), d 3,
    step 4 _ _ 3 2 (b 4).1 (b 4).2 (by decide) (by simp) (by decide +kernel), d 4, step 3 _ _ 2 1 (b 5).1 (b 5).2 (by decide) (by simp) (by decide +kernel), d 5,
    step 2 _ _ 1 0 (b 6).1 (b 6).2 (by decide) (by simp) (by decide +kernel), d 6, step 1 _ _ 0 (-1) (b 7).1 (b 7).2 (by decide) (by simp) (by decide +kernel), ref05_Bytes.l0, if_neg (by decide)]
  rfl
theorem rmore_l (K : Int) (hK : U K) : ∀ j, ref05_Bytes.l0 (9 + j) K (List.replicate 8 0) 7 = some (dig 8 K, 0)
  | 0 => rbytes_l K hK
  | j + 1 => (ref05_Bytes.mono_l (9 + j)) _ _ _ _ (rmore_l K hK j)

theorem text_eq (s : ByteArray) (h : s.size ≤ 140737488351232) : leb_Text.f s = some (putL 9 (s.size : Int) ++ bytesOf s) ∧ ref02_Text.f 40 s = some (putL 9 (s.size : Int) ++ bytesOf s) := by
  have h2 : (0 : Int) ≤ s.size ∧ (s.size : Int) < 18446744073709551616 := by omega
  have hw : IntKind.u64.wrap (s.size : Int) = s.size := by rw [IntKind.wrap_u64]; omega
  have := putL9_len (n := (s.size : Int))
  unfold leb_Text.f ref02_Text.f leb_Put.f
  rw [hw, lebPut_eq h2, refPut_f h2 40 (by omega)]
  simp only [Option.bind_some]
  rw [if_pos (by omega)]
  exact ⟨rfl, rfl⟩

theorem bytes_eq (k i : Int) (s : ByteArray) (hi : -9223372036854775808 ≤ i ∧ i < 9223372036854775808) (hs : s.size ≤ 140737488351232) : ∃ r, val_Bytes.f 40 k i s = some r ∧ ref05_Bytes.f 40 k i s = some r := by
  obtain ⟨b, h1, h2⟩ := may_eq k i s
  unfold val_Bytes.f ref05_Bytes.f
  rw [h1, h2]
  simp only [Option.bind_some]
  cases b with
  | false => exact ⟨_, rfl, rfl⟩
  | true =>
    rw [if_pos rfl, if_pos rfl]
    by_cases k1 : k = 1
    · rw [if_pos k1, if_pos k1]
      unfold leb_Zig.f leb_Put.f
      rw [lebZig_eq hi, refZig_f hi]
      simp only [Option.bind_some]
      rw [lebPut_eq (zig_range hi), refPut_f (zig_range hi) 40 (by omega)]
      exact ⟨_, rfl, rfl⟩
    · rw [if_neg k1, if_neg k1]
      by_cases k2 : k = 2
      · rw [if_pos k2, if_pos k2, key_f (u64_U i), rkey_f (u64_U i)]
        simp only [Option.bind_some]
        rw [if_pos (by decide), more_l _ 31, rmore_l _ (key_U (cl_U (u64_U i))) 31]
        exact ⟨_, rfl, rfl⟩
      · rw [if_neg k2, if_neg k2]
        split
        · rw [(text_eq s hs).1, (text_eq s hs).2]
          exact ⟨_, rfl, rfl⟩
        · exact ⟨_, rfl, rfl⟩

theorem bits_f {k : Int} (h : U k) : flt_Bits.f k = some (if k ≥ 9223372036854775808 then cl (k - 9223372036854775808) else cl (18446744073709551615 - k)) := by
  unfold flt_Bits.f fltBits
  rw [if_pos (show 0 ≤ k ∧ k < 18446744073709551616 from h)]
  obtain ⟨h1, h2⟩ := h
  split
  · exact clean_f ⟨by omega, by omega⟩
  · exact clean_f ⟨by omega, by omega⟩
theorem or_low (x b : Int) (hb : 0 ≤ b ∧ b < 256) : Go.bits .or .u64 (IntKind.u64.wrap (x * 256)) (IntKind.u64.wrap b) = IntKind.u64.wrap (IntKind.u64.wrap (x * 256) + IntKind.u64.wrap b) := by
  simp only [IntKind.wrap_u64]
  have e1 : x * 256 % 18446744073709551616 = 256 * (x % 72057594037927936) := by omega
  have e2 : b % 18446744073709551616 = b := by omega
  rw [e1, e2]
  have hy : 0 ≤ x % 72057594037927936 ∧ x % 72057594037927936 < 72057594037927936 := by omega
  generalize x % 72057594037927936 = y at *
  obtain ⟨n, rfl⟩ := Int.eq_ofNat_of_zero_le hy.1
  obtain ⟨c, rfl⟩ := Int.eq_ofNat_of_zero_le hb.1
  have hc : c < 2 ^ 8 := by omega
  have e := Nat.two_pow_add_eq_or_of_lt hc n
  have h3 := bits_or_u64_nat (256 * n) c (by omega) (by omega)
  have e4 : (256 * (n : Int)) = ((256 * n : Nat) : Int) := by omega
  rw [e4, h3, show (256 * n ||| c) = 256 * n + c from e.symm]
  omega

theorem float_l (l : List Int) (hB : Bs l) (hl : l.length ≤ 140737488351232) (h8 : 8 ≤ l.length) : ∀ (j k i : Nat) (x : Int), i + j = 8 → j < k → U x →
    ∃ r, val_float.l0 k l x (l.take 8) ((l.take 8).length : Int) (i : Int) = some r ∧ ref05_Of.l0 k l x (i : Int) = some r := by
  have hlen : (l.take 8).length = 8 := by rw [List.length_take]; omega
  rw [hlen]
  intro j
  induction j with
  | zero =>
    intro k i x hi hk hx
    obtain ⟨k, rfl⟩ : ∃ j, k = j + 1 := ⟨k - 1, by omega⟩
    obtain rfl : i = 8 := by omega
    rw [val_float.l0, ref05_Of.l0, if_neg (by omega), if_neg (by omega), bits_f hx, rbits_f hx]
    simp only [Option.bind_some]
    have hU : U (if x ≥ 9223372036854775808 then cl (x - 9223372036854775808) else cl (18446744073709551615 - x)) := by
      obtain ⟨h1, h2⟩ := hx
      split
      · exact cl_U ⟨by omega, by omega⟩
      · exact cl_U ⟨by omega, by omega⟩
    generalize (if x ≥ 9223372036854775808 then cl (x - 9223372036854775808) else cl (18446744073709551615 - x)) = B at *
    rw [key_f hU, rkey_f hU]
    simp only [Option.bind_some]
    split
    · rw [if_pos (by omega), if_pos (by simp; omega), if_pos (by omega)]
      exact ⟨_, rfl, rfl⟩
    · exact ⟨_, rfl, rfl⟩
  | succ j ih =>
    intro k i x hi hk hx
    obtain ⟨k, rfl⟩ : ∃ j, k = j + 1 := ⟨k - 1, by omega⟩
    have er : rd (l.take 8) (i : Int) = l.getD i 0 := by
      simp only [rd, Int.toNat_natCast, List.getD_eq_getElem?_getD]
      rw [List.getElem?_take_of_lt (by omega)]
    have er2 : rd l (i : Int) = l.getD i 0 := by simp [rd]
    rw [val_float.l0, ref05_Of.l0, if_pos (by omega), if_pos (by omega), if_pos (by rw [hlen]; omega), if_pos (by omega), if_pos (by omega), if_pos (by omega), er, er2, or_low _ _ (hB.at i),
      show wrap64 ((i : Int) + 1) = ((i + 1 : Nat) : Int) by unfold wrap64; omega]
    exact ih k (i + 1) _ (by omega) (by omega) (u64_U _)

theorem rest_of {l t : List Int} {n : Int} (hB : Bs l) (h : numGo l 0 0 = .inr (n, t)) : t.length ≤ l.length ∧ t = l.drop (l.length - t.length) := by
  have e := put_num0 hB h
  have hlen : l.length = (putL 9 n).length + t.length := by rw [e, List.length_append]
  refine ⟨by omega, ?_⟩
  rw [show l.length - t.length = (putL 9 n).length by omega]
  rw [e, List.drop_left']
  rfl

theorem toText_eq (l : List Int) (hB : Bs l) (hl : l.length ≤ 140737488351232) : leb_ToText.f l 1024 = some (toTextOut l 1024) ∧ ref02_ToText.f 40 l 1024 = some (toTextOut l 1024) := by
  constructor
  · unfold leb_ToText.f lebToText
    rw [if_pos ⟨hB, by omega, by omega, by omega⟩]
  · unfold ref02_ToText.f
    rw [refGet_f hB hl 40 (by omega)]
    simp only [Option.bind_some]
    have hr := fun (n : Int) (t : List Int) => rest_of (l := l) (n := n) (t := t) hB
    have hn := numGo_range l 0 0
    have h4 : ∀ e, numGo l 0 0 = .inl e → e ≠ 0 := by
      have : ∀ (l : List Int) (i : Nat) (m e : Int), numGo l i m = .inl e → e ≠ 0 := by
        intro l
        induction l with
        | nil => intro i m e h; simp [numGo] at h; omega
        | cons c l ih =>
          intro i m e h
          simp only [numGo] at h
          split at h
          · injection h with h; omega
          · split at h
            · cases h
            · exact ih _ _ _ h
      exact this l 0 0
    unfold getOut toTextOut
    generalize numGo l 0 0 = o at *
    rcases o with e | ⟨n, t⟩
    · have := h4 e rfl
      simp only
      rw [if_neg this]
    · obtain ⟨r1, r2⟩ := hr _ _ rfl
      obtain ⟨n1, n2⟩ := hn n t hB (by omega) (by omega) (by decide) rfl
      simp only
      rw [if_pos trivial, if_neg (by decide), IntKind.wrap_u64, ref02_ToText.j0]
      by_cases hm : n > 1024
      · rw [if_pos (by rw [decide_eq_true_iff]; omega), if_pos (by omega)]
      · have hw1 : wrap64 ((l.length : Int) - ((l.length : Int) - (t.length : Int))) = t.length := by unfold wrap64; omega
        have hw2 : wrap64 n = n := by unfold wrap64; omega
        have hR : ¬ ((1024 : Int) < 0 ∨ 1024 < n) := by omega
        have hD : ¬ (decide (n > (1024 : Int) % 18446744073709551616) = true) := by rw [decide_eq_true_iff]; omega
        rw [if_neg hD, if_neg hR, hw1, IntKind.wrap_u64, hw2]
        by_cases ht : (t.length : Int) < n
        · rw [if_pos (show n > (t.length : Int) % 18446744073709551616 by omega), if_pos ht]
        · have hw3 : wrap64 ((l.length : Int) - (t.length : Int) + n) = (l.length : Int) - (t.length : Int) + n := by unfold wrap64; omega
          have hT : ¬ (n > (t.length : Int) % 18446744073709551616) := by omega
          rw [if_neg hT, if_neg ht, hw3, if_pos (by omega), if_pos (by omega), if_pos (by omega), if_pos (by omega)]
          have e1 : ((l.length : Int) - (t.length : Int) + n).toNat = (l.length - t.length) + n.toNat := by omega
          have e2 : ((l.length : Int) - (t.length : Int)).toNat = l.length - t.length := by omega
          rw [e1, e2, ← List.drop_drop, ← r2, List.drop_take, show l.length - t.length + n.toNat - (l.length - t.length) = n.toNat by omega, ← r2]

theorem of_eq (l : List Int) (k : Int) (hB : Bs l) (hl : l.length ≤ 140737488351232) : ∃ r, val_Of.f 40 l k = some r ∧ ref05_Of.f 40 l k = some r := by
  unfold val_Of.f ref05_Of.f
  by_cases k0 : k = 0
  · rw [if_pos k0, if_pos k0]
    simp only [Option.bind_some]
    rw [if_pos (by simp; omega)]
    exact ⟨_, rfl, rfl⟩
  · rw [if_neg k0, if_neg k0]
    by_cases k1 : k = 1
    · rw [if_pos k1, if_pos k1, get_f hB, refGet_f hB hl 40 (by omega)]
      simp only [Option.bind_some]
      have hr := fun (n : Int) (t : List Int) => rest_of (l := l) (n := n) (t := t) hB
      have hn := numGo_range l 0 0
      unfold getOut
      generalize numGo l 0 0 = o at *
      rcases o with e | ⟨n, t⟩
      · simp only
        split
        · unfold leb_Zag.f
          rw [lebZag_eq ⟨by omega, by omega⟩, refZag_f ⟨by omega, by omega⟩]
          simp only [Option.bind_some]
          rw [if_pos (by omega), if_pos (by omega), if_pos (by simp; omega), if_pos (by omega), if_pos (by omega)]
          exact ⟨_, rfl, rfl⟩
        · exact ⟨_, rfl, rfl⟩
      · obtain ⟨r1, _⟩ := hr _ _ rfl
        have hnr := hn n t hB (by omega) (by omega) (by decide) rfl
        simp only
        rw [if_pos trivial, if_pos trivial]
        unfold leb_Zag.f
        rw [lebZag_eq hnr, refZag_f hnr]
        simp only [Option.bind_some]
        rw [if_pos (by omega), if_pos (by omega), if_pos (by simp; omega), if_pos (by omega), if_pos (by omega)]
        exact ⟨_, rfl, rfl⟩
    · rw [if_neg k1, if_neg k1]
      by_cases k2 : k = 2
      · rw [if_pos k2, if_pos k2]
        unfold val_float.f
        by_cases h8 : (l.length : Int) < 8
        · rw [if_pos h8, if_pos h8]
          exact ⟨_, rfl, rfl⟩
        · rw [if_neg h8, if_neg h8, if_pos (by omega)]
          obtain ⟨r, q1, q2⟩ := float_l l hB hl (by omega) 8 40 0 0 rfl (by omega) ⟨by omega, by omega⟩
          rw [show ((0 : Nat) : Int) = 0 from rfl] at q1 q2
          rw [q1, q2]
          exact ⟨_, rfl, rfl⟩
      · rw [if_neg k2, if_neg k2]
        split
        · rw [(toText_eq l hB hl).1, (toText_eq l hB hl).2]
          simp only [Option.bind_some]
          split
          · exact ⟨_, rfl, rfl⟩
          · exact ⟨_, rfl, rfl⟩
        · exact ⟨_, rfl, rfl⟩

theorem ValBytes : law05_ValBytes.Pure := by
  intro k i s l n hk hi hs hm hl hw hn
  have hi := wf_i64_ hi
  have hB : Bs l := fun x hx => wf_u8_ (hw x hx)
  obtain ⟨r, h1, h2⟩ := bytes_eq k i s hi hs
  obtain ⟨q, h3, h4⟩ := of_eq l n hB (by omega)
  have hsh : law05_shown.f = some true := by decide +kernel
  refine ⟨40, ?_⟩
  unfold law05_ValBytes.f
  rw [hsh, h1, h2, h3, h4]
  simp
end Go.Proofs.Ythooijfdlamkkaa.Pure
