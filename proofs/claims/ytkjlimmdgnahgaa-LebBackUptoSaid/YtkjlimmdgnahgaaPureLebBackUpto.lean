/-
  What was put is got, and what stands behind it is told: for every number, numbers, text and bytes, where all is of bulk at most 1048576. (LebBack)
-/
import Derived.Test.YtkjlimmdgnahgaaULebBack
import Derived.Test.YtkjlimmdgnahgaaLebA
namespace Go.Proofs.Ytkjlimmdgnahgaa.Pure
open Go.RowKit Go.Proofs.Ytkjlimmdgnahgaa.PLbk Go.Proofs.YtkjlimmdgnahgaaW.PrintWords Go.Proofs.YtkjlimmdgnahgaaW.PrintLast Go.Proofs.Ytkjlimmdgnahgaa.Hand

theorem same_l (l : List Int) (hb : l.length ≤ 9223372036854775000) : ∀ (j k i : Nat), j = l.length - i → i ≤ l.length → j < k → ref02_Same.l0 k l l (i : Int) = some true := by
  intro j
  induction j with
  | zero =>
    intro k i hj hi hk
    obtain ⟨k, rfl⟩ : ∃ j, k = j + 1 := ⟨k - 1, by omega⟩
    unfold ref02_Same.l0
    rw [if_neg (by omega)]
  | succ j ih =>
    intro k i hj hi hk
    obtain ⟨k, rfl⟩ : ∃ j, k = j + 1 := ⟨k - 1, by omega⟩
    unfold ref02_Same.l0
    rw [if_pos (by omega), if_pos (by omega), if_pos (by omega), if_pos rfl, show wrap64 ((i : Int) + 1) = ((i + 1 : Nat) : Int) by unfold wrap64; omega]
    exact ih k (i + 1) (by omega) (by omega) (by omega)
theorem same_f (l : List Int) (hb : l.length ≤ 9223372036854775000) (k : Nat) (hk : l.length < k) : ref02_Same.f k l l = some true := by
  unfold ref02_Same.f
  rw [if_pos rfl]
  exact same_l l hb l.length k 0 (by omega) (by omega) hk

theorem ints_l (l : List Int) (hl : I64s l) (hb : l.length ≤ 14073748835532) : ∀ (j k : Nat) (acc : List Int) (i : Nat), j = l.length - i → i ≤ l.length → j < k → acc.length ≤ 10 * i →
    leb_Ints.l0 k acc l (l.length : Int) (i : Int) = some (acc ++ intsL (l.drop i)) := by
  intro j
  induction j with
  | zero =>
    intro k acc i hj hi hk _
    obtain ⟨k, rfl⟩ : ∃ j, k = j + 1 := ⟨k - 1, by omega⟩
    unfold leb_Ints.l0
    rw [if_neg (by omega), List.drop_of_length_le (by omega)]
    simp [intsL]
  | succ j ih =>
    intro k acc i hj hi hk ha
    obtain ⟨k, rfl⟩ : ∃ j, k = j + 1 := ⟨k - 1, by omega⟩
    unfold leb_Ints.l0
    rw [if_pos (by omega), if_pos (by omega), if_pos (by omega)]
    have hlt : i < l.length := by omega
    have er : rd l (i : Int) = l[i] := by simp [rd, List.getD_eq_getElem?_getD, hlt]
    have hr := hl l[i] (List.getElem_mem hlt)
    unfold leb_Zig.f leb_Put.f
    rw [er, lebZig_eq hr]
    simp only [Option.bind_some]
    rw [lebPut_eq (zig_range hr)]
    simp only [Option.bind_some]
    have h10 := putL9_len (n := zig l[i])
    rw [if_pos (by omega), show wrap64 ((i : Int) + 1) = ((i + 1 : Nat) : Int) by unfold wrap64; omega,
      ih k _ (i + 1) (by omega) (by omega) (by omega) (by simp only [List.length_append]; omega), List.drop_eq_getElem_cons hlt]
    simp [intsL]
theorem ints_f (l : List Int) (hl : I64s l) (hb : l.length ≤ 14073748835532) (k : Nat) (hk : l.length < k) : leb_Ints.f k l = some (intsL l) := by
  unfold leb_Ints.f
  have := ints_l l hl hb l.length k [] 0 (by omega) (by omega) hk (by simp)
  simpa using this

def Bs (l : List Int) : Prop := ∀ x ∈ l, 0 ≤ x ∧ x < 256
theorem bytesOf_Bs (s : ByteArray) : Bs (bytesOf s) := by
  intro x hx
  unfold bytesOf at hx
  obtain ⟨b, _, rfl⟩ := List.mem_map.1 hx
  have := UInt8.toNat_lt b
  omega
theorem str_bytes (s : ByteArray) : strOfNums (bytesOf s) = s := by
  have h : ∀ x y : ByteArray, x.data = y.data → x = y := by intro x y h; cases x; cases y; simpa using h
  refine h _ _ ?_
  unfold strOfNums bytesOf
  simp only [List.map_map]
  have e : ((fun n : Int => UInt8.ofNat n.toNat) ∘ fun b : UInt8 => (b.toNat : Int)) = id := by
    funext b
    simp
  rw [e, List.map_id]
theorem app_Bs {a b : List Int} (ha : Bs a) (hb : Bs b) : Bs (a ++ b) := fun x hx => (List.mem_append.1 hx).elim (ha x) (hb x)
theorem put_pos (n : Int) : 0 < (putL 9 n).length := List.length_pos_iff.2 (putL_ne 9 n)

theorem LebBackUpto : law02_LebBack.PureU := by
  intro n l s m hn _ _ hl _ _ _ hm b1 b2 b3
  have hn := wf_u64_ hn
  have hI : I64s l := fun x hx => wf_i64_ (hl x hx)
  have hM : Bs m := fun x hx => wf_u8_ (hm x hx)
  have hs : 0 ≤ (s.size : Int) ∧ (s.size : Int) < 18446744073709551616 := ⟨by omega, by omega⟩
  have h10 := putL9_len (n := n)
  have h10s := putL9_len (n := (s.size : Int))
  have hil := intsL_len l
  have hbl := bytesOf_length s
  refine ⟨l.length + 1, ?_⟩
  unfold law02_LebBack.f law02_shown.f leb_ToInts.f leb_Text.f leb_ToText.f leb_Get.f leb_Put.f
  have ew : IntKind.u64.wrap (s.size : Int) = (s.size : Int) := by rw [IntKind.wrap_u64]; omega
  rw [ew, lebPut_eq hn, lebPut_eq hs]
  simp only [Option.bind_some]
  rw [if_pos (by omega)]
  have hget : lebGet (putL 9 n ++ m) = some (n, ((putL 9 n).length : Int), 0) := by
    unfold lebGet
    have hA : ∀ x ∈ putL 9 n ++ m, 0 ≤ x ∧ x < 256 := app_Bs (putL9_range hn) hM
    rw [if_pos hA]
    unfold getOut
    rw [num_put0 hn m]
    simp only [List.length_append]
    congr 2
    congr 1
    omega
  rw [hget, ints_f l hI (by omega) _ (by omega)]
  simp only [Option.bind_some]
  rw [if_pos (by omega), lebToInts_eq (app_Bs (intsL_range l hI) hM) (by simp only [List.length_append]; omega) (by omega), Int.toNat_natCast, ints_back m l [] hI, if_pos (by omega)]
  simp only [Option.bind_some, List.nil_append]
  rw [if_pos (by simp only [List.length_append]; omega)]
  have htext : lebToText (putL 9 (s.size : Int) ++ bytesOf s ++ m) (s.size : Int) = some (s, m, 0) := by
    unfold lebToText
    have hA : ∀ x ∈ putL 9 (s.size : Int) ++ bytesOf s ++ m, 0 ≤ x ∧ x < 256 := app_Bs (app_Bs (putL9_range hs) (bytesOf_Bs s)) hM
    rw [if_pos ⟨hA, by simp only [List.length_append]; omega, by omega, by omega⟩]
    unfold toTextOut
    rw [List.append_assoc, num_put0 hs]
    simp only
    rw [if_neg (by omega), if_neg (by simp only [List.length_append]; omega), Int.toNat_natCast, show (bytesOf s ++ m).take s.size = bytesOf s by rw [List.take_append_of_le_length (by omega), List.take_of_length_le (by omega)],
      show (bytesOf s ++ m).drop s.size = m by rw [List.drop_append_of_le_length (by omega), List.drop_of_length_le (by omega), List.nil_append], str_bytes]
  rw [htext]
  simp only [Option.bind_some, if_true]
  rw [same_f l (by omega) _ (by omega)]
  simp
end Go.Proofs.Ytkjlimmdgnahgaa.Pure
