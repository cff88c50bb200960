/-
  By hand: leb.ToText's contract: a text behind its length, or an error.
-/
import Derived.Test.YtjchjdbfmiibhaaHGet
import Derived.Test.YtjchjdbfmiibhaaHApp
import Derived.Deep.RegionHeld3
import Derived.Deep.RegionLaw
namespace Go.Proofs.Ytjchjdbfmiibhaa.Hand
open Go.RowKit Go.Proofs.YtjchjdbfmiibhaaW.PrintWords

def toTextOut (l : List Int) (most : Int) : ByteArray × List Int × Int := match numGo l 0 0 with
  | .inl e => (⟨#[]⟩, [], e)
  | .inr (n, t) => if most < 0 ∨ most < n then (⟨#[]⟩, [], 2) else if (t.length : Int) < n then (⟨#[]⟩, [], 3) else (strOfNums (t.take n.toNat), t.drop n.toNat, 0)
def lebToText (l : List Int) (most : Int) : Option (ByteArray × List Int × Int) :=
  if (∀ x ∈ l, 0 ≤ x ∧ x < 256) ∧ l.length ≤ 140737488355328 ∧ -9223372036854775808 ≤ most ∧ most ≤ 9223372036854775807 then some (toTextOut l most) else none

theorem numGo_len : ∀ (l : List Int) (i : Nat) (m n : Int) (t : List Int), numGo l i m = .inr (n, t) → t.length < l.length
  | [], _, _, _, _, h => by cases h
  | c :: l, i, m, n, t, h => by
    unfold numGo at h
    split at h
    · cases h
    · split at h
      · injection h with h
        injection h with _ h
        subst h
        simp
      · have := numGo_len l _ _ _ _ h
        simp only [List.length_cons]
        omega
theorem numGo_range : ∀ (l : List Int) (i : Nat) (m n : Int) (t : List Int), (∀ x ∈ l, 0 ≤ x ∧ x < 256) → i ≤ 9 → 0 ≤ m → m < 128 ^ i → numGo l i m = .inr (n, t) → 0 ≤ n ∧ n < 18446744073709551616
  | [], _, _, _, _, _, _, _, _, h => by cases h
  | c :: l, i, m, n, t, hb, hi, h0, h1, h => by
    unfold numGo at h
    have hc := hb c (List.mem_cons_self ..)
    split at h
    · cases h
    · rename_i hbad
      split at h
      · injection h with h
        injection h with h _
        have := part_bound i c hi hc.1 (by omega) (by omega)
        omega
      · have hi2 : i + 1 ≤ 9 := by omega
        obtain ⟨q1, q2, q3⟩ := pow_le9 i hi
        have h2 : (c - 128) * 128 ^ i ≤ 127 * 128 ^ i := Int.mul_le_mul_of_nonneg_right (by omega) (by omega)
        have h4 : 0 ≤ (c - 128) * 128 ^ i := Int.mul_nonneg (by omega) (by omega)
        have h3 : (128 : Int) ^ (i + 1) = 128 ^ i * 128 := Int.pow_succ ..
        exact numGo_range l (i + 1) _ n t (fun x hx => hb x (List.mem_cons_of_mem _ hx)) hi2 (by omega) (by omega) h

theorem hcd0 {w w1 w2 : World} {o : Obj} (hB : Below w.heap.size w w1) (hsz : w.heap.size + 1 < w1.heap.size) (hg : (w1.alloc o).drew.grownBy w2 (some w1.heap.size)) : Below w.heap.size w w2 :=
  ((hB.alloc (by omega) o).drew).grown hg (by show w.heap.size ≤ (w1.alloc o).heap.size; simp; omega) (fun k hk => by injection hk with hk; omega)
theorem not_err {w w1 : World} {e : TypeId} {v1 : Value} (hsz : w.heap.size + 1 < w1.heap.size) (h : v1.ownBlock = (Value.slice (some ⟨w1.heap.size, 0, none⟩) 0 0).ownBlock ∨ v1.ownBlock = some (w1.alloc (.cells #[] e)).drew.heap.size) :
    ∀ k, v1.ownBlock = some k → k ≠ w.heap.size := by
  intro k hk
  have e2 : (w1.alloc (.cells #[] e)).drew.heap.size = w1.heap.size + 1 := by show (w1.alloc (.cells #[] e)).heap.size = _; simp
  rcases h with h | h <;> rw [h] at hk
  · injection hk with hk; simp at hk; omega
  · injection hk with hk; omega
theorem text_end {w w2 : World} {e : TypeId} {v1 : Value} {xs : List Int} (ho : (Kd.int .u8).R e w2 w.heap.size (fun _ => True) v1 ([] ++ xs))
    (hb : Below w.heap.size w w2) (hn : ∀ k, v1.ownBlock = some k → k ≠ w.heap.size) :
    (Kd.int .u8).R e (w2.setCell ⟨w.heap.size, 0, none⟩ (.int .i64 0)) w.heap.size (fun _ => True) v1 xs ∧ Below w.heap.size w (w2.setCell ⟨w.heap.size, 0, none⟩ (.int .i64 0)) := by
  refine ⟨?_, hb.setCell (Nat.le_refl _) _⟩
  obtain ⟨_, inner, ho, hr⟩ := ho
  exact ⟨fun _ _ => trivial, inner, own_move ho (fun k hk => heap_setCell_ne w2 _ _ k (hn k hk)), hr.imp_ (fun _ _ h => h)⟩
theorem info_u8 : (Try.prog.info? 5).map (fun i => (i.zero, i.size, i.bytes)) = some (some (.int .u8 0), 1, 1) := by kernel_rfl

set_option maxRecDepth 100000 in
theorem lebToText_calls (A0 : Option Addr) (c0 : Nat) (l0 : List Int) (a1 : Int) (r1 : ByteArray) (r2 : List Int) (r3 : Int) (w : World) (hr0 : Kd.C (Kd.int .u8) w A0 l0.length l0) (hc0 : l0.length ≤ c0) (hq : lebToText l0 a1 = some (r1, r2, r3)) :
    Calls Try.prog 66 #[.slice A0 l0.length c0, .int .i64 a1] w fun e w' => ∃ v1_ : Value, e = .returned (.tuple #[.string r1, v1_, .int .i64 r3]) ∧ Kd.R (Kd.int .u8) 5 w' w.heap.size (fun _ => True) v1_ r2 ∧ Below w.heap.size w w' := by
  unfold lebToText at hq
  split at hq
  · rename_i hyp
    obtain ⟨hb, hlen, ha0, ha1⟩ := hyp
    injection hq with hq
    have HQ := Lib.hid hq
    have HR := Lib.hid (row_made hr0 hc0 (.int .i64 0) 26 104)
    have hl := hr0.2.1
    clear hq
    go_enter_defers Try.func66, Try.ntmps66
    go_wp2_with fail
    refine (number_calls w _ (w.heap.size + 1) l0 hb HR.out).mono ?_
    clear HR
    rintro e w1 ⟨hk, hp⟩
    obtain ⟨hc, hz, hsz⟩ := err_var hk
    clear hk
    unfold toTextOut at HQ
    have hnl := numGo_len l0 0 0
    have hnr := numGo_range l0 0 0
    generalize numGo l0 0 0 = o at *
    cases o with
    | inl n =>
      clear hnl hnr
      obtain ⟨rfl, ys, hs⟩ := hp
      have hB := hs.below
      clear hs
      have HQ2 := HQ.out
      simp only [Prod.mk.injEq] at HQ2
      obtain ⟨rfl, rfl, rfl⟩ := HQ2
      go_wp2
      refine leaves_cons (f := 74) (args := #[.pointer (some ⟨w.heap.size, 0, none⟩)]) (by simp) (by simp [go_sem]) ?_
      refine (saved_panicking ⟨w.heap.size, 0, none⟩ 0 n [] _ hc hz).mono ?_
      rintro e u' w2 ⟨rfl, rfl, rfl⟩
      have hcc := World.cell?_setCell_same w1 ⟨w.heap.size, 0, none⟩ (.int .i64 n) hc
      simp [Leaves, settle, results, Try.results66, go_sem, hcc]
      exact ⟨Kd.R_nil _ _ _ _ _, hB.setCell (Nat.le_refl _) _⟩
    | inr nt =>
      obtain ⟨n, t⟩ := nt
      obtain ⟨rfl, hs⟩ := hp
      have htl := hnl _ _ rfl
      obtain ⟨hn0, hn1⟩ := hnr _ _ hb (by omega) (by omega) (by omega) rfl
      clear hnl hnr
      have hB := hs.below
      obtain ⟨A, c, hrc, hl2, hC⟩ := hs.cell
      clear hs
      have HQ2 := HQ.out
      simp only at HQ2
      by_cases hm0 : a1 < 0
      · rw [if_pos (.inl hm0)] at HQ2
        simp only [Prod.mk.injEq] at HQ2
        obtain ⟨rfl, rfl, rfl⟩ := HQ2
        go_wp2
        refine leaves_cons (f := 74) (args := #[.pointer (some ⟨w.heap.size, 0, none⟩)]) (by simp) (by simp [go_sem]) ?_
        refine (saved_panicking ⟨w.heap.size, 0, none⟩ 0 2 [] _ hc hz).mono ?_
        rintro e u' w2 ⟨rfl, rfl, rfl⟩
        have hcc := World.cell?_setCell_same w1 ⟨w.heap.size, 0, none⟩ (.int .i64 2) hc
        simp [Leaves, settle, results, Try.results66, go_sem, hcc]
        exact ⟨Kd.R_nil _ _ _ _ _, hB.setCell (Nat.le_refl _) _⟩
      · have hm1 : 0 ≤ a1 := by omega
        by_cases hm2 : a1 < n
        · rw [if_pos (.inr hm2)] at HQ2
          simp only [Prod.mk.injEq] at HQ2
          obtain ⟨rfl, rfl, rfl⟩ := HQ2
          go_wp2
          refine leaves_cons (f := 74) (args := #[.pointer (some ⟨w.heap.size, 0, none⟩)]) (by simp) (by simp [go_sem]) ?_
          refine (saved_panicking ⟨w.heap.size, 0, none⟩ 0 2 [] _ hc hz).mono ?_
          rintro e u' w2 ⟨rfl, rfl, rfl⟩
          have hcc := World.cell?_setCell_same w1 ⟨w.heap.size, 0, none⟩ (.int .i64 2) hc
          simp [Leaves, settle, results, Try.results66, go_sem, hcc]
          exact ⟨Kd.R_nil _ _ _ _ _, hB.setCell (Nat.le_refl _) _⟩
        · have hm3 : n ≤ a1 := by omega
          rw [if_neg (by omega)] at HQ2
          have htm : t.length ≤ 9223372036854775807 := hC.2.1
          by_cases hm4 : (t.length : Int) < n
          · rw [if_pos hm4] at HQ2
            simp only [Prod.mk.injEq] at HQ2
            obtain ⟨rfl, rfl, rfl⟩ := HQ2
            go_wp2
            refine leaves_cons (f := 74) (args := #[.pointer (some ⟨w.heap.size, 0, none⟩)]) (by simp) (by simp [go_sem]) ?_
            refine (saved_panicking ⟨w.heap.size, 0, none⟩ 0 3 [] _ hc hz).mono ?_
            rintro e u' w2 ⟨rfl, rfl, rfl⟩
            have hcc := World.cell?_setCell_same w1 ⟨w.heap.size, 0, none⟩ (.int .i64 3) hc
            simp [Leaves, settle, results, Try.results66, go_sem, hcc]
            exact ⟨Kd.R_nil _ _ _ _ _, hB.setCell (Nat.le_refl _) _⟩
          · rw [if_neg hm4] at HQ2
            simp only [Prod.mk.injEq] at HQ2
            obtain ⟨rfl, rfl, rfl⟩ := HQ2
            have hm5 : n ≤ t.length := by omega
            clear hm4 hm2 hm0 HQ
            obtain ⟨i0, hi0, hz0, hz1, hz2⟩ := info_parts info_u8
            have hcut1 := cut_to (P := Try.prog) 104 5 .u64 Try.underlying104 hi0 A t.length c n hn0 hm5 hl2
            have hcut2 := cut_from (P := Try.prog) 104 5 .u64 Try.underlying104 hi0 1 hz1 A t.length c n hn0 hm5
            have hCt := Kd.C_take (m := n.toNat) hC (by omega)
            have hCd := Kd.C_drop (m := n.toNat) hC (by omega) hl2
            have hlt : (t.take n.toNat).length = n.toNat := by rw [List.length_take]; omega
            have hld : (t.drop n.toNat).length = t.length - n.toNat := List.length_drop
            have hcv : ∀ W : World, Below w.heap.size w W → (convert 104 9 (.slice A n.toNat c)).run Try.prog W = .ok (.string (strOfNums (t.take n.toNat))) W := fun W hW => by
              have h := Kd.C_string (P := Try.prog) (A := A) (c := c) Try.underlying104 Try.underlying5 Try.underlying9 (Kd.C_below hCt hW)
              rw [hlt] at h
              exact h
            have HCV := Lib.hid hcv
            have hcv1 := hcv w1 hB
            have hcv2 := hcv w1.drew hB.drew
            have hBa : Below w.heap.size w (w1.alloc (.cells #[] 5)).drew := (hB.alloc (by omega) _).drew
            have hcva := hcv _ hBa
            have hrca : (w1.alloc (.cells #[] 5)).drew.cell? ⟨w.heap.size + 1, 0, none⟩ = some (.slice A t.length c) := (World.cell?_alloc_lt _ _ _ hsz).trans hrc
            have HO : Aside0 ((Kd.int .u8).R 5 (w1.alloc (.cells #[] 5)).drew w.heap.size (fun _ => True) (.slice (some ⟨w1.heap.size, 0, none⟩) 0 0) []) := ⟨Kd.R_drew (empty_row (W := w1) (base := w.heap.size) 5 (by omega))⟩
            have hcd := Kd.C_below hCd hBa
            rw [hld] at hcd
            have HCd : Aside0 ((Kd.int .u8).C (w1.alloc (.cells #[] 5)).drew (if c = n.toNat then A else A.map (·.add n.toNat)) (t.length - n.toNat) (t.drop n.toNat)) := ⟨by rw [show (Kd.int IntKind.u8).sz = 1 from rfl, Nat.mul_one] at hcd; exact hcd⟩
            have HBa := Lib.hid hBa
            have hea : (w1.alloc (.cells #[] 5)).drew.cell? ⟨w.heap.size, 0, none⟩ = some (.int .i64 0) := (World.cell?_alloc_lt _ _ _ (by show w.heap.size < w1.heap.size; omega)).trans hc
            have hza : (w1.alloc (.cells #[] 5)).drew.frozen? ⟨w.heap.size, 0, none⟩ = false := by
              rw [← hz]
              exact frozen_same (heap_alloc_old w1 _ (by show w.heap.size < w1.heap.size; omega))
            have hza2 : w.heap.size < (w1.alloc (.cells #[] 5)).drew.heap.size := by
              show w.heap.size < (w1.alloc (.cells #[] 5)).heap.size
              simp; omega
            have hza3 : w.heap.size + 1 < (w1.alloc (.cells #[] 5)).drew.heap.size := by
              show w.heap.size + 1 < (w1.alloc (.cells #[] 5)).heap.size
              simp; omega
            have AFTER : Aside0 (∀ (v1 : Value) (w2 : World), (Kd.int .u8).R 5 w2 w.heap.size (fun _ => True) v1 (t.drop n.toNat) → (w1.alloc (.cells #[] 5)).drew.grownBy w2 (some w1.heap.size) →
                w2.cell? ⟨w.heap.size, 0, none⟩ = some (.int .i64 0) ∧ w2.frozen? ⟨w.heap.size, 0, none⟩ = false ∧ Below w.heap.size w w2 ∧ w2.cell? ⟨w.heap.size + 1, 0, none⟩ = some (.slice A t.length c)) := ⟨fun v1 w2 _ hg => by
              have hh := hg.block w.heap.size hza2 (by intro h; injection h with h; omega)
              refine ⟨(World.cell?_of_block hh).trans hea, (World.frozen?_of_block hh).trans hza, hcd0 hB hsz hg, ?_⟩
              exact (World.cell?_of_block (hg.block (w.heap.size + 1) hza3 (by intro h; injection h with h; omega))).trans hrca⟩
            clear hcv hCt hCd hlt hC hB hBa hcd hea hza hza2 hza3
            go_wp2
            go_region_held3 (fun w' => w'.cell? ⟨w.heap.size + 1, 0, none⟩ = some (.slice A t.length c) ∧ (convert 104 9 (.slice A n.toNat c)).run Try.prog w' = .ok (.string (strOfNums (t.take n.toNat))) w') (first | exact ⟨hrc, hcv2⟩ | exact ⟨hrc, hcv1⟩ | exact ⟨hrca, hcva⟩ | exact ⟨ha4, HCV.out _ ha3⟩ | exact ⟨(World.cell?_setCell_other _ _ _ _ (by simp)).trans ha4, HCV.out _ (ha3.setCell (Nat.le_refl _) _)⟩)
              (first | (refine bytes_step (W := (w1.alloc (.cells #[] 5)).drew) w.heap.size (by simp [Region.wanted]) (.tmp 32) (.tmp 35) 25 104 5 5 i0 rfl Try.underlying25 Try.underlying104 hi0 hz0 hz1 hz2 (.slice (some ⟨w1.heap.size, 0, none⟩) 0 0) [] (t.drop n.toNat) _ _ _ rfl rfl HO.out HCd.out HBa.out.size (by simp; omega) ?_; intro v1 w2 ho2 hg2 hb2; have hnb := not_err hsz hb2; obtain ⟨ha1, ha2, ha3, ha4⟩ := AFTER.out v1 w2 ho2 hg2))
            clear hcv1 hcv2 hcva hrca
            go_wp2
            all_goals
              refine leaves_cons (f := 74) (args := #[.pointer (some ⟨w.heap.size, 0, none⟩)]) (by simp) (by simp [go_sem]) ?_
              refine (saved_idle ⟨w.heap.size, 0, none⟩ _).mono ?_
              rintro e u' w3 ⟨rfl, rfl, rfl⟩
              have hcc := World.cell?_setCell_same w2 ⟨w.heap.size, 0, none⟩ (.int .i64 0) ha1
              have hend := text_end ho2 ha3 hnb
              simp [Leaves, settle, results, Try.results66, go_sem, hcc]
              exact hend
  · cases hq
end Go.Proofs.Ytjchjdbfmiibhaa.Hand
