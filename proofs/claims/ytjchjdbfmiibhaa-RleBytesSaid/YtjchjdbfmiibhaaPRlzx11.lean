import Derived.Test.YtjchjdbfmiibhaaPRlzx0
import Derived.Test.YtjchjdbfmiibhaaPRlzx10
import Derived.Test.YtjchjdbfmiibhaaHRep
namespace Go.Proofs.Ytjchjdbfmiibhaa.PRlz
open Go.RowKit Go.Proofs.YtjchjdbfmiibhaaW.PrintWords Go.Proofs.YtjchjdbfmiibhaaW.PrintLast Go.Proofs.YtjchjdbfmiibhaaW.PrintMore
attribute [local go_sem] max2_int min2_int max_two min_two max_three min_three max_four min_four
set_option linter.unusedVariables false
set_option linter.unusedSimpArgs false
theorem api_Val_49.mul_one (m : Nat) (h : m ≤ 4096) : bits_Mul.f 1 (m : Int) = some (0, (m : Int)) := by
  have hb := bits_and_u64_nat m 4294967295 (by omega) (by omega)
  rw [show m &&& 4294967295 = m % 4294967296 from Nat.and_two_pow_sub_one_eq_mod m 32, show m % 4294967296 = m by omega] at hb
  have hb2 : Go.bits .and .u64 (m : Int) 4294967295 = (m : Int) := hb
  have e0 : (m : Int) / 4294967296 = 0 := by omega
  have e1 : (1 : Int) / 4294967296 = 0 := by decide
  have e2 : Go.bits .and .u64 1 4294967295 = 1 := by decide +kernel
  have e3 : Go.bits .and .u64 0 4294967295 = 0 := by decide +kernel
  have e4 : (m : Int) % 18446744073709551616 = m := by omega
  unfold bits_Mul.f bits_Mul64.f
  simp only [hb2, e0, e1, e2, e3, e4, IntKind.wrap_u64, Int.one_mul, Int.zero_mul, Int.mul_zero, Int.add_zero, Int.zero_ediv, Int.zero_emod, Option.bind_some]
def api_Val_49.f (l0 : List S32) (a1 : Int) : Option (List S32) := if l0.length = 1 ∧ 0 ≤ a1 ∧ a1 ≤ 4096 then some (List.replicate a1.toNat (rd_T32 l0 0)) else none
theorem api_Val_49.src {W : World} {ad : Addr} {x : S32} (h : Kd.C k32 W (some ad) 1 [x]) : ∀ j v, [Value.int .i64 x.f0, .int .i64 x.f1, .string x.f2][j]? = some v → W.cell? (ad.add j) = some v := by
  obtain ⟨ad', c, e, hcl, hK, hcell⟩ := ReadsRow.get_ h z32 0 (by omega) (by omega)
  obtain rfl := k32_open hK
  injection e with e
  subst e
  intro j v hj
  have := hcell j v hj
  simpa using this
set_option maxHeartbeats 4000000 in
set_option maxRecDepth 100000 in
theorem api_Val_49.calls (A0 : Option Addr) (c0 : Nat) (l0 : List S32) (a1 : Int) (r : List S32) (w : World) (hr0 : Kd.C k32 w A0 l0.length l0) (hc0 : l0.length ≤ c0) (h : api_Val_49.f l0 a1 = some r) :
    Calls Try.prog 49 #[.slice A0 l0.length c0, .int .i64 a1] w fun e w' => ∃ v0_ : Value, e = .returned v0_ ∧ Kd.R k32 32 w' w.heap.size (fun _ => True) v0_ r ∧ Below w.heap.size w w' := by
  unfold api_Val_49.f at h
  by_cases hh : ¬ (l0.length = 1 ∧ 0 ≤ a1 ∧ a1 ≤ 4096)
  · rw [if_neg hh] at h
    cases h
  replace hh := Decidable.of_not_not hh
  rw [if_pos hh] at h
  obtain ⟨h1, h2, h3⟩ := hh
  obtain ⟨x, rfl⟩ := List.length_eq_one_iff.1 h1
  obtain ⟨m, rfl⟩ := Int.eq_ofNat_of_zero_le h2
  have hm : m ≤ 4096 := by omega
  replace h := Option.some.inj h
  subst h
  rw [show rd_T32 [x] 0 = x from rfl, Int.toNat_natCast]
  rw [List.length_singleton] at hr0 hc0 ⊢
  obtain ⟨ad, -, rfl, -⟩ := ReadsRow.get_ hr0 z32 0 (by omega) (by omega)
  obtain ⟨i, hi, hzz⟩ := Option.map_eq_some_iff.1 info32
  simp only [Prod.mk.injEq] at hzz
  obtain ⟨hz0, hz1, hz2⟩ := hzz
  generalize hcc : [Value.int .i64 x.f0, .int .i64 x.f1, .string x.f2] = cc
  have hcl : cc.length = 3 := by rw [← hcc]; rfl
  have hone : ∀ v ∈ cc, v.oneCell' = true := by
    rw [← hcc]
    intro v hv
    simp only [List.mem_cons, List.not_mem_nil, or_false] at hv
    rcases hv with rfl | rfl | rfl <;> rfl
  have hsz : i.size = cc.length := by rw [hcl]; exact hz1
  have hmk : ∀ nd, (Instr.makeSlice 22 (.int .i64 (wrap64 (m : Int))) (.int .i64 (wrap64 (m : Int)))).run Try.prog (w.drewN nd) = .ok (.slice (some ⟨w.heap.size, 0, none⟩) m m) ((w.drewN nd).alloc (.cells (madeCells (#[Value.int .i64 0, Value.int .i64 0, Value.string ⟨#[]⟩] : Array Value) (m * cc.length)) 32)) := by
    intro nd
    have := Hand.make_run 22 32 Try.underlying22 hi hz0 hsz hz2 m (by omega) (by omega) (w.drewN nd)
    rw [show wrap64 (m : Int) = (m : Int) by unfold wrap64; omega]
    rwa [show (w.drewN nd).heap.size = w.heap.size by simp] at this
  have HCP : Aside0 (∀ nd, ∃ cs, (Builtin.copy_ #[22, 22] 3 #[.slice (some ⟨w.heap.size, 0, none⟩) m m, .slice (some ad) 1 c0]).run Try.prog ((w.drewN nd).alloc (.cells (madeCells (#[Value.int .i64 0, Value.int .i64 0, Value.string ⟨#[]⟩] : Array Value) (m * cc.length)) 32)) = .ok (.int .i64 ((Nat.min 1 m : Nat) : Int)) (((w.drewN nd).alloc (.cells (madeCells (#[Value.int .i64 0, Value.int .i64 0, Value.string ⟨#[]⟩] : Array Value) (m * cc.length)) 32)).setRow w.heap.size cs) ∧
      Hand.Rep (((w.drewN nd).alloc (.cells (madeCells (#[Value.int .i64 0, Value.int .i64 0, Value.string ⟨#[]⟩] : Array Value) (m * cc.length)) 32)).setRow w.heap.size cs) w.heap.size 32 cc m (Nat.min 1 m)) := by
    refine ⟨fun nd => ?_⟩
    have hb := below_alloc (pw_below_drewN (Below.refl w.heap.size w) nd) (.cells (madeCells (#[Value.int .i64 0, Value.int .i64 0, Value.string ⟨#[]⟩] : Array Value) (m * cc.length)) 32)
    have hs := api_Val_49.src (Kd.C_below hr0 hb)
    rw [hcc] at hs
    have h0 := Hand.Rep.made (w.drewN nd) 32 cc (#[Value.int .i64 0, Value.int .i64 0, Value.string ⟨#[]⟩] : Array Value) m
    rw [show (w.drewN nd).heap.size = w.heap.size by simp] at h0
    obtain ⟨cs, q1, q2⟩ := Hand.Rep.copy (P := Try.prog) (k := Nat.min 1 m) 22 3 32 i h0 Try.underlying22 hi hsz ad 1 c0 rfl (Nat.zero_le _) (fun j v hv => hs j v (by
      have hle : Nat.min 1 m ≤ 1 := Nat.min_le_left _ _
      have h01 : Nat.min 1 m = 0 ∨ Nat.min 1 m = 1 := by omega
      rcases h01 with e | e
      · rw [e] at hv; simp [Hand.rep] at hv
      · rw [e, Hand.rep_one] at hv; exact hv)) hone
    rw [Nat.zero_add] at q2
    rw [Nat.zero_mul] at q1
    exact ⟨cs, q1 m, q2⟩
  have HB0 : Aside0 (∀ nd cs, Below w.heap.size w (((w.drewN nd).alloc (.cells (madeCells (#[Value.int .i64 0, Value.int .i64 0, Value.string ⟨#[]⟩] : Array Value) (m * cc.length)) 32)).setRow w.heap.size cs)) := ⟨fun nd cs => below_setRow (below_alloc (pw_below_drewN (Below.refl _ _) nd) _) (Nat.le_refl _) cs⟩
  have HM := Aside0.mk (fun W => bits_Mul.calls 1 (m : Int) 0 (m : Int) W (api_Val_49.mul_one m hm))
  have HI := Aside0.mk hi
  have HSZ := Aside0.mk hsz
  have HONE := Aside0.mk hone
  have HCL := Aside0.mk hcl
  have HX := Aside0.mk hcc
  have Hm := Aside0.mk hm
  have hu1 : IntKind.u64.wrap (m : Int) = (m : Int) := by rw [IntKind.wrap_u64]; omega
  have hd1 : decide ((m : Int) < 0) = false := decide_eq_false (by omega)
  have hd2 : decide ((9223372036854775807 : Int) < (m : Int)) = false := decide_eq_false (by omega)
  clear hi hz0 hz1 hz2 hsz hone hcl hcc hm hr0 h1 h2 h3
  go_enter Try.func49, Try.ntmps49
  go_wp2_with (first | (go_at_call 68; refine (HM.out _).mono ?_; rintro e w' ⟨rfl, ⟨nd, rfl⟩⟩; obtain ⟨cs, hrun, hrep⟩ := HCP.out nd; have HREP := Aside0.mk hrep; clear hrep))
  go_loopg [8] m (fun kq v8 w' => ∃ n : Nat, v8 = .int .i64 (n : Int) ∧ Aside0 (kq + n = m + Nat.min 1 m) ∧ Aside0 (n ≤ m) ∧ Aside0 (1 ≤ n ∨ m = 0) ∧ Aside0 (Hand.Rep w' w.heap.size 32 cc m n) ∧ Aside0 (Below w.heap.size w w'))
  case atStart =>
    exact ⟨Nat.min 1 m, rfl, ⟨rfl⟩, ⟨Nat.min_le_right _ _⟩, ⟨by
      rcases Nat.eq_zero_or_pos m with h | h
      · exact .inr h
      · exact .inl (Nat.le_min.2 ⟨Nat.le_refl _, h⟩)⟩, HREP, ⟨HB0.out nd cs⟩⟩
  case round =>
    obtain ⟨n, rfl, HK, HLE, HPOS, HR, HB⟩ := hrel
    clear HREP hrun hmk
    by_cases hn : n < m
    · have hd3 : decide ((n : Int) < (m : Int)) = true := decide_eq_true (by omega)
      have hd4 : decide (n < m) = true := decide_eq_true hn
      have hs1 := fun W => Hand.slice_from 22 32 Try.underlying22 HI.out HSZ.out w.heap.size m n hn W
      have hs2 := fun W => Hand.slice_to 22 32 Try.underlying22 HI.out w.heap.size m n hn W
      have hr1 : Hand.Rep wr.drew w.heap.size 32 cc m n := HR.out.drew rfl
      obtain ⟨cs2, hrun2, hrep2⟩ := Hand.Rep.copy (P := Try.prog) (k := Nat.min n (m - n)) 22 3 32 i hr1 Try.underlying22 HI.out HSZ.out ⟨w.heap.size, 0, none⟩ n m rfl HLE.out (fun j v hv => by
        have hle : Nat.min n (m - n) ≤ n := Nat.min_le_left _ _
        have e := Hand.rep_add cc (Nat.min n (m - n)) (n - Nat.min n (m - n))
        rw [show Nat.min n (m - n) + (n - Nat.min n (m - n)) = n by omega] at e
        have hj : (Hand.rep cc n)[j]? = some v := by
          rw [e, List.getElem?_append_left (List.getElem?_eq_some_iff.1 hv).1]
          exact hv
        rw [show (⟨w.heap.size, 0, none⟩ : Addr).add j = ⟨w.heap.size, j, none⟩ by unfold Addr.add; split <;> simp_all]
        exact hr1.cell hj) HONE.out
      have hrun3 := hrun2 (m - n)
      have HR2 := Aside0.mk hrep2
      have HB2 := Aside0.mk (below_setRow (below_drew HB.out) (Nat.le_refl _) cs2)
      have Hn := Aside0.mk hn
      clear hrun2 hrep2 hr1 hn
      go_wp2
      go_region_law fail
      go_wp2
      go_roundg (gk - Nat.min n (m - n))
      case measure =>
        have := HK.out
        have := HPOS.out
        have := Hn.out
        have : 1 ≤ Nat.min n (m - n) := Nat.le_min.2 ⟨by omega, by omega⟩
        have : Nat.min n (m - n) ≤ m - n := Nat.min_le_right _ _
        have : Nat.min 1 m ≤ 1 := Nat.min_le_left _ _
        omega
      case rel =>
        have h1 := HK.out
        have h2 := HPOS.out
        have h3 := Hn.out
        have h4 := Hm.out
        have h5 : Nat.min n (m - n) ≤ m - n := Nat.min_le_right _ _
        refine ⟨n + Nat.min n (m - n), ?_, ⟨by omega⟩, ⟨by omega⟩, ⟨by omega⟩, HR2, HB2⟩
        congr 1
        generalize Nat.min n (m - n) = q at *
        rw [IntKind.wrap_i64]
        omega
    · have hd3 : decide ((n : Int) < (m : Int)) = false := decide_eq_false (by omega)
      have hd4 : decide (n < m) = false := decide_eq_false hn
      have hnm : n = m := by have := HLE.out; omega
      have HD := Aside0.mk (Hand.Rep.row (d := k32) (x := x) (hnm ▸ HR.out) (Nat.le_refl _) (by have := Hm.out; omega) HCL.out (fun ok => by rw [← HX.out]; exact k32_mkM _ _ _ x))
      clear hnm hn
      go_wp2
      go_ret
      exact ⟨_, rfl, HD.out, HB.out⟩
end Go.Proofs.Ytjchjdbfmiibhaa.PRlz
