/-
  By hand: the contract of crc.Block: bytes with their number and sum.
-/
import Derived.Test.YtknkoeahcemmmaaHCrc
import Derived.Test.YtknkoeahcemmmaaHPutB
import Derived.Test.YtknkoeahcemmmaaHApp
import Derived.Deep.RegionHeld3
import Derived.Deep.RegionLaw
namespace Go.Proofs.Ytknkoeahcemmmaa.Hand
open Go.RowKit Go.Proofs.YtknkoeahcemmmaaW.PrintWords Go.Proofs.YtknkoeahcemmmaaW.PrintLast Go.Proofs.YtknkoeahcemmmaaW.PrintMore

def crcBlock (l : List Int) : Option (List Int) := if (∀ x ∈ l, 0 ≤ x ∧ x < 256) ∧ l.length ≤ 140737488355300 then some (putL 9 (l.length : Int) ++ l ++ le4 (crcSum l)) else none
def sum4 (s : Nat) : Array Value := #[.int .u8 ((s : Int) % 256), .int .u8 ((s : Int) / 256 % 256), .int .u8 ((s : Int) / 65536 % 256), .int .u8 ((s : Int) / 16777216 % 256)]
theorem crcFour_lit (s : Nat) (hs : s < 4294967296) (w : World) :
    Calls Try.prog 22 #[.int .u32 (s : Int)] w fun e w' => e = .returned (.agg #[.int .u8 ((s : Int) % 256), .int .u8 ((s : Int) / 256 % 256), .int .u8 ((s : Int) / 65536 % 256), .int .u8 ((s : Int) / 16777216 % 256)]) ∧ Below w.heap.size w w' := crcFour_calls s hs w
/-- A sum's four cells read as a row of bytes. -/
theorem sum4_reads {W : World} {b : Nat} {t : TypeId} (s : Nat) (h : W.heap[b]? = some (.cells #[.int .u8 ((s : Int) % 256), .int .u8 ((s : Int) / 256 % 256), .int .u8 ((s : Int) / 65536 % 256), .int .u8 ((s : Int) / 16777216 % 256)] t (0, 0))) :
    (Kd.int .u8).C W (some ⟨b, 0, none⟩) 4 (le4 s) := by
  refine Kd.C_of_reads (d := (0 : Int)) ⟨rfl, by decide, fun _ => ⟨_, rfl, fun i hi => ?_⟩⟩
  rw [show (Addr.mk b 0 none).add i = ⟨b, i, none⟩ by simp [Addr.add, eq_comm], cell_of_row W b i _ t (0, 0) h]
  have : i = 0 ∨ i = 1 ∨ i = 2 ∨ i = 3 := by omega
  rcases this with rfl | rfl | rfl | rfl <;> rfl
theorem info_u8' : (Try.prog.info? 5).map (fun i => (i.zero, i.size, i.bytes)) = some (some (.int .u8 0), 1, 1) := by kernel_rfl
theorem put_small (n : Nat) (h : n ≤ 140737488355328) : lebPut (n : Int) = some (putL 9 (n : Int)) := by unfold lebPut; rw [if_pos (by omega)]
theorem wrap_len (n : Nat) (h : n ≤ 140737488355328) : IntKind.u64.wrap (n : Int) = (n : Int) := by rw [IntKind.wrap_u64]; omega
set_option maxHeartbeats 4000000 in
set_option maxRecDepth 100000 in
theorem crcBlock_calls (A0 : Option Addr) (c0 : Nat) (l0 r : List Int) (w : World) (hr0 : Kd.C (Kd.int .u8) w A0 l0.length l0) (_hc0 : l0.length ≤ c0) (hq : crcBlock l0 = some r) :
    Calls Try.prog 18 #[.slice A0 l0.length c0] w fun e w' => ∃ v0_ : Value, e = .returned (v0_) ∧ Kd.R (Kd.int .u8) 5 w' w.heap.size (fun _ => True) v0_ r ∧ Below w.heap.size w w' := by
  unfold crcBlock at hq
  split at hq
  · rename_i hyp
    obtain ⟨hb, hl⟩ := hyp
    injection hq with hq
    have HQ := Lib.hid hq
    have HBy := Aside0.mk hb
    have hlt := crcSum_lt l0 hb
    clear hq hb
    go_enter Try.func18, Try.ntmps18
    go_wp2_with fail
    refine (crcTable_calls _).mono ?_
    rintro e w1 ⟨rfl, hb1⟩
    have HC1 := Aside0.mk (Kd.C_below hr0 hb1)
    have HB1 := Aside0.mk hb1
    clear hr0 hb1
    go_wp2_with fail
    refine (crcSum_calls crcRow crcRow_lt A0 c0 l0 _ HC1.out HBy.out).mono ?_
    rintro e w2 ⟨rfl, hb2⟩
    have HC2 := Aside0.mk (Kd.C_below HC1.out hb2)
    have HB2 := Aside0.mk (below_step HB1.out hb2)
    clear HC1 HB1 hb2
    go_wp2_with fail
    refine (crcFour_lit (crcSum l0) hlt _).mono ?_
    rintro e w3 ⟨rfl, hb3⟩
    have HC3 := Aside0.mk (Kd.C_below HC2.out hb3)
    have HB3 := Aside0.mk (below_step HB2.out hb3)
    clear HC2 HB2 hb3
    generalize hS : crcSum l0 = s at *
    have HS := Lib.hid hS
    clear hS
    go_wp2
    have HC4 := Aside0.mk (Kd.C_drew (Kd.C_below HC3.out (below_alloc (Below.refl _ _) (.cells #[.int .u8 ((s : Int) % 256), .int .u8 ((s : Int) / 256 % 256), .int .u8 ((s : Int) / 65536 % 256), .int .u8 ((s : Int) / 16777216 % 256)] 50))))
    have HB4 := Aside0.mk (below_drew (below_step HB3.out (below_alloc (Below.refl _ _) (.cells #[.int .u8 ((s : Int) % 256), .int .u8 ((s : Int) / 256 % 256), .int .u8 ((s : Int) / 65536 % 256), .int .u8 ((s : Int) / 16777216 % 256)] 50))))
    have HG4 := Aside0.mk (heap_alloc_new w3 (.cells #[.int .u8 ((s : Int) % 256), .int .u8 ((s : Int) / 256 % 256), .int .u8 ((s : Int) / 65536 % 256), .int .u8 ((s : Int) / 16777216 % 256)] 50))
    clear HC3 HB3
    generalize (w3.alloc (.cells #[.int .u8 ((s : Int) % 256), .int .u8 ((s : Int) / 256 % 256), .int .u8 ((s : Int) / 65536 % 256), .int .u8 ((s : Int) / 16777216 % 256)] 50)) = W at *
    generalize w3.heap.size = b at *
    have hlW : b < W.drew.heap.size := blk_lt HG4.out
    obtain ⟨i0, hi0, hz0, hz1, hz2⟩ := info_parts info_u8'
    have hwl := wrap_len l0.length (by omega)
    have HP := Aside0.mk (put_small l0.length (by omega))
    have hpl := putL_len 9 (l0.length : Int)
    go_region_held3 (fun _ => True) (exact trivial) (first
      | (go_at_call 24; refine (lebPut_calls _ _ W.drew HP.out).mono ?_; rintro e w5 ⟨v5, rfl, hr5, hb5⟩; have HR5 := Aside0.mk hr5; have HC5 := Aside0.mk (Kd.C_below HC4.out hb5); have HB5 := Aside0.mk hb5; clear hr5 hb5)
      | (refine bytes_step (W := w5) W.drew.heap.size (by simp [Region.wanted]) (.tmp 11) (.tmp 12) 22 22 5 5 i0 rfl Try.underlying22 Try.underlying22 hi0 hz0 hz1 hz2 v5 (putL 9 (l0.length : Int)) l0 A0 l0.length c0 rfl rfl HR5.out HC5.out HB5.out.size (by omega) ?_; intro v6 w6 ho6 hg6 hn6; have HR6 := Aside0.mk ho6; have HB6 := Aside0.mk (HB5.out.grown hg6 HB5.out.size (Kd.R_base HR5.out)); clear ho6 hg6 hn6)
      | (refine bytes_step (W := w6) W.drew.heap.size (by simp [Region.wanted]) (.tmp 13) (.tmp 14) 22 22 5 5 i0 rfl Try.underlying22 Try.underlying22 hi0 hz0 hz1 hz2 v6 (putL 9 (l0.length : Int) ++ l0) (le4 s) (some ⟨b, 0, none⟩) 4 4 rfl rfl HR6.out (sum4_reads s ((HB6.out.block b hlW).trans HG4.out)) HB6.out.size (by simp only [List.length_append]; omega) ?_; intro v7 w7 ho7 hg7 hn7; have HR7 := Aside0.mk ho7; have HB7 := Aside0.mk (HB6.out.grown hg7 HB6.out.size (Kd.R_base HR6.out)); clear ho7 hg7 hn7))
    go_wp2
    go_ret
    have h7 := HR7.out
    rw [HQ.out] at h7
    exact ⟨_, rfl, Kd.R_lower h7 HB4.out.size, below_step HB4.out HB7.out⟩
  · cases hq
end Go.Proofs.Ytknkoeahcemmmaa.Hand
