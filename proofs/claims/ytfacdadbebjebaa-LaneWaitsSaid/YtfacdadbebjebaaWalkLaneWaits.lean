/- A request that is out is sent again at the latest every eighth tick: the call returns true whatever the input. No condition. -/
import Derived.Test.YtfacdadbebjebaaPLaneWaitsx3
import Derived.Test.YtfacdadbebjebaaOpens
import Derived.Lib.Hide
import Derived.Lib.SmallJoins
import Derived.Test.YtfacdadbebjebaaBlk
namespace Go.Proofs.Ytfacdadbebjebaa.laneWaits
set_option linter.unusedVariables false
set_option linter.unusedSimpArgs false
open Go.RowKit Go.Blk Go.Joins Go.Sees Go.Proofs.Ytfacdadbebjebaa.PLaneWaits Go.Proofs.Ytfacdadbebjebaa.Opens Go.Proofs.YtfacdadbebjebaaW.PrintWords

theorem alive_true : lamellalaw08_alive.f 3 = some true := by
  simp [lamellalaw08_alive.f, lane_Ask.f, lane_Tick.f, lane_Hear.f, lane_Hear.j0, lane_Judge.f, lane_Judge.j0, lane_Judge.j1, lane_Done.f, mn, mx]
theorem alive_calls (w : World) : Calls Try.prog 8 #[] w fun e w' => e = .returned (.bool true) ∧ Below w.heap.size w w' :=
  lamellalaw08_alive.calls 3 true w alive_true
theorem bcell {W w1 : World} (hb : Below W.heap.size W w1) : (∀ b o, b < W.heap.size → w1.cell? ⟨b, o, none⟩ = W.cell? ⟨b, o, none⟩) ∧ (∀ b o, b < W.heap.size → w1.frozen? ⟨b, o, none⟩ = W.frozen? ⟨b, o, none⟩) :=
  ⟨fun b o h => hb.cell (p := ⟨b, o, none⟩) h, fun b o h => hb.frozen (p := ⟨b, o, none⟩) h⟩


def Gap (m : Int) : Int := mn (2 * (mn (mx m 1) 8)) 8
theorem gap_bd (m : Int) : 2 ≤ Gap m ∧ Gap m ≤ 8 := by unfold Gap mn mx; omega
theorem tick_on (l b q : Int) (s : ByteArray) (x y : Int) (h : 1 < x) (h2 : x ≤ 8) : lane_Tick.f l b q true s x y = some (l, b, q, true, s, x - 1, y, false) := by
  unfold lane_Tick.f
  rw [if_pos rfl, if_pos h, show wrap64 (x - 1) = x - 1 by unfold wrap64; omega]
theorem tick_again (l b q : Int) (s : ByteArray) (x y : Int) (h : ¬ x > 1) : lane_Tick.f l b q true s x y = some (l, b, q, true, s, Gap y, Gap y, true) := by
  unfold lane_Tick.f
  rw [if_pos rfl, if_neg h]; rfl

set_option maxHeartbeats 1000000 in
theorem waits (l b q : Int) (s : ByteArray) (x y n : Int) (hn : 0 ≤ n ∧ n ≤ 255) (hq : ¬ q = 4294967295) (w : World) :
    Calls Try.prog 6 #[.agg #[.int .u32 l, .int .u32 b, .int .u32 q, .bool false, .string s, .int .i64 x, .int .i64 y], .int .u8 n] w fun e w' => e = .returned (.bool true) ∧ Below w.heap.size w w' := by
  have hask := fun W => lane_Ask.calls l b q false s x y ⟨#[98, 111, 100, 121]⟩ l b ((q + 1) % 4294967296) true ⟨#[98, 111, 100, 121]⟩ 1 1 0 W (by simp [lane_Ask.f, hq])
  generalize (q + 1) % 4294967296 = q1 at hask
  have HASK := Lib.hid hask
  clear hask
  have HQ := Lib.hid hq
  clear hq
  go_enter Try.func6, Try.ntmps6
  go_wp2_with (first | (go_at_call 8; refine (alive_calls _).mono ?_; rintro e w1 ⟨rfl, hb⟩; have HB1 := Lib.hid hb; obtain ⟨hc, hf⟩ := bcell hb; clear hb) | (go_at_call 15; refine (HASK.out _).mono ?_; rintro e w2 ⟨rfl, hb2⟩; have HB2 := Lib.hid hb2; clear hb2))
  clear hc hf
  have HW : Hid (Below w.heap.size w w2) := Lib.hid (((below_alloc1 w _).trans (HB1.out.mono (by simp))).trans (HB2.out.mono (by have := HB1.out.size; simp at this; omega)))
  have hz : w.heap.size ≤ w2.heap.size := HW.out.size
  clear HB1 HB2
  go_loopw [7, 8] (fun u v wr => ∃ i quiet left gap : Int, u = .int .i64 quiet ∧ v = .int .i64 i ∧ 0 ≤ i ∧ i ≤ n ∧ 0 ≤ quiet ∧ 1 ≤ left ∧ quiet + left ≤ 8 ∧
      wr.heap[w2.heap.size]? = some (.cells #[.int .u32 l, .int .u32 b, .int .u32 q1, .bool true, .string ⟨#[98, 111, 100, 121]⟩, .int .i64 left, .int .i64 gap] 30 (0, 0)) ∧ Below w.heap.size w wr) (fun _ v _ => (n - intOf v).toNat)
  case atStart => exact ⟨0, 0, 1, 1, rfl, rfl, by omega, by omega, by omega, by omega, by omega, alloc_at _ _, HW.out.alloc hz _⟩
  case round =>
    obtain ⟨i, quiet, left, gap, rfl, rfl, hi0, hi1, hq0, hl1, hql, hblk, hB⟩ := hrel
    have c := blk7 hblk
    have HK := Lib.hid hblk
    have HB := Lib.hid hB
    clear hblk hB
    by_cases hlt : i < n
    · by_cases ht : 1 < left
      · have HT := Lib.hid (fun W => lane_Tick.calls _ _ _ _ _ _ _ _ _ _ _ _ _ _ _ W (tick_on l b q1 ⟨#[98, 111, 100, 121]⟩ left gap ht (by omega)))
        go_wp2_with (go_at_call 16; refine (HT.out _).mono ?_; rintro e w3 ⟨rfl, hb3⟩; have HK3 := Lib.hid (below_old HK.out hb3); have HB3 := Lib.hid ((HB.out).trans (hb3.mono HB.out.size)); clear c; have c := blk7 HK3.out; have hz3 := lt_of HK3.out; clear hb3)
        go_roundw
        case rel =>
          refine ⟨i + 1, quiet + 1, left - 1, gap, rfl, rfl, by omega, by omega, by omega, by omega, by omega, ?_, ?_⟩
          · exact alloc_old (put7 HK3.out) _
          · exact (((((((HB3.out.setCell hz _).setCell hz _).setCell hz _).setCell hz _).setCell hz _).setCell hz _).setCell hz _).alloc (by simp; omega) _
        case measure => simp [intOf]; omega
      · have hg := gap_bd gap
        generalize hG : Gap gap = G at hg
        have HT := Lib.hid (fun W => lane_Tick.calls _ _ _ _ _ _ _ _ _ _ _ _ _ _ _ W (tick_again l b q1 ⟨#[98, 111, 100, 121]⟩ left gap (by omega)))
        rw [hG] at HT
        clear hG
        go_wp2_with (go_at_call 16; refine (HT.out _).mono ?_; rintro e w3 ⟨rfl, hb3⟩; have HK3 := Lib.hid (below_old HK.out hb3); have HB3 := Lib.hid ((HB.out).trans (hb3.mono HB.out.size)); clear c; have c := blk7 HK3.out; have hz3 := lt_of HK3.out; clear hb3)
        go_roundw
        case rel =>
          refine ⟨i + 1, 0, G, G, rfl, rfl, by omega, by omega, by omega, by omega, by omega, ?_, ?_⟩
          · exact alloc_old (put7 HK3.out) _
          · exact (((((((HB3.out.setCell hz _).setCell hz _).setCell hz _).setCell hz _).setCell hz _).setCell hz _).setCell hz _).alloc (by simp; omega) _
        case measure => simp [intOf]; omega
    · go_wp2_with (go_at_call 8; refine (alive_calls _).mono ?_; rintro e w4 ⟨rfl, hb⟩; have HB4 := Lib.hid hb; clear hb)
      go_ret
      exact ⟨rfl, HB.out.trans (HB4.out.mono HB.out.size)⟩

set_option maxHeartbeats 1000000 in
theorem refused (l b q : Int) (o : Bool) (s : ByteArray) (x y n : Int) (hq : o = true ∨ q = 4294967295) (w : World) :
    Calls Try.prog 6 #[.agg #[.int .u32 l, .int .u32 b, .int .u32 q, .bool o, .string s, .int .i64 x, .int .i64 y], .int .u8 n] w fun e w' => e = .returned (.bool true) ∧ Below w.heap.size w w' := by
  obtain ⟨c, hc, hask⟩ : ∃ c : Int, (c != 0) = true ∧ ∀ W, Calls Try.prog 15 #[.agg #[.int .u32 l, .int .u32 b, .int .u32 q, .bool o, .string s, .int .i64 x, .int .i64 y], .string ⟨#[98, 111, 100, 121]⟩] W fun e w' =>
      e = .returned (.tuple #[.agg #[.int .u32 0, .int .u32 0, .int .u32 0, .bool false, .string ⟨#[]⟩, .int .i64 0, .int .i64 0], .int .i64 c]) ∧ Below W.heap.size W w' := by
    cases o with
    | true => exact ⟨21, by decide, fun W => lane_Ask.calls l b q true s x y ⟨#[98, 111, 100, 121]⟩ 0 0 0 false ⟨#[]⟩ 0 0 21 W (by simp [lane_Ask.f])⟩
    | false =>
      have hq2 : q = 4294967295 := by simpa using hq
      exact ⟨16, by decide, fun W => lane_Ask.calls l b q false s x y ⟨#[98, 111, 100, 121]⟩ 0 0 0 false ⟨#[]⟩ 0 0 16 W (by simp [lane_Ask.f, hq2])⟩
  clear hq
  have HASK := Lib.hid hask
  clear hask
  go_enter Try.func6, Try.ntmps6
  go_wp2_with (first | (go_at_call 8; refine (alive_calls _).mono ?_; rintro e w1 ⟨rfl, hb⟩; have HB1 := Lib.hid hb; obtain ⟨hk, hf⟩ := bcell hb; clear hb) | (go_at_call 15; clear hk hf; refine (HASK.out _).mono ?_; rintro e w2 ⟨rfl, hb2⟩; have HW : Hid (Below w.heap.size w w2) := Lib.hid (((below_alloc1 w _).trans (HB1.out.mono (by simp))).trans (hb2.mono (by have := HB1.out.size; simp at this; omega))); clear HB1 hb2))
  go_ret
  have hz := HW.out.size
  exact ⟨rfl, (HW.out.alloc hz _).trans (HB1.out.mono (by simp; omega))⟩

theorem laneWaits_walk (a0 : Array Value) (a1 : Int) (w : World) (w0 : Sees Try.prog w 140737488351232 5 30 a0.toList) (w1 : (Lit.int .u8 a1).wf = true) :
    Calls Try.prog 6 #[.agg a0, .int .u8 a1] w fun e w' => e = .returned (.bool true) ∧ Below w.heap.size w w' := by
  obtain ⟨l, b, q, o, s, x, y, rfl, -⟩ := openA30 (k := 3) w0
  by_cases h : o = true ∨ q = 4294967295
  · exact refused l b q o s x y a1 h w
  · obtain rfl : o = false := by cases o <;> simp_all
    exact waits l b q s x y a1 (bounds_u8 w1) (fun e => h (.inr e)) w
end Go.Proofs.Ytfacdadbebjebaa.laneWaits
