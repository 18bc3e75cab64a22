/- Layer xdr: what every right program answers. -/
import Derived.Test.YtjmdjikjelhbmaaDoorXdrB
namespace Go.Proofs.YtjmdjikjelhbmaaDoor.Xdr
open Go.RowKit Go.Own Go.XdrL Go.Blk Go.OpsL Go.Proofs.YtjmdjikjelhbmaaDoorW.PrintLast Go.Proofs.YtjmdjikjelhbmaaDoorW.PrintWords
set_option linter.unusedVariables false
set_option linter.unusedSimpArgs false
variable {w w' : World} {p : Nat} {r : Rd}
def abc : ByteArray := ⟨#[97, 98, 99, 100, 101]⟩
def liv : ByteArray := ByteArray.empty ++ text4 abc ++ list4 [1, 2]
theorem liv_eq : liv = ⟨#[0, 0, 0, 5, 97, 98, 99, 100, 101, 0, 0, 0, 0, 0, 0, 2, 0, 0, 0, 1, 0, 0, 0, 2]⟩ := by kernel_rfl
def liv1 : Rd := ((⟨liv, 0⟩ : Rd).text 9).2
theorem liv_text : ((⟨liv, 0⟩ : Rd).text 9).1 = abc := by kernel_rfl
theorem liv_list : (liv1.list 9) = ([1, 2], ⟨ByteArray.empty, 0⟩) := by kernel_rfl
theorem run_two32 (w : World) (a b : Int) : (Instr.buildSlice 37 2 #[(0, .int .u32 a), (1, .int .u32 b)]).run Tryd.prog w = .ok (.slice (some ⟨w.heap.size, 0, none⟩) 2 2) (w.alloc (.cells #[.int .u32 a, .int .u32 b] 29)) := by kernel_rfl
/-- Two numbers in a block of their own. -/
theorem two_at {w : World} {g : Nat} {a b : Nat} (h : w.heap[g]? = some (.cells #[.int .u32 (a : Int), .int .u32 (b : Int)] 29 (0, 0))) : U32s w (some ⟨g, 0, none⟩) [a, b] := fun i hi => by
  refine ⟨g, 0, rfl, lt_of h, fun j u hu => ?_⟩
  rw [cell_at h]
  have hi' : i < 2 := hi
  have hj : j = 0 := by
    cases j with
    | zero => rfl
    | succ j => simp at hu
  subst hj
  rcases (show i = 0 ∨ i = 1 by omega) with rfl | rfl <;> simpa using hu
set_option maxHeartbeats 4000000 in
theorem alive_calls (w : World) : Calls Tryd.prog 10 #[] w fun e w' => e = .returned (.bool true) ∧ Below w.heap.size w w' := by
  have HN := Lib.hid (new_writer w)
  go_enter Tryd.func10, Tryd.ntmps10
  go_wp2_with (go_at_call 35; refine stop_here ?_)
  refine Lib.hid ?_
  have HB0 := Lib.hid (Fr.alloc (fun _ => False) w (.cells #[.slice none 0 0] 26))
  have HG := Lib.hid (rfl : w.heap.size = w.heap.size)
  refine (text_any HN.out abc (by decide) (by decide) rfl).mono ?_
  rintro e w1 ⟨rfl, h1, h2⟩
  have H1 := Lib.hid h1
  have H2 := Lib.hid h2
  clear h1 h2 HG
  go_wp2_with (go_at_call 36; refine stop_here ?_)
  refine Lib.hid ?_
  have HA := Lib.hid (Fr.alloc (fun _ => False) w1 (.cells #[.int .u32 1, .int .u32 2] 29))
  have H3 := Lib.hid (H1.out.keep HA.out (fun _ _ => id))
  refine (list_any H3.out (some ⟨w1.heap.size, 0, none⟩) [1, 2] 2 2 rfl (two_at (alloc_at w1 _)) (fun _ q hq hF => by
    have := H1.out.lt _ hF
    simp only [Option.some.injEq] at hq
    rw [← hq] at this
    exact Nat.lt_irrefl _ this) (by simp) (by decide)).mono ?_
  rintro e w2 ⟨rfl, h4, h5⟩
  have h3 := HA.out.size
  have h6 : WB w.heap.size w.heap.size w w2 liv := by
    refine ⟨_, h4, fun k hk => ?_, ?_⟩
    · have h1 := H2.out.size
      have h0 := HB0.out.size
      rcases hk with ((hk | hk) | hk)
      · exact Nat.le_of_eq hk.symm
      · omega
      · omega
    · have h1 := H2.out.size
      have h0 := HB0.out.size
      refine below_fr (below_fr (below_fr (below_fr (Below.refl _ _) (fun k hk => hk.elim) HB0.out (Nat.le_refl _)) (fun k hk => Nat.le_of_eq hk.symm) H2.out h0) (fun k hk => hk.elim) HA.out (by omega)) (fun k hk => ?_) h5 (by omega)
      rcases hk with hk | hk
      · exact Nat.le_of_eq hk.symm
      · omega
  clear h4 h5 h3
  have H6 := Lib.hid h6
  clear h6 HB0 H1 H2 H3 HN HA
  have HLT := Lib.hid liv_text
  have HLL := Lib.hid liv_list
  go_wp2_with (first | (go_at_call 13; refine H6.out.bytes.mono ?_; rintro e w3 ⟨rfl, rfl⟩) | (go_at_call 18; refine stop_here ?_))
  refine Lib.hid ?_
  refine (PB.new (Nat.le_refl _) H6.out liv (by rw [liv_eq]; decide)).mono ?_
  rintro e w3 ⟨rfl, h7⟩
  have H7 := Lib.hid h7
  clear h7 H6
  have HN7 := Lib.hid (Nat.le_refl w.heap.size)
  go_wp2_with fail
  refine (PB.read HN7.out H7.out (text_reads H7.out.rat 9)).mono ?_
  rintro e w4 ⟨rfl, h8⟩
  rw [show ((⟨liv, 0⟩ : Rd).text 9).2 = liv1 from rfl] at h8
  rw [HLT.out, show abc = ⟨#[97, 98, 99, 100, 101]⟩ from rfl]
  have H8 := Lib.hid h8
  clear h8 H7
  go_wp2_with fail
  refine (PB.read HN7.out H8.out (list_reads H8.out.rat 9)).mono ?_
  rintro e w5 ⟨⟨v, rfl, ho⟩, h9⟩
  rw [HLL.out] at h9 ho
  obtain ⟨A, cap, rfl, _, _⟩ := row_form ho
  have H9 := Lib.hid h9
  clear h9 ho H8
  have hl : liv = ⟨#[0, 0, 0, 5, 97, 98, 99, 100, 101, 0, 0, 0, 0, 0, 0, 2, 0, 0, 0, 1, 0, 0, 0, 2]⟩ := liv_eq
  have HL := Lib.hid hl
  clear hl
  go_wp2_with fail
  refine H9.out.bytes.mono ?_
  rintro e w6 ⟨rfl, rfl⟩
  rw [HL.out]
  go_wp2_with fail
  refine (PB.read HN7.out H9.out (end_reads H9.out.rat)).mono ?_
  rintro e w6 ⟨rfl, h10⟩
  rw [show (⟨ByteArray.empty, 0⟩ : Rd).end_ = ⟨ByteArray.empty, 0⟩ from rfl] at h10 ⊢
  have H10 := Lib.hid h10
  clear h10 H9
  go_wp2_with fail
  go_ret
  exact ⟨rfl, H10.out.out⟩
end Go.Proofs.YtjmdjikjelhbmaaDoor.Xdr
