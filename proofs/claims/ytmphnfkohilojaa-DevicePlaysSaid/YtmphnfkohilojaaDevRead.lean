/- Layer device: reading. -/
import Derived.Test.YtmphnfkohilojaaDevAt
namespace Go.Proofs.Ytmphnfkohilojaa.Dev
open Go.RowKit Go.Own Go.DevL Go.Blk
set_option linter.unusedVariables false
variable {F : Nat → Prop} {w w' : World} {p gf gn : Nat} {vl : Value} {d : Dv}
def readE (d : Dv) (i : Int) : Ending := .returned (.tuple #[.string (d.read i).1, .int .i64 (d.read i).2])
set_option maxHeartbeats 400000 in
theorem read_calls (h : At F w p gf gn vl d) (i : Int) : Calls Try.prog 14 #[.pointer (some ⟨p, 0, none⟩), .int .i64 i] w fun e w' => e = readE d i ∧ w = w' := by
  have hx := blk5 h.hp
  have H := Lib.hid h
  clear h
  obtain ⟨x0, y0, x1, y1, x2, y2, x3, y3, x4, y4⟩ := hx
  by_cases hb : d.bad i = true
  · have hE : readE d i = .returned (.tuple #[.string ByteArray.empty, .int .i64 1]) := by unfold readE Dv.read; rw [if_pos hb]
    rw [hE]
    have hn2 := H.out.ok.n2
    have HB := Lib.hid hb
    clear hb hE
    go_enter Try.func14, Try.ntmps14
    by_cases h0 : i < 0
    · go_wp2
      go_ret2
      exact ⟨rfl, rfl⟩
    · have h1 : (d.firm.length : Int) ≤ i := by
        have := HB.out
        simp only [Dv.bad, Bool.or_eq_true, decide_eq_true_eq] at this
        omega
      go_wp2
      go_ret2
      exact ⟨rfl, rfl⟩
  · have hb' : d.bad i = false := by simpa using hb
    obtain ⟨h0, h1⟩ := Dv.bad_false hb'
    obtain ⟨k, rfl⟩ := Int.eq_ofNat_of_zero_le h0
    have hk : k < d.firm.length := by omega
    by_cases hdd : d.dead = true
    · have hE : readE d k = .returned (.tuple #[.string ByteArray.empty, .int .i64 5]) := by unfold readE Dv.read; rw [if_neg hb, if_pos hdd]
      rw [hE]
      have hn2 := H.out.ok.n2
      clear hb hE hb'
      go_enter Try.func14, Try.ntmps14
      go_wp2
      go_ret2
      exact ⟨rfl, rfl⟩
    · have hE : readE d k = .returned (.tuple #[.string (d.now.getD k ByteArray.empty), .int .i64 0]) := by unfold readE Dv.read; rw [if_neg hb, if_neg hdd]; rfl
      rw [hE]
      have hd : d.dead = false := by simpa using hdd
      have hn2 := H.out.ok.n2
      have HC := run_convert_row (P := Try.prog) w 64 5 9 Try.underlying64 Try.underlying5 Try.underlying9 gn _ d.now 256 H.out.ok.now_size H.out.hn k (by rw [H.out.ok.now_length]; exact hk) 256
      clear hb hE hb' hdd
      go_enter Try.func14, Try.ntmps14
      go_wp2
      go_ret2
      exact ⟨rfl, rfl⟩
set_option maxHeartbeats 400000 in
theorem settled_calls (h : At F w p gf gn vl d) (i : Int) : Calls Try.prog 19 #[.pointer (some ⟨p, 0, none⟩), .int .i64 i] w fun e w' => e = .returned (.string (d.settled i)) ∧ w = w' := by
  have hx := blk5 h.hp
  have H := Lib.hid h
  clear h
  obtain ⟨x0, y0, x1, y1, x2, y2, x3, y3, x4, y4⟩ := hx
  by_cases hb : d.bad i = true
  · have hE : d.settled i = ByteArray.empty := by unfold Dv.settled; rw [if_pos hb]
    rw [hE]
    have hn2 := H.out.ok.n2
    have HB := Lib.hid hb
    clear hb hE
    go_enter Try.func19, Try.ntmps19
    by_cases h0 : i < 0
    · go_wp2
      go_ret
      exact ⟨rfl, rfl⟩
    · have h1 : (d.firm.length : Int) ≤ i := by
        have := HB.out
        simp only [Dv.bad, Bool.or_eq_true, decide_eq_true_eq] at this
        omega
      go_wp2
      go_ret
      exact ⟨rfl, rfl⟩
  · have hb' : d.bad i = false := by simpa using hb
    obtain ⟨h0, h1⟩ := Dv.bad_false hb'
    obtain ⟨k, rfl⟩ := Int.eq_ofNat_of_zero_le h0
    have hk : k < d.firm.length := by omega
    have hE : d.settled k = d.firm.getD k ByteArray.empty := by unfold Dv.settled; rw [if_neg hb]; rfl
    rw [hE]
    have hn2 := H.out.ok.n2
    have HC := run_convert_row (P := Try.prog) w 64 5 9 Try.underlying64 Try.underlying5 Try.underlying9 gf _ d.firm 256 H.out.ok.sz H.out.hf k hk 256
    clear hb hE hb'
    go_enter Try.func19, Try.ntmps19
    go_wp2
    go_ret
    refine ⟨?_, rfl⟩
    show Ending.returned (.string d.firm[k]) = _
    simp [List.getD, List.getElem?_eq_getElem hk]
end Go.Proofs.Ytmphnfkohilojaa.Dev
