/- Layer wal: Commit in one contract; no log. Layer wal: what the printed functions answer: Right, right, same, after, whole. Layer wal: a device of the law's own beside other blocks; logs over it; the printed functions over such rows. Layer wal: all data of a log. -/
import Derived.Test.YtmdojgkgohmghaaWalF
import Derived.Test.YtmdojgkgohmghaaP04x2
namespace Go.Proofs.Ytmdojgkgohmghaa.Wal
open Go.RowKit Go.Own Go.Blk Go.DevL Go.XdrL Go.WalL Go.OpsL Go.Proofs.Ytmdojgkgohmghaa.P04 Go.Proofs.Ytmdojgkgohmghaa.Xdr Go.Proofs.YtmdojgkgohmghaaW.PrintLast Go.Proofs.YtmdojgkgohmghaaW.PrintWords
open Go.Proofs.Ytmdojgkgohmghaa.Dev hiding stop_here execOp_build execOp_alloc execOp_store execOp_load execOp_buildSlice execOp_makeSlice execOp_box execOp_copy execOp_append wpList_val wpList_none Up
set_option linter.unusedVariables false
set_option linter.unusedSimpArgs false
set_option maxRecDepth 100000
variable {F : Nat → Prop} {w w' wr wr' : World} {p q : Nat} {d d' d'' : Dv} {last c : Nat} {dead : Bool} {v v' : Value} {l : List ByteArray} {b : List (Int × ByteArray)} {e : Int}
theorem commitPost_same (h : LAt w q p last dead) (hd : Dev F w p d) (hqF : ¬ F q) (hb : Below w.heap.size w w') {c : Int} : commitPost F w w' p q (c, d, last, dead) (.returned (.int .i64 c)) :=
  ⟨rfl, ⟨F, hd.below hb, fun k hk => .inl hk, hqF⟩, h.below hb, Fr.of_below hb⟩
set_option maxHeartbeats 4000000 in
theorem commit_calls (h : LAt w q p last dead) (hd : Dev F w p d) (hqF : ¬ F q) (A : Option Addr) (cap : Nat) (hA : ArrAt w A ncells 2 b) (hAF : 0 < b.length → ∀ a, A = some a → ¬ F a.block) (hbl : b.length ≤ 140737488355328) (hl : d.late.length ≤ 900000) :
    Calls Try.prog 12 #[.pointer (some ⟨q, 0, none⟩), .slice A b.length cap] w fun e w' => commitPost F w w' p q (commitL d last dead b) e := by
  have HRI := Lib.hid (right_calls h hd A cap hA hbl)
  by_cases hf : fit (sizeL d) b
  · rw [decide_eq_true hf] at HRI
    by_cases hdd : dead = true
    · subst hdd
      have e : commitL d last true b = (5, d, last, true) := by unfold commitL; rw [if_neg (not_not_intro hf), if_pos rfl]
      rw [e]
      have HP := Lib.hid (fun W (hb : Below w.heap.size w W) => commitPost_same h hd hqF hb (c := 5))
      have HLQ := Lib.hid h
      clear h hd hqF hA hAF hf e
      go_enter Try.func12, Try.ntmps12
      go_wp2
      go_step3
      go_wp2_with fail
      refine HRI.out.mono ?_
      rintro e w1 ⟨rfl, hb⟩
      obtain ⟨x0, y0, x1, y1, x2, y2⟩ := blk3 (HLQ.out.below hb).1
      have HB := Lib.hid hb
      clear hb
      go_wp2
      try rw [Exit.noGoto_ret]
      go_ret
      exact HP.out _ HB.out
    · have hdd' : dead = false := by simpa using hdd
      subst hdd'
      by_cases hlm : last = 4294967295
      · have e : commitL d last false b = (16, d, last, false) := by unfold commitL; rw [if_neg (not_not_intro hf), if_neg (by simp), if_pos hlm]
        rw [e]
        have HP := Lib.hid (fun W (hb : Below w.heap.size w W) => commitPost_same h hd hqF hb (c := 16))
        have HLQ := Lib.hid h
        clear h hd hqF hA hAF hf e
        subst hlm
        go_enter Try.func12, Try.ntmps12
        go_wp2
        go_step3
        go_wp2_with fail
        refine HRI.out.mono ?_
        rintro e w1 ⟨rfl, hb⟩
        obtain ⟨x0, y0, x1, y1, x2, y2⟩ := blk3 (HLQ.out.below hb).1
        have HB := Lib.hid hb
        clear hb
        go_wp2
        try rw [Exit.noGoto_ret]
        go_ret
        exact HP.out _ HB.out
      · exact commit_goes h hd hqF A cap hA (hAF hf.1) hf hlm hl
  · rw [decide_eq_false hf] at HRI
    have e : commitL d last dead b = (1, d, last, dead) := by unfold commitL; rw [if_pos hf]
    rw [e]
    have HP := Lib.hid (fun W (hb : Below w.heap.size w W) => commitPost_same h hd hqF hb (c := 1))
    clear h hd hqF hA hAF hf e
    go_enter Try.func12, Try.ntmps12
    go_wp2
    go_step3
    go_wp2_with fail
    refine HRI.out.mono ?_
    rintro e w1 ⟨rfl, hb⟩
    have HB := Lib.hid hb
    clear hb
    go_wp2
    try rw [Exit.noGoto_ret]
    go_ret
    exact HP.out _ HB.out
/-! ### no log -/
end Go.Proofs.Ytmdojgkgohmghaa.Wal
namespace Go.Proofs.Ytmdojgkgohmghaa.Wal
open Go.RowKit Go.Own Go.Blk Go.DevL Go.XdrL Go.WalL Go.OpsL Go.Proofs.Ytmdojgkgohmghaa.P04 Go.Proofs.Ytmdojgkgohmghaa.Xdr Go.Proofs.YtmdojgkgohmghaaW.PrintLast Go.Proofs.YtmdojgkgohmghaaW.PrintWords
open Go.Proofs.Ytmdojgkgohmghaa.Dev hiding stop_here execOp_build execOp_alloc execOp_store execOp_load execOp_buildSlice execOp_makeSlice execOp_box execOp_copy execOp_append wpList_val wpList_none Up
set_option linter.unusedVariables false
set_option linter.unusedSimpArgs false
set_option maxRecDepth 100000
variable {w w' : World} {b : List (Int × ByteArray)} {l l' : List ByteArray}
def mk26 (x : Int × ByteArray) : S26 := ⟨x.1, x.2⟩
theorem rd26 (b : List (Int × ByteArray)) (i : Nat) (hi : i < b.length) : rd_T26 (b.map mk26) (i : Int) = mk26 b[i] := by
  unfold rd_T26
  rw [Int.toNat_natCast, List.getD_eq_getElem?_getD, List.getElem?_map, List.getElem?_eq_getElem hi]
  rfl
theorem wr1 {i : Nat} (h : i < 100000) : wrap64 ((i : Int) + 1) = ((i + 1 : Nat) : Int) := by unfold wrap64; omega
/-- Is block i of a commit good, seen from the blocks ahead of it? -/
def goodB (size : Int) (b : List (Int × ByteArray)) (i : Nat) : Prop := ∃ hi : i < b.length, ok1 size b[i] ∧ b[i].1 ∉ (b.take i).map (·.1)
open Classical in
theorem upto_all {size : Int} : ∀ n, n ≤ b.length → (∀ i, i < n → goodB size b i) → Upto size b n
  | 0, _, _ => Upto.begin _ _
  | n + 1, hn, h => by
    obtain ⟨hi, h1, h2⟩ := h n (by omega)
    exact (upto_all n (by omega) (fun i hi => h i (by omega))).next hi h1 h2
theorem fit_iff (size : Int) (b : List (Int × ByteArray)) : fit size b ↔ 1 ≤ b.length ∧ b.length ≤ 40 ∧ ∀ i, i < b.length → goodB size b i := by
  constructor
  · intro h
    refine ⟨h.1, h.2.1, fun i hi => ⟨hi, ?_, fun hm => fit_twice hi hm h⟩⟩
    by_cases hk : ok1 size b[i]
    · exact hk
    · exact absurd h (fit_bad hi hk)
  · rintro ⟨h1, h2, h3⟩
    exact (upto_all b.length (Nat.le_refl _) h3).fit h1 h2
theorem mem_take (b : List (Int × ByteArray)) (i : Nat) (a : Int) : a ∈ (b.take i).map (·.1) ↔ ∃ j, ∃ hj : j < b.length, j < i ∧ b[j].1 = a := by
  simp only [List.mem_map, List.mem_take_iff_getElem]
  constructor
  · rintro ⟨x, ⟨j, hj, rfl⟩, e⟩
    exact ⟨j, by omega, by omega, e⟩
  · rintro ⟨j, hj, hji, e⟩
    exact ⟨b[j], ⟨j, by omega, rfl⟩, e⟩
theorem rl1_no (size : Int) (n : Nat) (hn : n < b.length) (hb : b.length ≤ 40) (r : Bool) (hr : ∃ k, lamellaref04_Right.l0 k (b.map mk26) size ((n + 1 : Nat) : Int) = some r) :
    ∀ m i, i + m = n → (∀ j (hj : j < b.length), i ≤ j → j < n → b[j].1 ≠ b[n].1) → ∃ k, lamellaref04_Right.l1 k (b.map mk26) size (n : Int) (i : Int) = some r
  | 0, i, hi, h => by
    obtain ⟨k, hk⟩ := hr
    refine ⟨k + 1, ?_⟩
    rw [lamellaref04_Right.l1, if_neg (by omega), wr1 (by omega)]
    exact hk
  | m + 1, i, hi, h => by
    obtain ⟨k, hk⟩ := rl1_no size n hn hb r hr m (i + 1) (by omega) (fun j hj h1 h2 => h j hj (by omega) h2)
    refine ⟨k + 1, ?_⟩
    rw [lamellaref04_Right.l1, if_pos (by omega), if_pos (by omega), if_pos (by rw [List.length_map]; omega), if_pos (by omega), if_pos (by rw [List.length_map]; omega), rd26 b i (by omega), rd26 b n hn, if_neg (show ¬ (mk26 b[i]).f0 = (mk26 b[n]).f0 from h i (by omega) (Nat.le_refl _) (by omega)), wr1 (by omega)]
    exact hk
theorem rl1_yes (size : Int) (n : Nat) (hn : n < b.length) (hb : b.length ≤ 40) :
    ∀ m i, i + m = n → (∃ j, ∃ hj : j < b.length, i ≤ j ∧ j < n ∧ b[j].1 = b[n].1) → ∃ k, lamellaref04_Right.l1 k (b.map mk26) size (n : Int) (i : Int) = some false
  | 0, i, hi, ⟨j, hj, h1, h2, _⟩ => by omega
  | m + 1, i, hi, ⟨j, hj, h1, h2, h3⟩ => by
    by_cases he : b[i].1 = b[n].1
    · refine ⟨1, ?_⟩
      rw [lamellaref04_Right.l1, if_pos (by omega), if_pos (by omega), if_pos (by rw [List.length_map]; omega), if_pos (by omega), if_pos (by rw [List.length_map]; omega), rd26 b i (by omega), rd26 b n hn, if_pos (show (mk26 b[i]).f0 = (mk26 b[n]).f0 from he)]
    · obtain ⟨k, hk⟩ := rl1_yes size n hn hb m (i + 1) (by omega) ⟨j, hj, by
        have : i ≠ j := fun e => he (by subst e; exact h3)
        omega, h2, h3⟩
      refine ⟨k + 1, ?_⟩
      rw [lamellaref04_Right.l1, if_pos (by omega), if_pos (by omega), if_pos (by rw [List.length_map]; omega), if_pos (by omega), if_pos (by rw [List.length_map]; omega), rd26 b i (by omega), rd26 b n hn, if_neg (show ¬ (mk26 b[i]).f0 = (mk26 b[n]).f0 from he), wr1 (by omega)]
      exact hk
theorem rl0_bad (size : Int) (n : Nat) (hn : n < b.length) (h : ¬ ok1 size b[n]) : ∃ k, lamellaref04_Right.l0 k (b.map mk26) size (n : Int) = some false := by
  refine ⟨2, ?_⟩
  have h2 : ∀ x, lamellaref04_Right.j2 1 (b.map mk26) size (n : Int) x = if x = true then some false else lamellaref04_Right.l1 0 (b.map mk26) size (n : Int) 0 := fun x => by rw [lamellaref04_Right.j2]
  rw [lamellaref04_Right.l0, if_pos (by rw [List.length_map]; omega), if_pos (by omega), rd26 b n hn]
  simp only [h2]
  show (if b[n].1 < 0 then _ else if b[n].1 ≥ size then _ else _) = _
  unfold ok1 at h
  by_cases h1 : b[n].1 < 0
  · rw [if_pos h1, if_pos trivial]
  · rw [if_neg h1]
    by_cases h3 : b[n].1 ≥ size
    · rw [if_pos h3, if_pos trivial]
    · rw [if_neg h3, if_pos (by
        rw [decide_eq_true_iff]
        show ((b[n].2.size : Int) > 248)
        by_cases h4 : b[n].2.size ≤ 248
        · exact absurd ⟨by omega, by omega, h4⟩ h
        · omega)]
theorem rl0_ok (size : Int) (n : Nat) (hn : n < b.length) (h : ok1 size b[n]) {r : Bool} (hr : ∃ k, lamellaref04_Right.l1 k (b.map mk26) size (n : Int) 0 = some r) : ∃ k, lamellaref04_Right.l0 k (b.map mk26) size (n : Int) = some r := by
  obtain ⟨k, hk⟩ := hr
  refine ⟨k + 2, ?_⟩
  obtain ⟨h1, h2, h3⟩ := h
  rw [lamellaref04_Right.l0, if_pos (by rw [List.length_map]; omega), if_pos (by omega), rd26 b n hn, if_neg (show ¬ (mk26 b[n]).f0 < 0 by show ¬ b[n].1 < 0; omega), if_neg (show ¬ (mk26 b[n]).f0 ≥ size by show ¬ b[n].1 ≥ size; omega), lamellaref04_Right.j2,
    if_neg (by rw [decide_eq_true_iff]; show ¬ ((b[n].2.size : Int) > 248); omega)]
  exact hk
theorem rl0_run (size : Int) (hb : b.length ≤ 40) : ∀ m n, n + m = b.length → ((∀ i, n ≤ i → i < b.length → goodB size b i) → ∃ k, lamellaref04_Right.l0 k (b.map mk26) size (n : Int) = some true) ∧ ((∃ i, n ≤ i ∧ i < b.length ∧ ¬ goodB size b i) → ∃ k, lamellaref04_Right.l0 k (b.map mk26) size (n : Int) = some false)
  | 0, n, hn => by
    refine ⟨fun _ => ⟨1, ?_⟩, fun ⟨i, h1, h2, _⟩ => by omega⟩
    rw [lamellaref04_Right.l0, if_neg (by rw [List.length_map]; omega)]
  | m + 1, n, hn => by
    have ih := rl0_run size hb m (n + 1) (by omega)
    have hnl : n < b.length := by omega
    have step : ∀ r, goodB size b n → (∃ k, lamellaref04_Right.l0 k (b.map mk26) size ((n + 1 : Nat) : Int) = some r) → ∃ k, lamellaref04_Right.l0 k (b.map mk26) size (n : Int) = some r := fun r ⟨_, h1, h2⟩ hr =>
      rl0_ok size n hnl h1 (rl1_no size n hnl hb r hr n 0 (by omega) (fun j hj _ hjn e => h2 ((mem_take b n _).2 ⟨j, hj, hjn, e⟩)))
    refine ⟨fun h => step true (h n (Nat.le_refl _) hnl) (ih.1 (fun i h1 h2 => h i (by omega) h2)), fun ⟨i, h1, h2, h3⟩ => ?_⟩
    by_cases hg : goodB size b n
    · exact step false hg (ih.2 ⟨i, by
        have : i ≠ n := fun e => h3 (e ▸ hg)
        omega, h2, h3⟩)
    · by_cases hk : ok1 size b[n]
      · refine rl0_ok size n hnl hk (rl1_yes size n hnl hb n 0 (by omega) ?_)
        have hm : b[n].1 ∈ (b.take n).map (·.1) := by
          by_cases h4 : b[n].1 ∈ (b.take n).map (·.1)
          · exact h4
          · exact absurd ⟨hnl, hk, h4⟩ hg
        obtain ⟨j, hj, hjn, e⟩ := (mem_take b n _).1 hm
        exact ⟨j, hj, by omega, hjn, e⟩
      · exact rl0_bad size n hnl hk
theorem right_run (size : Int) (b : List (Int × ByteArray)) : ∃ k, lamellaref04_Right.f k (b.map mk26) size = some (decide (fit size b)) := by
  by_cases h1 : b.length < 1
  · refine ⟨1, ?_⟩
    rw [decide_eq_false (fun h => by have := h.1; omega), lamellaref04_Right.f, if_pos (by rw [List.length_map]; omega), lamellaref04_Right.j0, if_pos rfl]
  · by_cases h2 : 40 < b.length
    · refine ⟨1, ?_⟩
      rw [decide_eq_false (fun h => by have := h.2.1; omega), lamellaref04_Right.f, if_neg (by rw [List.length_map]; omega), lamellaref04_Right.j0, if_pos (by rw [decide_eq_true_iff, List.length_map]; omega)]
    · have hr := rl0_run size (b := b) (by omega) b.length 0 (by omega)
      have key : ∃ k, lamellaref04_Right.l0 k (b.map mk26) size ((0 : Nat) : Int) = some (decide (fit size b)) := by
        by_cases hf : fit size b
        · rw [decide_eq_true hf]
          exact hr.1 (fun i _ hi => ((fit_iff size b).1 hf).2.2 i hi)
        · rw [decide_eq_false hf]
          refine hr.2 ?_
          apply Classical.byContradiction
          intro hn
          exact hf ((fit_iff size b).2 ⟨by omega, by omega, fun i hi => Classical.byContradiction fun hg => hn ⟨i, by omega, hi, hg⟩⟩)
      obtain ⟨k, hk⟩ := key
      refine ⟨k + 1, ?_⟩
      rw [lamellaref04_Right.f, if_neg (by rw [List.length_map]; omega), lamellaref04_Right.j0, if_neg (by rw [decide_eq_true_iff, List.length_map]; omega)]
      exact hk
/-! ### same -/
/-! ### whole, after -/
def dat (s : ByteArray) : ByteArray := (s ++ zeros (256 - s.size)).extract 0 248
theorem zeros_one (n : Nat) : (⟨#[0]⟩ : ByteArray) ++ zeros n = zeros (n + 1) := by
  rw [show (⟨#[0]⟩ : ByteArray) = zeros 1 from rfl, zeros_add, Nat.add_comm]
theorem whole_run : ∀ m (s : ByteArray), s.size + m = 256 → lamellalaw04_whole.f (m + 1) s = some (s ++ zeros (256 - s.size))
  | 0, s, h => by
    unfold lamellalaw04_whole.f
    rw [lamellalaw04_whole.l0, if_neg (by omega), if_pos (by omega), if_pos (by omega)]
    rw [show 256 - s.size = 0 by omega, show zeros 0 = ByteArray.empty from rfl, ByteArray.append_empty]
    congr 1
    apply ByteArray.ext
    rw [ByteArray.data_extract]
    have : s.data.size = 256 := by have h1 : s.data.size = s.size := rfl; omega
    simp [this]
  | m + 1, s, h => by
    have hs : (s ++ (⟨#[0]⟩ : ByteArray)).size = s.size + 1 := by rw [ByteArray.size_append]; rfl
    have ih := whole_run m (s ++ (⟨#[0]⟩ : ByteArray)) (by omega)
    unfold lamellalaw04_whole.f at ih ⊢
    rw [lamellalaw04_whole.l0, if_pos (by omega), if_pos (by omega), ih, hs, ByteArray.append_assoc, zeros_one]
    rw [show 256 - (s.size + 1) + 1 = 256 - s.size by omega]
theorem whole_big (s : ByteArray) (h : 256 ≤ s.size) : lamellalaw04_whole.f 1 s = some (s.extract 0 256) := by
  unfold lamellalaw04_whole.f
  rw [lamellalaw04_whole.l0, if_neg (by omega), if_pos (by omega), if_pos (by omega)]
/-- The bytes of a raw block. -/
def wholeR (s : ByteArray) : ByteArray := if s.size < 256 then s ++ zeros (256 - s.size) else s.extract 0 256
theorem whole_any (s : ByteArray) : ∃ k, lamellalaw04_whole.f k s = some (wholeR s) := by
  unfold wholeR
  by_cases h : s.size < 256
  · rw [if_pos h]; exact ⟨_, whole_run (256 - s.size) s (by omega)⟩
  · rw [if_neg h]; exact ⟨1, whole_big s (by omega)⟩
def afterL (l : List ByteArray) (b : List (Int × ByteArray)) : List ByteArray := b.foldl (fun l x => l.set x.1.toNat (dat x.2)) l
end Go.Proofs.Ytmdojgkgohmghaa.Wal
namespace Go.Proofs.Ytmdojgkgohmghaa.Wal
open Go.RowKit Go.Own Go.Blk Go.DevL Go.XdrL Go.WalL Go.OpsL Go.Proofs.Ytmdojgkgohmghaa.P04 Go.Proofs.Ytmdojgkgohmghaa.Xdr Go.Proofs.YtmdojgkgohmghaaW.PrintLast Go.Proofs.YtmdojgkgohmghaaW.PrintWords
open Go.Proofs.Ytmdojgkgohmghaa.Dev hiding stop_here execOp_build execOp_alloc execOp_store execOp_load execOp_buildSlice execOp_makeSlice execOp_box execOp_copy execOp_append wpList_val wpList_none Up
set_option linter.unusedVariables false
set_option linter.unusedSimpArgs false
set_option maxRecDepth 100000
variable {w0 w w' : World} {p q : Nat} {d d' : Dv} {X : List Nat} {last : Nat} {dead : Bool} {b : List (Int × ByteArray)} {l l' : List ByteArray}
/-- The device d lies at p, all of it made since w0, none of it in the blocks X; what was there at w0 is as it was. -/
structure Has (w0 w : World) (p : Nat) (d : Dv) (X : List Nat) : Prop where
  dev : ∃ F, Dev F w p d ∧ (∀ k, F k → w0.heap.size ≤ k) ∧ ∀ k, k ∈ X → ¬ F k ∧ k < w.heap.size
  bel : Below w0.heap.size w0 w
/-- The blocks X are as they were. -/
def Kept (X : List Nat) (w w' : World) : Prop := ∀ k, k ∈ X → w'.heap[k]? = w.heap[k]?
theorem Has.more {k : Nat} (h : Has w0 w p d X) (hb : Below w.heap.size w w') (h1 : w.heap.size ≤ k) (h2 : k < w'.heap.size) : Has w0 w' p d (k :: X) := by
  obtain ⟨F, g1, g2, g3⟩ := h.dev
  refine ⟨⟨F, g1.below hb, g2, fun j hj => ?_⟩, h.bel.trans (hb.mono h.bel.size)⟩
  rcases List.mem_cons.1 hj with rfl | hj
  · exact ⟨fun hf => by have := g1.lt _ hf; omega, h2⟩
  · exact ⟨(g3 j hj).1, Nat.lt_of_lt_of_le (g3 j hj).2 hb.size⟩
theorem Has.step {f : FuncId} {args : Array Value} {E : Ending} {d' : Dv} (h : Has w0 w p d X)
    (c : ∀ F, Dev F w p d → Calls Try.prog f args w fun e w' => e = E ∧ Dev (Dev.Up F w w') w' p d' ∧ Fr F w w') : Calls Try.prog f args w fun e w' => e = E ∧ Has w0 w' p d' X ∧ Kept X w w' ∧ w.heap.size ≤ w'.heap.size := by
  obtain ⟨F, h1, h2, h3⟩ := h.dev
  refine (c F h1).mono fun e w' ⟨he, hd, hr⟩ => ⟨he, ⟨⟨_, hd, fun k hk => ?_, fun k hk => ⟨fun hu => ?_, Nat.lt_of_lt_of_le (h3 k hk).2 hr.size⟩⟩, h.bel.trans (hr.below h.bel.size h2)⟩, fun k hk => hr.block k (h3 k hk).2 (h3 k hk).1, hr.size⟩
  · rcases hk with hk | hk
    · exact h2 k hk
    · have := h.bel.size; omega
  · rcases hu with hu | hu
    · exact (h3 k hk).1 hu
    · have := (h3 k hk).2; omega
theorem has_new (n : Int) (w0 w : World) (hb : Below w0.heap.size w0 w) (hX : ∀ k, k ∈ X → k < w.heap.size) : Calls Try.prog 10 #[.int .i64 n] w fun e w' => (∃ p, e = .returned (.pointer (some ⟨p, 0, none⟩)) ∧ Has w0 w' p (fresh n) X) ∧ Below w.heap.size w w' := by
  refine (new_any n w).mono fun e w' ⟨⟨p, he, hd⟩, hb'⟩ => ⟨⟨p, he, ⟨⟨_, hd, fun k hk => Nat.le_trans hb.size hk.1, fun k hk => ⟨fun hf => ?_, Nat.lt_of_lt_of_le (hX k hk) hb'.size⟩⟩, hb.trans (hb'.mono hb.size)⟩⟩, hb'⟩
  have := hX k hk
  omega
theorem has_size (h : Has w0 w p d X) (hq : LAt w q p last dead) : Calls Try.prog 17 #[.pointer (some ⟨q, 0, none⟩)] w fun e w' => e = .returned (.int .i64 ((d.firm.length : Int) - 41)) ∧ w = w' := by obtain ⟨F, h, _⟩ := h.dev; exact size_calls hq h
theorem has_read (h : Has w0 w p d X) (hq : LAt w q p last dead) (k : Int) : Calls Try.prog 16 #[.pointer (some ⟨q, 0, none⟩), .int .i64 k] w fun e w' => e = readR d dead k ∧ w = w' := by obtain ⟨F, h, _⟩ := h.dev; exact lread_calls hq h k
theorem has_open (h : Has w0 w p d X) (hl : d.late.length ≤ 900000) : Calls Try.prog 11 #[.pointer (some ⟨p, 0, none⟩)] w fun e w' => Has w0 w' p (openD d).2.2 X ∧ Kept X w w' ∧ w.heap.size ≤ w'.heap.size ∧
    if (openD d).1 = 0 then ∃ q, e = .returned (.tuple #[.pointer (some ⟨q, 0, none⟩), .int .i64 0]) ∧ LAt w' q p (openD d).2.1 false ∧ w.heap.size ≤ q ∧ Has w0 w' p (openD d).2.2 (q :: X) else e = .returned (.tuple #[.pointer none, .int .i64 (openD d).1]) := by
  obtain ⟨F, h1, h2, h3⟩ := h.dev
  refine (open_calls h1 hl).mono fun e w' ⟨G, g1, g2, g3, g4⟩ => ?_
  have hg : ∀ k, G k → w0.heap.size ≤ k := fun k hk => by
    rcases g2 k hk with hk | hk
    · exact h2 k hk
    · have := h.bel.size; omega
  have hx : ∀ k, k ∈ X → ¬ G k ∧ k < w'.heap.size := fun k hk => ⟨fun hG => by
    rcases g2 k hG with hG | hG
    · exact (h3 k hk).1 hG
    · have := (h3 k hk).2; omega, Nat.lt_of_lt_of_le (h3 k hk).2 g3.size⟩
  have hb := h.bel.trans (g3.below h.bel.size h2)
  refine ⟨⟨⟨G, g1, hg, hx⟩, hb⟩, fun k hk => g3.block k (h3 k hk).2 (h3 k hk).1, g3.size, ?_⟩
  split
  · rename_i h0
    rw [if_pos h0] at g4
    obtain ⟨q, he, hq, hGq, hqs⟩ := g4
    refine ⟨q, he, hq, hqs, ⟨⟨G, g1, hg, fun k hk => ?_⟩, hb⟩⟩
    rcases List.mem_cons.1 hk with rfl | hk
    · exact ⟨hGq, hq.lt⟩
    · exact hx k hk
  · rename_i h0
    rw [if_neg h0] at g4
    exact g4
theorem has_commit (h : Has w0 w p d X) (hq : LAt w q p last dead) (hqX : q ∈ X) (hqw : w0.heap.size ≤ q) (A : Option Addr) (cap : Nat) (hA : ArrAt w A ncells 2 b) (hAX : 0 < b.length → ∀ a, A = some a → a.block < w0.heap.size ∨ a.block ∈ X) (hbl : b.length ≤ 140737488355328) (hl : d.late.length ≤ 900000) :
    Calls Try.prog 12 #[.pointer (some ⟨q, 0, none⟩), .slice A b.length cap] w fun e w' => e = .returned (.int .i64 (commitL d last dead b).1) ∧ Has w0 w' p (commitL d last dead b).2.1 X ∧ LAt w' q p (commitL d last dead b).2.2.1 (commitL d last dead b).2.2.2 ∧
      (∀ k, k ∈ X → k ≠ q → w'.heap[k]? = w.heap[k]?) ∧ w.heap.size ≤ w'.heap.size := by
  obtain ⟨F, h1, h2, h3⟩ := h.dev
  refine (commit_calls hq h1 (h3 q hqX).1 A cap hA (fun h0 a ha hf => ?_) hbl hl).mono fun e w' ⟨he, ⟨G, g1, g2, g3⟩, g4, g5⟩ => ?_
  · rcases hAX h0 a ha with hk | hk
    · have := h2 _ hf; omega
    · exact (h3 _ hk).1 hf
  refine ⟨he, ⟨⟨G, g1, fun k hk => ?_, fun k hk => ⟨fun hG => ?_, Nat.lt_of_lt_of_le (h3 k hk).2 g5.size⟩⟩, h.bel.trans (g5.below h.bel.size (fun k hk => ?_))⟩, g4, fun k hk hkq => g5.block k (h3 k hk).2 (fun hf => ?_), g5.size⟩
  · rcases g2 k hk with hk | hk
    · exact h2 k hk
    · have := h.bel.size; omega
  · rcases g2 k hG with hG' | hG'
    · exact (h3 k hk).1 hG'
    · have := (h3 k hk).2; omega
  · rcases hk with hk | hk
    · exact h2 k hk
    · omega
  · rcases hf with hf | hf
    · exact (h3 k hk).1 hf
    · exact hkq hf
/-! ### lists for the printed functions -/
theorem add_at (g o n : Nat) : (⟨g, o, none⟩ : Addr).add n = ⟨g, o + n, none⟩ := by unfold Addr.add; split <;> simp_all
theorem kd_of_arr {A : Option Addr} (h : ArrAt w A ncells 2 b) (hn : b.length ≤ 9223372036854775807) : Kd.C k26 w A b.length (b.map mk26) := by
  refine ⟨by simp, hn, fun h0 => ?_⟩
  obtain ⟨blk, off, rfl, _, _⟩ := h 0 h0
  refine ⟨_, rfl, fun j x hj => ?_⟩
  rw [List.getElem?_map] at hj
  obtain ⟨y, hy, rfl⟩ := Option.map_eq_some_iff.1 hj
  obtain ⟨hjl, hy'⟩ := List.getElem?_eq_some_iff.1 hy
  obtain ⟨blk', off', e, _, hc⟩ := h j hjl
  cases e
  refine ⟨_, rfl, k26_mk w _, fun i u hu => ?_⟩
  rw [add_at]
  have := hc i u (by rw [hy']; exact hu)
  rw [← this]
  congr 2
  show off + (j * 2 + i) = off + j * 2 + i
  omega
end Go.Proofs.Ytmdojgkgohmghaa.Wal
namespace Go.Proofs.Ytmdojgkgohmghaa.Wal
open Go.RowKit Go.Own Go.Blk Go.DevL Go.XdrL Go.WalL Go.OpsL Go.Proofs.Ytmdojgkgohmghaa.P04 Go.Proofs.Ytmdojgkgohmghaa.Xdr Go.Proofs.YtmdojgkgohmghaaW.PrintLast Go.Proofs.YtmdojgkgohmghaaW.PrintWords
open Go.Proofs.Ytmdojgkgohmghaa.Dev hiding stop_here execOp_build execOp_alloc execOp_store execOp_load execOp_buildSlice execOp_makeSlice execOp_box execOp_copy execOp_append wpList_val wpList_none Up
set_option linter.unusedVariables false
set_option linter.unusedSimpArgs false
set_option maxRecDepth 100000
variable {w0 w w' : World} {p q : Nat} {d d' : Dv} {X : List Nat} {last : Nat} {dead : Bool} {b : List (Int × ByteArray)} {l l' : List ByteArray}
def dataOf (d : Dv) : List ByteArray := (List.range (d.firm.length - 41)).map fun i => (d.now.getD (41 + i) ByteArray.empty).extract 8 256
theorem dataOf_len (d : Dv) : (dataOf d).length = d.firm.length - 41 := by simp [dataOf]
end Go.Proofs.Ytmdojgkgohmghaa.Wal
