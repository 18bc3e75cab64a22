/- Layer wal, plainly: what a commit leaves on a device that doesn't die. Layer wal: alive. Layer wal: what comes in; rows beside a device. -/
import Derived.Test.YtmdojgkgohmghaaWalM2
import Derived.Test.YtmdojgkgohmghaaOpens
namespace Go.Proofs.Ytmdojgkgohmghaa.Wal
open Go.DevL Go.XdrL Go.WalL
set_option linter.unusedVariables false
set_option linter.unusedSimpArgs false
set_option maxRecDepth 100000
variable {d d' : Dv} {b : List (Int × ByteArray)} {l : List ByteArray}
/-- A device that lives, without a fuse. -/
structure Live (d : Dv) : Prop where
  ok : d.OK
  alive : d.dead = false
  nofuse : d.fuse = -1
theorem Live.burns (h : Live d) : d.burns = false := by unfold Dv.burns; rw [h.alive, h.nofuse]; rfl
def puts (l : List (Int × ByteArray)) (m : List ByteArray) : List ByteArray := l.foldl (fun m x => m.set x.1.toNat x.2) m
theorem Live.write (h : Live d) {i : Int} {x : ByteArray} (h0 : 0 ≤ i) (h1 : i < d.firm.length) (hx : x.size = 256) : ∃ d', d.write i x = (0, d') ∧ Live d' ∧ d'.firm.length = d.firm.length ∧ d'.now = d.now.set i.toNat x := by
  have hb : ¬ (d.bad i || x.size != 256) = true := by simp [Dv.bad, hx]; omega
  have hok := h.ok.write i x
  unfold Dv.write at hok ⊢
  rw [if_neg hb, if_neg (by rw [h.burns]; simp)] at hok ⊢
  refine ⟨_, rfl, ⟨hok, h.alive, ?_⟩, rfl, ?_⟩
  · show less d.fuse = -1
    rw [h.nofuse]; rfl
  · show (d.late ++ [(i.toNat, x)]).foldl put d.firm = _
    rw [List.foldl_append]
    rfl
theorem Live.barrier (h : Live d) : ∃ d', d.barrier = (0, d') ∧ Live d' ∧ d'.firm.length = d.firm.length ∧ d'.now = d.now ∧ d'.late = [] ∧ d'.firm = d.now := by
  have hok := h.ok.barrier
  unfold Dv.barrier at hok ⊢
  rw [if_neg (by rw [h.burns]; simp)] at hok ⊢
  refine ⟨_, rfl, ⟨hok, h.alive, ?_⟩, h.ok.now_length, rfl, rfl, rfl⟩
  show less d.fuse = -1
  rw [h.nofuse]; rfl
theorem Live.wrs : ∀ (l : List (Int × ByteArray)) {d : Dv}, Live d → (∀ x ∈ l, 0 ≤ x.1 ∧ x.1 < d.firm.length ∧ x.2.size = 256) → ∃ d', WalL.wrs d l = (0, d') ∧ Live d' ∧ d'.firm.length = d.firm.length ∧ d'.now = puts l d.now
  | [], d, h, _ => ⟨d, rfl, h, rfl, rfl⟩
  | x :: l, d, h, hx => by
    obtain ⟨h0, h1, h2⟩ := hx x (by simp)
    obtain ⟨d1, e1, l1, n1, w1⟩ := h.write h0 h1 h2
    obtain ⟨d2, e2, l2, n2, w2⟩ := Live.wrs l l1 (fun y hy => by rw [n1]; exact hx y (by simp [hy]))
    refine ⟨d2, ?_, l2, n2.trans n1, ?_⟩
    · rw [wrs_cons, e1, andThen_ok, e2]
    · rw [w2, w1]; rfl
theorem fit_mem {size : Int} {x : Int × ByteArray} (h : fit size b) (hx : x ∈ b) : 0 ≤ x.1 ∧ x.1 < size ∧ x.2.size ≤ 248 := h.2.2.1 x hx
theorem mark_size (n k : Nat) : (WalL.mark n k).size = 256 := by
  unfold WalL.mark
  exact pad_size (by rw [ByteArray.size_append, ByteArray.size_append, num4_size, num4_size]; show 4 + _ ≤ 256; omega)
theorem mem_jour {n : Nat} {x : Int × ByteArray} (h : x ∈ jour n b) : ∃ i, ∃ hi : i < b.length, x = (1 + (i : Int), ent n b[i]) := by
  obtain ⟨i, hi, rfl⟩ := List.getElem_of_mem h
  rw [jour_len] at hi
  exact ⟨i, hi, jour_at n b i hi⟩
/-- A commit on a device that lives: done, all of it settled. -/
theorem Live.commit (h : Live d) (n : Nat) (hf : fit (sizeL d) b) : ∃ d', commitD d n b = (0, d') ∧ Live d' ∧ d'.firm.length = d.firm.length ∧ d'.late = [] ∧ d'.firm = d'.now ∧ d'.now = puts (homes n b) ((puts (jour n b) d.now).set 0 (WalL.mark n b.length)) := by
  have hs : sizeL d = (d.firm.length : Int) - 41 := rfl
  have hn1 := hf.1
  have hn2 := hf.2.1
  have h41 : 41 < d.firm.length := by
    have := fit_mem hf (List.getElem_mem (show 0 < b.length by omega))
    omega
  obtain ⟨d1, e1, l1, n1, w1⟩ := h.wrs (jour n b) (fun x hx => by
    obtain ⟨i, hi, rfl⟩ := mem_jour hx
    exact ⟨by simp only; omega, by simp only; omega, ent_size (fit_mem hf (List.getElem_mem hi)).2.2⟩)
  obtain ⟨d2, e2, l2, n2, w2, _⟩ := l1.barrier
  obtain ⟨d3, e3, l3, n3, w3⟩ := l2.write (i := 0) (x := WalL.mark n b.length) (by omega) (by omega) (mark_size _ _)
  obtain ⟨d4, e4, l4, n4, w4, _⟩ := l3.barrier
  obtain ⟨d5, e5, l5, n5, w5⟩ := l4.wrs (homes n b) (fun x hx => by
    simp only [homes, List.mem_map] at hx
    obtain ⟨y, hy, rfl⟩ := hx
    have := fit_mem hf hy
    exact ⟨by simp only; omega, by simp only; omega, ent_size this.2.2⟩)
  obtain ⟨d6, e6, l6, n6, w6, t6, f6⟩ := l5.barrier
  refine ⟨d6, ?_, l6, by omega, t6, by rw [f6, w6], ?_⟩
  · unfold commitD
    rw [e1, andThen_ok, e2, andThen_ok, e3, andThen_ok, e4, andThen_ok, e5, andThen_ok, e6]
  · rw [w6, w5, w4, w3, w2, w1]
    rfl
/-! ### the data of a device -/
def dataL (m : List ByteArray) : List ByteArray := (List.range (m.length - 41)).map fun i => (m.getD (41 + i) ByteArray.empty).extract 8 256
theorem dataOf_eq (h : d.OK) : dataOf d = dataL d.now := by unfold dataOf dataL; rw [h.now_length]
theorem dataL_len (m : List ByteArray) : (dataL m).length = m.length - 41 := by simp [dataL]
theorem dataL_at (m : List ByteArray) (i : Nat) (hi : 41 + i < m.length) : (dataL m)[i]'(by rw [dataL_len]; omega) = (m[41 + i]).extract 8 256 := by
  simp [dataL, List.getD_eq_getElem?_getD, List.getElem?_eq_getElem hi]
theorem dataL_low (m : List ByteArray) (j : Nat) (hj : j ≤ 40) (e : ByteArray) : dataL (m.set j e) = dataL m := by
  apply List.ext_getElem
  · rw [dataL_len, dataL_len, List.length_set]
  · intro i h1 h2
    rw [dataL_len] at h2
    rw [dataL_at _ i (by rw [List.length_set]; omega), dataL_at m i (by omega), List.getElem_set_ne (by omega)]
theorem dataL_high (m : List ByteArray) (k : Nat) (e : ByteArray) : dataL (m.set (41 + k) e) = (dataL m).set k (e.extract 8 256) := by
  apply List.ext_getElem
  · rw [List.length_set, dataL_len, dataL_len, List.length_set]
  · intro i h1 h2
    rw [List.length_set, dataL_len] at h2
    rw [dataL_at _ i (by rw [List.length_set]; omega), List.getElem_set, List.getElem_set]
    by_cases h : k = i
    · rw [if_pos (by omega), if_pos h]
    · rw [if_neg (by omega), if_neg h, dataL_at m i (by omega)]
theorem bytes_ext {a b : ByteArray} (h : a.data.toList = b.data.toList) : a = b := ByteArray.ext (Array.toList_inj.1 h)
theorem dat_eq {s : ByteArray} (h : s.size ≤ 248) : dat s = s ++ zeros (248 - s.size) := by
  have hl : s.data.toList.length = s.size := Array.length_toList
  apply bytes_ext
  unfold dat
  simp only [ByteArray.data_extract, ByteArray.data_append, Array.toList_extract, Array.toList_append, zeros, List.extract_eq_take_drop, List.drop_zero, Nat.sub_zero]
  rw [List.take_append, hl, List.take_of_length_le (by omega), List.take_replicate]
  congr 2
  omega
theorem ent_data {n : Nat} {x : Int × ByteArray} (h : x.2.size ≤ 248) : (ent n x).extract 8 256 = dat x.2 := by
  have hl : x.2.data.toList.length = x.2.size := Array.length_toList
  have hs := ent_size (n := n) (x := x) h
  rw [dat_eq h]
  apply bytes_ext
  have h4 : ∀ k, (num4 k).data.toList.length = 4 := fun k => rfl
  unfold ent pad
  simp only [ByteArray.size_append, num4_size, ByteArray.data_extract, ByteArray.data_append, Array.toList_extract, Array.toList_append, zeros, List.extract_eq_take_drop]
  rw [List.drop_append, List.drop_append, List.drop_append]
  simp only [List.length_append, h4, hl]
  rw [List.drop_of_length_le (l := (num4 (41 + x.1).toNat).data.toList) (by rw [h4]; omega), List.drop_of_length_le (l := (num4 n).data.toList) (by rw [h4]; omega)]
  simp only [List.nil_append]
  rw [show 8 - (4 + 4) = 0 by omega, List.drop_zero, show 8 - (4 + 4 + x.2.size) = 0 by omega, List.drop_zero, List.take_of_length_le (by simp [hl]; omega), show 256 - (4 + 4 + x.2.size) = 248 - x.2.size by omega]
theorem data_homes (n : Nat) : ∀ (b : List (Int × ByteArray)) (m : List ByteArray), (∀ x ∈ b, 0 ≤ x.1 ∧ x.2.size ≤ 248) → dataL (puts (homes n b) m) = afterL (dataL m) b
  | [], m, _ => rfl
  | x :: b, m, h => by
    obtain ⟨h1, h2⟩ := h x (by simp)
    show dataL (puts (homes n b) (m.set (41 + x.1).toNat (ent n x))) = afterL ((dataL m).set x.1.toNat (dat x.2)) b
    rw [data_homes n b _ (fun y hy => h y (by simp [hy])), show (41 + x.1).toNat = 41 + x.1.toNat by omega, dataL_high, ent_data h2]
theorem data_jour : ∀ (l : List (Int × ByteArray)) (m : List ByteArray), (∀ x ∈ l, 0 ≤ x.1 ∧ x.1 ≤ 40) → dataL (puts l m) = dataL m
  | [], m, _ => rfl
  | x :: l, m, h => by
    obtain ⟨h1, h2⟩ := h x (by simp)
    show dataL (puts l (m.set x.1.toNat x.2)) = _
    rw [data_jour l _ (fun y hy => h y (by simp [hy])), dataL_low _ _ (by omega)]
/-- The data behind a commit. -/
theorem Live.commit_data (h : Live d) (n : Nat) (hf : fit (sizeL d) b) : ∃ d', commitD d n b = (0, d') ∧ Live d' ∧ d'.firm.length = d.firm.length ∧ d'.late = [] ∧ dataOf d' = afterL (dataOf d) b := by
  obtain ⟨d', e, l1, n1, t1, f1, w1⟩ := h.commit n hf
  refine ⟨d', e, l1, n1, t1, ?_⟩
  rw [dataOf_eq l1.ok, dataOf_eq h.ok, w1, data_homes n b _ (fun x hx => ⟨(fit_mem hf hx).1, (fit_mem hf hx).2.2⟩), dataL_low _ 0 (by omega), data_jour _ _ (fun x hx => by
    obtain ⟨i, hi, rfl⟩ := mem_jour hx
    have := hf.2.1
    exact ⟨by simp only; omega, by simp only; omega⟩)]
theorem commitL_fit {last : Nat} (h : Live d) (hf : fit (sizeL d) b) (hl : last ≠ 4294967295) : ∃ d', commitL d last false b = (0, d', last + 1, false) ∧ Live d' ∧ d'.firm.length = d.firm.length ∧ d'.late = [] ∧ dataOf d' = afterL (dataOf d) b := by
  obtain ⟨d', e, r⟩ := h.commit_data (last + 1) hf
  refine ⟨d', ?_, r⟩
  unfold commitL
  rw [if_neg (not_not_intro hf), if_neg (by simp), if_neg hl, e, if_pos rfl]
theorem fresh_live (n : Int) : Live (fresh n) := ⟨fresh_ok n, rfl, rfl⟩
theorem fresh_now (n : Int) : (fresh n).now = List.replicate (clamp n) (rep8 0 256) := rfl
theorem open_fresh (n : Int) (h : 41 < clamp n) : openD (fresh n) = (0, 0, fresh n) := by
  have hl : (fresh n).firm.length = clamp n := by simp [fresh]
  unfold openD
  rw [if_neg (by omega), if_neg (by simp [fresh])]
  have hm : (fresh n).now.getD 0 ByteArray.empty = rep8 0 256 := by
    rw [fresh_now, List.getD_eq_getElem?_getD, List.getElem?_replicate, if_pos (by omega)]; rfl
  rw [hm]
  have : markOf (rep8 0 256) = (0, 0, false) := by
    unfold markOf
    have e4 : (rep8 0 256).extract 0 4 = zeros 4 := by kernel_rfl
    rw [e4, if_neg (by decide)]
  rw [this, if_pos rfl]
theorem rep_data : (rep8 0 256).extract 8 256 = zeros 248 := by kernel_rfl
theorem data_fresh (n : Int) : dataOf (fresh n) = List.replicate (clamp n - 41) (zeros 248) := by
  rw [dataOf_eq (fresh_ok n), fresh_now]
  apply List.ext_getElem
  · rw [dataL_len, List.length_replicate, List.length_replicate]
  · intro i h1 h2
    rw [List.length_replicate] at h2
    rw [List.getElem_replicate, dataL_at _ i (by rw [List.length_replicate]; omega), List.getElem_replicate, rep_data]
end Go.Proofs.Ytmdojgkgohmghaa.Wal
namespace Go.Proofs.Ytmdojgkgohmghaa.Wal
open Go.RowKit Go.Own Go.Blk Go.DevL Go.XdrL Go.WalL Go.OpsL Go.Proofs.Ytmdojgkgohmghaa.P04 Go.Proofs.Ytmdojgkgohmghaa.Xdr Go.Proofs.YtmdojgkgohmghaaW.PrintLast Go.Proofs.YtmdojgkgohmghaaW.PrintWords
open Go.Proofs.Ytmdojgkgohmghaa.Dev hiding stop_here execOp_build execOp_alloc execOp_store execOp_load execOp_buildSlice execOp_makeSlice execOp_box execOp_copy execOp_append wpList_val wpList_none Up
set_option linter.unusedVariables false
set_option linter.unusedSimpArgs false
set_option maxRecDepth 100000
variable {w0 w w' : World} {p q : Nat} {d d' : Dv} {X : List Nat} {last : Nat} {dead : Bool} {b : List (Int × ByteArray)} {l l' : List ByteArray}
theorem read_data (hd : d.dead = false) (i : Nat) (hi : i < d.firm.length - 41) : readR d false (i : Int) = .returned (.tuple #[.string ((dataOf d).getD i ByteArray.empty), .int .i64 0]) := by
  unfold readR readL sizeL
  rw [if_neg (by omega), if_neg (by simp [hd])]
  have e : (dataOf d).getD i ByteArray.empty = (d.now.getD (41 + (i : Int)).toNat ByteArray.empty).extract 8 256 := by
    rw [List.getD_eq_getElem?_getD, List.getElem?_eq_getElem (by rw [dataOf_len]; exact hi), Option.getD_some]
    unfold dataOf
    rw [List.getElem_map, List.getElem_range, show (41 + (i : Int)).toNat = 41 + i by omega]
  rw [e]
theorem arr_one (w : World) (x : Int × ByteArray) : ArrAt (w.alloc (.cells #[.int .i64 x.1, .string x.2] 26)) (some ⟨w.heap.size, 0, none⟩) ncells 2 [x] := fun i hi => by
  simp only [List.length_singleton] at hi
  obtain rfl : i = 0 := by omega
  refine ⟨w.heap.size, 0, rfl, by simp, fun j u hu => ?_⟩
  rw [show 0 + 0 * 2 + j = j by omega, cell_at (alloc_at w _)]
  simpa [ncells] using hu
def B1 : List (Int × ByteArray) := [(1, ⟨#[97]⟩)]
theorem fit_one : fit 3 B1 := by decide
theorem alive_size : (dat ⟨#[97]⟩).size = 248 := by kernel_rfl
theorem alive_two : (dat ⟨#[97]⟩).extract 0 2 = ⟨#[97, 0]⟩ := by kernel_rfl
set_option maxHeartbeats 4000000 in
theorem alive_calls (w : World) : Calls Try.prog 8 #[] w fun e w' => e = .returned (.bool true) ∧ Below w.heap.size w w' := by
  have hc : clamp 44 = 44 := by decide
  have hfl : (fresh 44).firm.length = 44 := by simp [fresh, hc]
  have hof := open_fresh 44 (by rw [hc]; decide)
  obtain ⟨d', hcm, hlv, hln, hlt, hda⟩ := commitL_fit (last := 0) (b := B1) (fresh_live 44) (by rw [show sizeL (fresh 44) = 3 by unfold sizeL; rw [hfl]; rfl]; exact fit_one) (by decide)
  have hrd : readR d' false 1 = .returned (.tuple #[.string (dat ⟨#[97]⟩), .int .i64 0]) := by
    have h1 := read_data hlv.alive 1 (by rw [hln, hfl]; decide)
    have h2 : (dataOf d').getD 1 ByteArray.empty = dat ⟨#[97]⟩ := by
      rw [hda, data_fresh, hc]
      rfl
    rw [h2] at h1
    exact h1
  have hsz := alive_size
  have htw := alive_two
  obtain ⟨S, hS⟩ : ∃ S, dat ⟨#[97]⟩ = S := ⟨_, rfl⟩
  rw [hS] at hrd hsz htw
  have HN := Lib.hid (has_new 44 w w (X := []) (Below.refl _ _) (fun k hk => by simp at hk))
  obtain ⟨f, hf⟩ : ∃ f, fresh 44 = f := ⟨_, rfl⟩
  rw [hf] at HN hof hcm hln hfl
  have hfo : f.late.length ≤ 900000 := by rw [← hf]; simp [fresh]
  have hd3 : d'.firm.length = 44 := by omega
  have HF := Lib.hid (And.intro hof (And.intro hcm hrd))
  clear hc hof hcm hlv hlt hda hrd hS hf
  go_enter Try.func8, Try.ntmps8
  go_wp2_with fail
  refine HN.out.mono ?_
  rintro e w1 ⟨⟨p, rfl, h1⟩, _⟩
  have H1 := Lib.hid h1
  clear h1 HN
  go_wp2_with fail
  refine (has_open H1.out hfo).mono ?_
  rw [HF.out.1]
  rintro e w2 ⟨_, _, _, ho⟩
  rw [if_pos rfl] at ho
  obtain ⟨q, rfl, hL2, hqs, h2⟩ := ho
  have hqw : w.heap.size ≤ q := by have := H1.out.bel.size; omega
  have HL2 := Lib.hid hL2
  have H2 := Lib.hid h2
  clear hL2 h2 hqs H1
  go_wp2_with ((with_reducible refine gate_dst (N := 21) rfl ?_); refine stop_here ?_)
  refine Lib.hid ?_
  refine wpList_val rfl rfl (execOp_buildSlice (ps := #[(0, .agg #[.int .i64 1, .string ⟨#[97]⟩])]) rfl rfl (nadds w2 (u := .slice none 0 0) (l := []) (part_of_own (World.ownsRow_nil ..)) ((1 : Int), (⟨#[97]⟩ : ByteArray)) (by simp)).1) ?_
  have hb3 : Below w2.heap.size w2 (w2.alloc (.cells #[.int .i64 1, .string ⟨#[97]⟩] 26)) := (Below.refl _ _).alloc (Nat.le_refl _) _
  have HA3 := Lib.hid (show ArrAt (w2.alloc (.cells #[.int .i64 1, .string ⟨#[97]⟩] 26)) (some ⟨w2.heap.size, 0, none⟩) ncells 2 B1 from arr_one w2 (1, ⟨#[97]⟩))
  have H3 := Lib.hid (H2.out.more hb3 (Nat.le_refl _) (by simp : w2.heap.size < (w2.alloc (.cells #[.int .i64 1, .string ⟨#[97]⟩] 26)).heap.size))
  have HL3 := Lib.hid (HL2.out.below hb3)
  obtain ⟨N, hN⟩ : ∃ N, w2.heap.size = N := ⟨_, rfl⟩
  rw [hN] at HA3 H3 ⊢
  clear hN hb3
  generalize w2.alloc (.cells #[.int .i64 1, .string ⟨#[97]⟩] 26) = w3 at HA3 H3 HL3 ⊢
  clear H2 HL2
  go_wp2_with fail
  refine (has_commit (b := B1) H3.out HL3.out (by simp) hqw (some ⟨N, 0, none⟩) 1 HA3.out (fun _ a ha => by cases ha; exact .inr (by simp)) (by decide) hfo).mono ?_
  rw [HF.out.2.1]
  rintro e w4 ⟨rfl, h4, hL4, _⟩
  have H4 := Lib.hid h4
  have HL4 := Lib.hid hL4
  clear h4 hL4 H3 HL3 HA3
  go_wp2_with fail
  refine (has_read H4.out HL4.out 1).mono ?_
  rw [HF.out.2.2]
  rintro e w4 ⟨rfl, rfl⟩
  have HSI := Lib.hid (has_size H4.out HL4.out)
  rw [hd3] at HSI
  have h2s : (2 : Int) ≤ (S.size : Int) := by omega
  go_wp2_with (first | (go_at_call 17; refine HSI.out.mono ?_; rintro e w5 ⟨rfl, rfl⟩) | (go_at_call 15; refine (last_calls HL4.out).mono ?_; rintro e w5 ⟨rfl, rfl⟩))
  go_ret
  exact ⟨rfl, H4.out.bel⟩
end Go.Proofs.Ytmdojgkgohmghaa.Wal
namespace Go.Proofs.Ytmdojgkgohmghaa.Wal
open Go.RowKit Go.Own Go.Blk Go.DevL Go.XdrL Go.WalL Go.OpsL Go.Sees Go.Proofs.Ytmdojgkgohmghaa.P04 Go.Proofs.Ytmdojgkgohmghaa.Xdr Go.Proofs.YtmdojgkgohmghaaW.PrintLast Go.Proofs.YtmdojgkgohmghaaW.PrintWords Go.Proofs.Ytmdojgkgohmghaa.Opens
open Go.Proofs.Ytmdojgkgohmghaa.Dev hiding stop_here execOp_build execOp_alloc execOp_store execOp_load execOp_buildSlice execOp_makeSlice execOp_box execOp_copy execOp_append wpList_val wpList_none Up
set_option linter.unusedVariables false
set_option linter.unusedSimpArgs false
set_option maxRecDepth 100000
variable {w0 w w' : World} {p q : Nat} {d d' : Dv} {X : List Nat} {last : Nat} {dead : Bool} {b : List (Int × ByteArray)} {l l' : List ByteArray}
theorem sees_blocks {R k len cap : Nat} {A : Option Addr} (h : Sees Try.prog w R (k + 3) 22 [.slice A len cap]) : ∃ b : List (Int × ByteArray), b.length = len ∧ len ≤ cap ∧ len ≤ maxLen ∧ len * 24 ≤ R ∧ ArrAt w A ncells 2 b ∧ ∀ x ∈ b, x.2.size ≤ R := by
  obtain ⟨b, h1, h2, h3, h4, h5, h6⟩ := arr_of (Q := fun x : Int × ByteArray => x.2.size ≤ R) (f := ncells) (s := 2) (by kernel_rfl) (by decide) (fun _ => rfl) Try.underlying22 (fun cs hc => by
    obtain ⟨x0, x1, rfl, _, h2⟩ := open26 (k := k) hc
    exact ⟨(x0, x1), h2, rfl⟩) h
  exact ⟨b, h1, h2, h3, h4, h5, h6⟩
theorem arr_old {A : Option Addr} (h : ArrAt w A ncells 2 b) (h0 : 0 < b.length) : ∀ a, A = some a → a.block < w.heap.size := fun a ha => by
  obtain ⟨blk, off, e, hb, _⟩ := h 0 h0
  rw [ha] at e
  cases e
  exact hb
end Go.Proofs.Ytmdojgkgohmghaa.Wal
