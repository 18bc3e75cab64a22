/- Layer proto: a packet is read by the document. -/
import Derived.Test.YtiedmkgdhfkcoaaDoorPktAlive
import Derived.Test.YtiedmkgdhfkcoaaDoorPktBytes
import Derived.Test.YtiedmkgdhfkcoaaDoorXdrDR2
namespace Go.Proofs.YtiedmkgdhfkcoaaDoor.Pkt
open Go.RowKit Go.Own Go.Blk Go.OpsL Go.XdrL Go.PktL Go.Sees Go.Proofs.YtiedmkgdhfkcoaaDoor.Xdr Go.Proofs.YtiedmkgdhfkcoaaDoorW.PrintLast Go.Proofs.YtiedmkgdhfkcoaaDoorW.PrintWords
set_option linter.unusedVariables false
set_option linter.unusedSimpArgs false
set_option maxRecDepth 100000
def lk (L : List Nat) (k : Nat) : List Nat := L.take k ++ List.replicate (17 - k) 0
theorem lk_step (L : List Nat) (hL : L.length = 17) (k : Nat) (hk : k < 17) : (lk L k).set k (L.getD k 0) = lk L (k + 1) := by
  match L, hL with
  | [l0, l1, l2, l3, l4, l5, l6, l7, l8, l9, l10, l11, l12, l13, l14, l15, l16], _ =>
    rcases (show k = 0 ∨ k = 1 ∨ k = 2 ∨ k = 3 ∨ k = 4 ∨ k = 5 ∨ k = 6 ∨ k = 7 ∨ k = 8 ∨ k = 9 ∨ k = 10 ∨ k = 11 ∨ k = 12 ∨ k = 13 ∨ k = 14 ∨ k = 15 ∨ k = 16 by omega) with rfl | rfl | rfl | rfl | rfl | rfl | rfl | rfl | rfl | rfl | rfl | rfl | rfl | rfl | rfl | rfl | rfl <;> rfl
theorem lk_all (L : List Nat) (hL : L.length = 17) : lk L 17 = L := by
  match L, hL with
  | [l0, l1, l2, l3, l4, l5, l6, l7, l8, l9, l10, l11, l12, l13, l14, l15, l16], _ => rfl
theorem lk_length (L : List Nat) (hL : L.length = 17) (k : Nat) (hk : k ≤ 17) : (lk L k).length = 17 := by
  simp only [lk, List.length_append, List.length_take, List.length_replicate, hL]; omega
section
variable {W w w' : World} {g R q : Nat} {l l' : List Nat} {r r' : Rd}
/-- The document's numbers, the answer's cell, its reader. -/
structure DS (g R q : Nat) (W w : World) (l : List Nat) (r : Rd) : Prop where
  r : DAt w q r
  p : w.heap[g]? = some (.cells (ucells l).toArray 97 (0, 0))
  z : PAt w R Pk.zero
  gq : g ≠ q
  Rq : R ≠ q
  gR : g ≠ R
  g0 : W.heap.size ≤ g
  R0 : W.heap.size ≤ R
  q0 : W.heap.size ≤ q
  b : Below W.heap.size W w
theorem DS.left (h : DS g R q W w l r) (k : DLeft q r' w w') : DS g R q W w' l r' :=
  ⟨k.1, k.2.at h.p (fun e => h.gq e), h.z.keep k.2 (fun e => h.Rq e), h.gq, h.Rq, h.gR, h.g0, h.R0, h.q0, below_fr (F := (· = q)) h.b (fun i hi => by have e : i = q := hi; rw [e]; exact h.q0) k.2 h.b.size⟩
theorem DS.below (h : DS g R q W w l r) (hb : Below w.heap.size w w') : DS g R q W w' l r := ⟨h.r.below hb, below_old h.p hb, h.z.below hb, h.gq, h.Rq, h.gR, h.g0, h.R0, h.q0, h.b.trans (hb.mono h.b.size)⟩
theorem DS.set (h : DS g R q W w l r) (k x : Nat) : DS g R q W (w.setCell ⟨g, k, none⟩ (.int .u32 (x : Int))) (l.set k x) r := by
  have f := Fr.setCell (F := (· = g)) w (p := ⟨g, k, none⟩) rfl (.int .u32 (x : Int))
  have e := set_at h.p k (.int .u32 (x : Int))
  rw [List.setIfInBounds_toArray, show (ucells l).set k (.int .u32 (x : Int)) = ucells (l.set k x) by simp [ucells, List.map_set]] at e
  exact ⟨h.r.keep f (fun e => h.gq e.symm), e, h.z.keep f (fun e => h.gR e.symm), h.gq, h.Rq, h.gR, h.g0, h.R0, h.q0, below_fr (F := (· = g)) h.b (fun i hi => by have e : i = g := hi; rw [e]; exact h.g0) f h.b.size⟩
theorem DS.cell (h : DS g R q W w l r) (k : Nat) (hk : k < l.length) : w.cell? ⟨g, k, none⟩ = some (.int .u32 ((l.getD k 0 : Nat) : Int)) := by
  rw [cell_at h.p, List.getElem?_toArray]
  simp only [ucells, List.getElem?_map, List.getElem?_eq_getElem hk, Option.map_some, List.getD, Option.getD_some]
end
theorem OAt.load {w : World} {g : Nat} {p : Pk} (h : OAt w g p) : (Instr.loadAt 25 (.pointer (some ⟨g, 0, none⟩))).run Tryd.prog w = .ok (.agg #[.int .i64 p.code, .int .i64 p.err, .int .u32 (p.file : Int), .int .u32 (p.epoch : Int), .int .u32 (p.off : Int), .int .u32 (p.len : Int), .int .u32 (p.size : Int), .int .u32 (p.mode : Int), .int .u32 (p.deny : Int), .int .u32 (p.handle : Int), .string p.path, .string p.other, .string p.data]) w := by
  have hv := run_loadVar_row w g _ 25 _ _ _ h Tryd.underlying25 rfl op_info
  simp only [Instr.loadAt, Instr.sureAddr, Sem.run_bind, Sem.run_pure, Result.andThen_ok, hv]
set_option maxHeartbeats 32000000 in
theorem dread_any (s : ByteArray) (hs : s.size ≤ 140737488351232) (w : World) : Calls Tryd.prog 16 #[.string s] w fun e w' => e = .returned (.tuple #[.agg #[.int .i64 (readPk s).1.kind, .int .i64 (readPk s).1.fr, .int .i64 (readPk s).1.to, .int .u32 ((readPk s).1.life : Int), .int .u32 ((readPk s).1.seq : Int), .int .u32 ((readPk s).1.asked : Int), .int .u32 ((readPk s).1.boot : Int), .int .i64 (readPk s).1.code, .int .i64 (readPk s).1.err, .int .u32 ((readPk s).1.file : Int), .int .u32 ((readPk s).1.epoch : Int), .int .u32 ((readPk s).1.off : Int), .int .u32 ((readPk s).1.len : Int), .int .u32 ((readPk s).1.size : Int), .int .u32 ((readPk s).1.mode : Int), .int .u32 ((readPk s).1.deny : Int), .int .u32 ((readPk s).1.handle : Int), .string (readPk s).1.path, .string (readPk s).1.other, .string (readPk s).1.data], .int .i64 ((readPk s).2 : Int)]) ∧ Below w.heap.size w w' := by
  have a1 : PAt (w.alloc (.cells #[.int .i64 0, .int .i64 0, .int .i64 0, .int .u32 0, .int .u32 0, .int .u32 0, .int .u32 0, .int .i64 0, .int .i64 0, .int .u32 0, .int .u32 0, .int .u32 0, .int .u32 0, .int .u32 0, .int .u32 0, .int .u32 0, .int .u32 0, .string ⟨#[]⟩, .string ⟨#[]⟩, .string ⟨#[]⟩] 27)) w.heap.size Pk.zero := PAt.alloc w Pk.zero
  have hb1 : Below w.heap.size w (w.alloc (.cells #[.int .i64 0, .int .i64 0, .int .i64 0, .int .u32 0, .int .u32 0, .int .u32 0, .int .u32 0, .int .i64 0, .int .i64 0, .int .u32 0, .int .u32 0, .int .u32 0, .int .u32 0, .int .u32 0, .int .u32 0, .int .u32 0, .int .u32 0, .string ⟨#[]⟩, .string ⟨#[]⟩, .string ⟨#[]⟩] 27)) := (Below.refl _ _).alloc (Nat.le_refl _) _
  have hsz1 : (w.alloc (.cells #[.int .i64 0, .int .i64 0, .int .i64 0, .int .u32 0, .int .u32 0, .int .u32 0, .int .u32 0, .int .i64 0, .int .i64 0, .int .u32 0, .int .u32 0, .int .u32 0, .int .u32 0, .int .u32 0, .int .u32 0, .int .u32 0, .int .u32 0, .string ⟨#[]⟩, .string ⟨#[]⟩, .string ⟨#[]⟩] 27)).heap.size = w.heap.size + 1 := by simp
  obtain ⟨W1, hW1⟩ : ∃ W1, w.alloc (.cells #[.int .i64 0, .int .i64 0, .int .i64 0, .int .u32 0, .int .u32 0, .int .u32 0, .int .u32 0, .int .i64 0, .int .i64 0, .int .u32 0, .int .u32 0, .int .u32 0, .int .u32 0, .int .u32 0, .int .u32 0, .int .u32 0, .int .u32 0, .string ⟨#[]⟩, .string ⟨#[]⟩, .string ⟨#[]⟩] 27) = W1 := ⟨_, rfl⟩
  rw [hW1] at a1 hb1 hsz1
  have a2 := a1.below ((Below.refl W1.heap.size W1).alloc (Nat.le_refl _) (.cells #[.string s, .int .i64 0] 96))
  have d2 := alloc_at W1 (.cells #[.string s, .int .i64 0] 96)
  have hb2 := hb1.alloc hb1.size (.cells #[.string s, .int .i64 0] 96)
  have hsz2 : (W1.alloc (.cells #[.string s, .int .i64 0] 96)).heap.size = w.heap.size + 2 := by simp [hsz1]
  rw [hsz1] at d2
  obtain ⟨W2, hW2⟩ : ∃ W2, W1.alloc (.cells #[.string s, .int .i64 0] 96) = W2 := ⟨_, rfl⟩
  rw [hW2] at a2 d2 hb2 hsz2
  have a3 := a2.below ((Below.refl W2.heap.size W2).alloc (Nat.le_refl _) (.cells #[.int .u32 0, .int .u32 0, .int .u32 0, .int .u32 0, .int .u32 0, .int .u32 0, .int .u32 0, .int .u32 0, .int .u32 0, .int .u32 0, .int .u32 0, .int .u32 0, .int .u32 0, .int .u32 0, .int .u32 0, .int .u32 0, .int .u32 0] 97))
  have d3 := alloc_old d2 (.cells #[.int .u32 0, .int .u32 0, .int .u32 0, .int .u32 0, .int .u32 0, .int .u32 0, .int .u32 0, .int .u32 0, .int .u32 0, .int .u32 0, .int .u32 0, .int .u32 0, .int .u32 0, .int .u32 0, .int .u32 0, .int .u32 0, .int .u32 0] 97)
  have l3 := alloc_at W2 (.cells #[.int .u32 0, .int .u32 0, .int .u32 0, .int .u32 0, .int .u32 0, .int .u32 0, .int .u32 0, .int .u32 0, .int .u32 0, .int .u32 0, .int .u32 0, .int .u32 0, .int .u32 0, .int .u32 0, .int .u32 0, .int .u32 0, .int .u32 0] 97)
  have hb3 := hb2.alloc hb2.size (.cells #[.int .u32 0, .int .u32 0, .int .u32 0, .int .u32 0, .int .u32 0, .int .u32 0, .int .u32 0, .int .u32 0, .int .u32 0, .int .u32 0, .int .u32 0, .int .u32 0, .int .u32 0, .int .u32 0, .int .u32 0, .int .u32 0, .int .u32 0] 97)
  rw [hsz2] at l3
  have HDS : Hid (DS (w.heap.size + 2) w.heap.size (w.heap.size + 1) w (W2.alloc (.cells #[.int .u32 0, .int .u32 0, .int .u32 0, .int .u32 0, .int .u32 0, .int .u32 0, .int .u32 0, .int .u32 0, .int .u32 0, .int .u32 0, .int .u32 0, .int .u32 0, .int .u32 0, .int .u32 0, .int .u32 0, .int .u32 0, .int .u32 0] 97)) (List.replicate 17 0) ⟨s, 0⟩) :=
    Lib.hid ⟨⟨d3, by show s.size ≤ _; omega⟩, l3, a3, by omega, by omega, by omega, by omega, Nat.le_refl _, by omega, hb3⟩
  have HWW : Hid (W2.alloc (.cells #[.int .u32 0, .int .u32 0, .int .u32 0, .int .u32 0, .int .u32 0, .int .u32 0, .int .u32 0, .int .u32 0, .int .u32 0, .int .u32 0, .int .u32 0, .int .u32 0, .int .u32 0, .int .u32 0, .int .u32 0, .int .u32 0, .int .u32 0] 97) = ((w.alloc (.cells #[.int .i64 0, .int .i64 0, .int .i64 0, .int .u32 0, .int .u32 0, .int .u32 0, .int .u32 0, .int .i64 0, .int .i64 0, .int .u32 0, .int .u32 0, .int .u32 0, .int .u32 0, .int .u32 0, .int .u32 0, .int .u32 0, .int .u32 0, .string ⟨#[]⟩, .string ⟨#[]⟩, .string ⟨#[]⟩] 27)).alloc (.cells #[.string s, .int .i64 0] 96)).alloc (.cells #[.int .u32 0, .int .u32 0, .int .u32 0, .int .u32 0, .int .u32 0, .int .u32 0, .int .u32 0, .int .u32 0, .int .u32 0, .int .u32 0, .int .u32 0, .int .u32 0, .int .u32 0, .int .u32 0, .int .u32 0, .int .u32 0, .int .u32 0] 97)) := Lib.hid (by rw [hW1, hW2])
  clear a1 hb1 hsz1 a2 d2 hb2 hsz2 a3 d3 l3 hb3 hW1 hW2
  rw [HWW.out] at HDS
  clear HWW
  go_enter Tryd.func16, Tryd.ntmps16
  go_wp2
  generalize ((w.alloc (.cells #[.int .i64 0, .int .i64 0, .int .i64 0, .int .u32 0, .int .u32 0, .int .u32 0, .int .u32 0, .int .i64 0, .int .i64 0, .int .u32 0, .int .u32 0, .int .u32 0, .int .u32 0, .int .u32 0, .int .u32 0, .int .u32 0, .int .u32 0, .string ⟨#[]⟩, .string ⟨#[]⟩, .string ⟨#[]⟩] 27)).alloc (.cells #[.string s, .int .i64 0] 96)).alloc (.cells #[.int .u32 0, .int .u32 0, .int .u32 0, .int .u32 0, .int .u32 0, .int .u32 0, .int .u32 0, .int .u32 0, .int .u32 0, .int .u32 0, .int .u32 0, .int .u32 0, .int .u32 0, .int .u32 0, .int .u32 0, .int .u32 0, .int .u32 0] 97) = w3 at HDS ⊢
  obtain ⟨g, hg⟩ : ∃ g, w.heap.size + 2 = g := ⟨_, rfl⟩
  obtain ⟨q, hq⟩ : ∃ q, w.heap.size + 1 = q := ⟨_, rfl⟩
  obtain ⟨R, hR⟩ : ∃ R, w.heap.size = R := ⟨_, rfl⟩
  rw [show w.heap.size + 1 + 1 = w.heap.size + 2 from rfl] at *
  rw [hg, hq, hR] at HDS
  try rw [hg]
  try rw [hq]
  try rw [hR]
  clear hg hR hq
  obtain ⟨L, hL⟩ : ∃ L, (rdN s).1 = L := ⟨_, rfl⟩
  have HLL := Lib.hid hL
  have HLN : Hid (L.length = 17) := Lib.hid (by rw [← hL]; exact readNums_length 17 _)
  clear hL
  go_loopw [6] (fun s6 wr => ∃ k : Nat, k ≤ 17 ∧ s6 = .int .i64 k ∧ Hid (DS g R q w wr (lk L k) (readNums k ⟨s, 0⟩).2)) (fun s6 _ => 17 - (intOf s6).toNat)
  case atStart => exact ⟨0, by omega, by simp, HDS⟩
  case round =>
    clear HDS
    obtain ⟨k, hk, rfl, HW⟩ := hrel
    by_cases hlt : k < 17
    · have HX : Hid ((readNums k ⟨s, 0⟩).2.number.1 = L.getD k 0) := Lib.hid (by rw [← HLL.out]; exact (readNums_getD 17 ⟨s, 0⟩ k (by omega)).symm)
      have HRR := Lib.hid (readNums_rest k ⟨s, 0⟩)
      have i0 : (0 : Int) ≤ (k : Int) := by omega
      have i1 : (k : Int) < 17 := by omega
      go_wp2_with fail
      refine (dnumber_reads HW.out.r).mono ?_
      rintro e w5 ⟨rfl, h5⟩
      rw [HX.out]
      have H5 := Lib.hid (HW.out.left h5)
      have c5 := H5.out.cell k (by rw [lk_length L HLN.out k hk]; exact hlt)
      have f5 : w5.frozen? ⟨g, k, none⟩ = false := free_at H5.out.p k
      clear h5 HW
      have hst := H5.out.set k (L.getD k 0)
      rw [lk_step L HLN.out k hlt, ← HRR.out] at hst
      have HST := Lib.hid hst
      clear hst
      generalize L.getD k 0 = x at HX HST ⊢
      generalize (lk L k).getD k 0 = y at c5
      go_wp2
      clear c5 f5
      go_roundw
      case rel => exact ⟨k + 1, by omega, by go_num, HST⟩
      case measure => simp [intOf]; omega
    · obtain rfl : k = 17 := by omega
      have hw17 : DS g R q w wr L (rdN s).2 := by have := HW.out; rw [lk_all L HLN.out] at this; exact this
      have H17 := Lib.hid hw17
      clear HW hw17
      go_wp2_with fail
      refine (dtext_reads H17.out.r 64).mono ?_
      rintro e w8 ⟨rfl, h8⟩
      rw [← rdP_eq] at h8 ⊢
      have H8 := Lib.hid (H17.out.left h8)
      clear h8 H17
      go_wp2_with fail
      refine (dtext_reads H8.out.r 64).mono ?_
      rintro e w9 ⟨rfl, h9⟩
      rw [← rdO_eq] at h9 ⊢
      have H9 := Lib.hid (H8.out.left h9)
      clear h9 H8
      go_wp2_with fail
      refine (dtext_reads H9.out.r 128).mono ?_
      rintro e w10 ⟨rfl, h10⟩
      rw [← rdD_eq] at h10 ⊢
      have H10 := Lib.hid (H9.out.left h10)
      clear h10 H9
      go_wp2_with fail
      refine (dend_reads H10.out.r).mono ?_
      rintro e w12 ⟨rfl, h12⟩
      rw [show (rdD s).2.end_ = rdE s from rfl] at h12 ⊢
      have H12 := Lib.hid (H10.out.left h12)
      clear h12 H10
      by_cases he : (rdE s).e = 0
      · have HE := Lib.hid he
        have hz : (((rdE s).e : Int) != 0) = false := by rw [he]; rfl
        clear he
        generalize hta : (rdP s).1 = ta
        generalize htb : (rdO s).1 = tb
        generalize htc : (rdD s).1 = tc
        have HTA := Lib.hid hta
        have HTB := Lib.hid htb
        have HTC := Lib.hid htc
        clear hta htb htc
        have hex : ∃ l0 l1 l2 l3 l4 l5 l6 l7 l8 l9 l10 l11 l12 l13 l14 l15 l16 : Nat, L = [l0, l1, l2, l3, l4, l5, l6, l7, l8, l9, l10, l11, l12, l13, l14, l15, l16] := by
          match L, HLN.out with
          | [l0, l1, l2, l3, l4, l5, l6, l7, l8, l9, l10, l11, l12, l13, l14, l15, l16], _ => exact ⟨l0, l1, l2, l3, l4, l5, l6, l7, l8, l9, l10, l11, l12, l13, l14, l15, l16, rfl⟩
        obtain ⟨l0, l1, l2, l3, l4, l5, l6, l7, l8, l9, l10, l11, l12, l13, l14, l15, l16, rfl⟩ := hex
        have HPK : Hid (rdPk s = (⟨(l0 : Int), (l1 : Int), (l2 : Int), l3, l4, l5, l6, (l7 : Int), (l8 : Int), l9, l10, l11, l12, l13, l14, l15, l16, ta, tb, tc⟩ : Pk)) := Lib.hid (by unfold rdPk; rw [HLL.out, HTA.out, HTB.out, HTC.out]; rfl)
        have HOK : Hid ((⟨(l0 : Int), (l1 : Int), (l2 : Int), l3, l4, l5, l6, (l7 : Int), (l8 : Int), l9, l10, l11, l12, l13, l14, l15, l16, ta, tb, tc⟩ : Pk).OK) := Lib.hid (by rw [← HPK.out]; exact of_ok _ _ _ _ (readNums_lt 17 _) (rd_small s).1 (rd_small s).2.1 (rd_small s).2.2)
        have hlt : ∀ x ∈ [l0, l1, l2, l3, l4, l5, l6, l7, l8, l9, l10, l11, l12, l13, l14, l15, l16], x < 4294967296 := by rw [← HLL.out]; exact readNums_lt 17 _
        have b0 := hlt l0 (by simp)
        have b1 := hlt l1 (by simp)
        have b2 := hlt l2 (by simp)
        have b7 := hlt l7 (by simp)
        have b8 := hlt l8 (by simp)
        clear hlt
        have hal := (Below.refl w12.heap.size w12).alloc (Nat.le_refl _) (.cells #[.int .i64 (l7 : Int), .int .i64 (l8 : Int), .int .u32 (l9 : Int), .int .u32 (l10 : Int), .int .u32 (l11 : Int), .int .u32 (l12 : Int), .int .u32 (l13 : Int), .int .u32 (l14 : Int), .int .u32 (l15 : Int), .int .u32 (l16 : Int), .string ta, .string tb, .string tc] 25)
        have H13 := Lib.hid (H12.out.below hal)
        have HO13 : Hid (OAt (w12.alloc (.cells #[.int .i64 (l7 : Int), .int .i64 (l8 : Int), .int .u32 (l9 : Int), .int .u32 (l10 : Int), .int .u32 (l11 : Int), .int .u32 (l12 : Int), .int .u32 (l13 : Int), .int .u32 (l14 : Int), .int .u32 (l15 : Int), .int .u32 (l16 : Int), .string ta, .string tb, .string tc] 25)) w12.heap.size (⟨(l0 : Int), (l1 : Int), (l2 : Int), l3, l4, l5, l6, (l7 : Int), (l8 : Int), l9, l10, l11, l12, l13, l14, l15, l16, ta, tb, tc⟩ : Pk)) := Lib.hid (alloc_at w12 _)
        have HOL : Hid ((Instr.loadAt 25 (.pointer (some ⟨w12.heap.size, 0, none⟩))).run Tryd.prog (w12.alloc (.cells #[.int .i64 (l7 : Int), .int .i64 (l8 : Int), .int .u32 (l9 : Int), .int .u32 (l10 : Int), .int .u32 (l11 : Int), .int .u32 (l12 : Int), .int .u32 (l13 : Int), .int .u32 (l14 : Int), .int .u32 (l15 : Int), .int .u32 (l16 : Int), .string ta, .string tb, .string tc] 25)) = .ok (.agg #[.int .i64 (l7 : Int), .int .i64 (l8 : Int), .int .u32 (l9 : Int), .int .u32 (l10 : Int), .int .u32 (l11 : Int), .int .u32 (l12 : Int), .int .u32 (l13 : Int), .int .u32 (l14 : Int), .int .u32 (l15 : Int), .int .u32 (l16 : Int), .string ta, .string tb, .string tc]) (w12.alloc (.cells #[.int .i64 (l7 : Int), .int .i64 (l8 : Int), .int .u32 (l9 : Int), .int .u32 (l10 : Int), .int .u32 (l11 : Int), .int .u32 (l12 : Int), .int .u32 (l13 : Int), .int .u32 (l14 : Int), .int .u32 (l15 : Int), .int .u32 (l16 : Int), .string ta, .string tb, .string tc] 25))) := Lib.hid HO13.out.load
        have HSO : Hid ((Instr.storeAt 25 (.pointer (some ⟨w12.heap.size, 0, none⟩)) (.agg #[.int .i64 (l7 : Int), .int .i64 (l8 : Int), .int .u32 (l9 : Int), .int .u32 (l10 : Int), .int .u32 (l11 : Int), .int .u32 (l12 : Int), .int .u32 (l13 : Int), .int .u32 (l14 : Int), .int .u32 (l15 : Int), .int .u32 (l16 : Int), .string ta, .string tb, .string tc])).run Tryd.prog (w12.alloc (.cells #[.int .i64 0, .int .i64 0, .int .u32 0, .int .u32 0, .int .u32 0, .int .u32 0, .int .u32 0, .int .u32 0, .int .u32 0, .int .u32 0, .string ⟨#[]⟩, .string ⟨#[]⟩, .string ⟨#[]⟩] 25)) = .ok () (w12.alloc (.cells #[.int .i64 (l7 : Int), .int .i64 (l8 : Int), .int .u32 (l9 : Int), .int .u32 (l10 : Int), .int .u32 (l11 : Int), .int .u32 (l12 : Int), .int .u32 (l13 : Int), .int .u32 (l14 : Int), .int .u32 (l15 : Int), .int .u32 (l16 : Int), .string ta, .string tb, .string tc] 25))) := Lib.hid (op_store w12 (⟨(l0 : Int), (l1 : Int), (l2 : Int), l3, l4, l5, l6, (l7 : Int), (l8 : Int), l9, l10, l11, l12, l13, l14, l15, l16, ta, tb, tc⟩ : Pk))
        have hn : (w12.alloc (.cells #[.int .i64 (l7 : Int), .int .i64 (l8 : Int), .int .u32 (l9 : Int), .int .u32 (l10 : Int), .int .u32 (l11 : Int), .int .u32 (l12 : Int), .int .u32 (l13 : Int), .int .u32 (l14 : Int), .int .u32 (l15 : Int), .int .u32 (l16 : Int), .string ta, .string tb, .string tc] 25)).heap.size = w12.heap.size + 1 := by simp
        obtain ⟨w14, hr14, hp14, hb14⟩ : ∃ w', (Instr.storeAt 27 (.pointer (some ⟨w12.heap.size + 1, 0, none⟩)) (.agg #[.int .i64 (l0 : Int), .int .i64 (l1 : Int), .int .i64 (l2 : Int), .int .u32 (l3 : Int), .int .u32 (l4 : Int), .int .u32 (l5 : Int), .int .u32 (l6 : Int), .int .i64 (l7 : Int), .int .i64 (l8 : Int), .int .u32 (l9 : Int), .int .u32 (l10 : Int), .int .u32 (l11 : Int), .int .u32 (l12 : Int), .int .u32 (l13 : Int), .int .u32 (l14 : Int), .int .u32 (l15 : Int), .int .u32 (l16 : Int), .string ta, .string tb, .string tc])).run Tryd.prog ((w12.alloc (.cells #[.int .i64 (l7 : Int), .int .i64 (l8 : Int), .int .u32 (l9 : Int), .int .u32 (l10 : Int), .int .u32 (l11 : Int), .int .u32 (l12 : Int), .int .u32 (l13 : Int), .int .u32 (l14 : Int), .int .u32 (l15 : Int), .int .u32 (l16 : Int), .string ta, .string tb, .string tc] 25)).alloc (.cells #[.int .i64 0, .int .i64 0, .int .i64 0, .int .u32 0, .int .u32 0, .int .u32 0, .int .u32 0, .int .i64 0, .int .i64 0, .int .u32 0, .int .u32 0, .int .u32 0, .int .u32 0, .int .u32 0, .int .u32 0, .int .u32 0, .int .u32 0, .string ⟨#[]⟩, .string ⟨#[]⟩, .string ⟨#[]⟩] 27)) = .ok () w' ∧ PAt w' (w12.heap.size + 1) (⟨(l0 : Int), (l1 : Int), (l2 : Int), l3, l4, l5, l6, (l7 : Int), (l8 : Int), l9, l10, l11, l12, l13, l14, l15, l16, ta, tb, tc⟩ : Pk) ∧ Below (w12.alloc (.cells #[.int .i64 (l7 : Int), .int .i64 (l8 : Int), .int .u32 (l9 : Int), .int .u32 (l10 : Int), .int .u32 (l11 : Int), .int .u32 (l12 : Int), .int .u32 (l13 : Int), .int .u32 (l14 : Int), .int .u32 (l15 : Int), .int .u32 (l16 : Int), .string ta, .string tb, .string tc] 25)).heap.size (w12.alloc (.cells #[.int .i64 (l7 : Int), .int .i64 (l8 : Int), .int .u32 (l9 : Int), .int .u32 (l10 : Int), .int .u32 (l11 : Int), .int .u32 (l12 : Int), .int .u32 (l13 : Int), .int .u32 (l14 : Int), .int .u32 (l15 : Int), .int .u32 (l16 : Int), .string ta, .string tb, .string tc] 25)) w' := by
          have h0 := fresh_pk (w12.alloc (.cells #[.int .i64 (l7 : Int), .int .i64 (l8 : Int), .int .u32 (l9 : Int), .int .u32 (l10 : Int), .int .u32 (l11 : Int), .int .u32 (l12 : Int), .int .u32 (l13 : Int), .int .u32 (l14 : Int), .int .u32 (l15 : Int), .int .u32 (l16 : Int), .string ta, .string tb, .string tc] 25)) (⟨(l0 : Int), (l1 : Int), (l2 : Int), l3, l4, l5, l6, (l7 : Int), (l8 : Int), l9, l10, l11, l12, l13, l14, l15, l16, ta, tb, tc⟩ : Pk)
          rw [hn] at h0 ⊢
          exact h0
        have HSP := Lib.hid hr14
        have HP14 := Lib.hid hp14
        have HPL : Hid ((Instr.loadAt 27 (.pointer (some ⟨w12.heap.size + 1, 0, none⟩))).run Tryd.prog w14 = .ok (.agg #[.int .i64 (l0 : Int), .int .i64 (l1 : Int), .int .i64 (l2 : Int), .int .u32 (l3 : Int), .int .u32 (l4 : Int), .int .u32 (l5 : Int), .int .u32 (l6 : Int), .int .i64 (l7 : Int), .int .i64 (l8 : Int), .int .u32 (l9 : Int), .int .u32 (l10 : Int), .int .u32 (l11 : Int), .int .u32 (l12 : Int), .int .u32 (l13 : Int), .int .u32 (l14 : Int), .int .u32 (l15 : Int), .int .u32 (l16 : Int), .string ta, .string tb, .string tc]) w14) := Lib.hid hp14.load
        have H14 := Lib.hid (H13.out.below hb14)
        clear hal hr14 hp14 hb14 hn
        have c7 : w12.cell? ⟨g, 7, none⟩ = some (.int .u32 (l7 : Int)) := H12.out.cell 7 (by show 7 < 17; decide)
        have c8 : w12.cell? ⟨g, 8, none⟩ = some (.int .u32 (l8 : Int)) := H12.out.cell 8 (by show 8 < 17; decide)
        have c9 : w12.cell? ⟨g, 9, none⟩ = some (.int .u32 (l9 : Int)) := H12.out.cell 9 (by show 9 < 17; decide)
        have c10 : w12.cell? ⟨g, 10, none⟩ = some (.int .u32 (l10 : Int)) := H12.out.cell 10 (by show 10 < 17; decide)
        have c11 : w12.cell? ⟨g, 11, none⟩ = some (.int .u32 (l11 : Int)) := H12.out.cell 11 (by show 11 < 17; decide)
        have c12 : w12.cell? ⟨g, 12, none⟩ = some (.int .u32 (l12 : Int)) := H12.out.cell 12 (by show 12 < 17; decide)
        have c13 : w12.cell? ⟨g, 13, none⟩ = some (.int .u32 (l13 : Int)) := H12.out.cell 13 (by show 13 < 17; decide)
        have c14 : w12.cell? ⟨g, 14, none⟩ = some (.int .u32 (l14 : Int)) := H12.out.cell 14 (by show 14 < 17; decide)
        have c15 : w12.cell? ⟨g, 15, none⟩ = some (.int .u32 (l15 : Int)) := H12.out.cell 15 (by show 15 < 17; decide)
        have c16 : w12.cell? ⟨g, 16, none⟩ = some (.int .u32 (l16 : Int)) := H12.out.cell 16 (by show 16 < 17; decide)
        have e0 : (w12.alloc (.cells #[.int .i64 (l7 : Int), .int .i64 (l8 : Int), .int .u32 (l9 : Int), .int .u32 (l10 : Int), .int .u32 (l11 : Int), .int .u32 (l12 : Int), .int .u32 (l13 : Int), .int .u32 (l14 : Int), .int .u32 (l15 : Int), .int .u32 (l16 : Int), .string ta, .string tb, .string tc] 25)).cell? ⟨g, 0, none⟩ = some (.int .u32 (l0 : Int)) := H13.out.cell 0 (by show 0 < 17; decide)
        have e1 : (w12.alloc (.cells #[.int .i64 (l7 : Int), .int .i64 (l8 : Int), .int .u32 (l9 : Int), .int .u32 (l10 : Int), .int .u32 (l11 : Int), .int .u32 (l12 : Int), .int .u32 (l13 : Int), .int .u32 (l14 : Int), .int .u32 (l15 : Int), .int .u32 (l16 : Int), .string ta, .string tb, .string tc] 25)).cell? ⟨g, 1, none⟩ = some (.int .u32 (l1 : Int)) := H13.out.cell 1 (by show 1 < 17; decide)
        have e2 : (w12.alloc (.cells #[.int .i64 (l7 : Int), .int .i64 (l8 : Int), .int .u32 (l9 : Int), .int .u32 (l10 : Int), .int .u32 (l11 : Int), .int .u32 (l12 : Int), .int .u32 (l13 : Int), .int .u32 (l14 : Int), .int .u32 (l15 : Int), .int .u32 (l16 : Int), .string ta, .string tb, .string tc] 25)).cell? ⟨g, 2, none⟩ = some (.int .u32 (l2 : Int)) := H13.out.cell 2 (by show 2 < 17; decide)
        have e3 : (w12.alloc (.cells #[.int .i64 (l7 : Int), .int .i64 (l8 : Int), .int .u32 (l9 : Int), .int .u32 (l10 : Int), .int .u32 (l11 : Int), .int .u32 (l12 : Int), .int .u32 (l13 : Int), .int .u32 (l14 : Int), .int .u32 (l15 : Int), .int .u32 (l16 : Int), .string ta, .string tb, .string tc] 25)).cell? ⟨g, 3, none⟩ = some (.int .u32 (l3 : Int)) := H13.out.cell 3 (by show 3 < 17; decide)
        have e4 : (w12.alloc (.cells #[.int .i64 (l7 : Int), .int .i64 (l8 : Int), .int .u32 (l9 : Int), .int .u32 (l10 : Int), .int .u32 (l11 : Int), .int .u32 (l12 : Int), .int .u32 (l13 : Int), .int .u32 (l14 : Int), .int .u32 (l15 : Int), .int .u32 (l16 : Int), .string ta, .string tb, .string tc] 25)).cell? ⟨g, 4, none⟩ = some (.int .u32 (l4 : Int)) := H13.out.cell 4 (by show 4 < 17; decide)
        have e5 : (w12.alloc (.cells #[.int .i64 (l7 : Int), .int .i64 (l8 : Int), .int .u32 (l9 : Int), .int .u32 (l10 : Int), .int .u32 (l11 : Int), .int .u32 (l12 : Int), .int .u32 (l13 : Int), .int .u32 (l14 : Int), .int .u32 (l15 : Int), .int .u32 (l16 : Int), .string ta, .string tb, .string tc] 25)).cell? ⟨g, 5, none⟩ = some (.int .u32 (l5 : Int)) := H13.out.cell 5 (by show 5 < 17; decide)
        have e6 : (w12.alloc (.cells #[.int .i64 (l7 : Int), .int .i64 (l8 : Int), .int .u32 (l9 : Int), .int .u32 (l10 : Int), .int .u32 (l11 : Int), .int .u32 (l12 : Int), .int .u32 (l13 : Int), .int .u32 (l14 : Int), .int .u32 (l15 : Int), .int .u32 (l16 : Int), .string ta, .string tb, .string tc] 25)).cell? ⟨g, 6, none⟩ = some (.int .u32 (l6 : Int)) := H13.out.cell 6 (by show 6 < 17; decide)
        go_wp2_with (first | ((with_reducible refine gate_store (p := 11) rfl ?_); refine wpList_none rfl rfl (execOp_store rfl rfl rfl HSO.out) ?_) | ((with_reducible refine gate_dst (N := 79) rfl ?_); refine wpList_val rfl rfl (execOp_load rfl rfl HOL.out) ?_) | ((with_reducible refine gate_store (p := 12) rfl ?_); refine wpList_none rfl rfl (execOp_store rfl rfl rfl HSP.out) ?_) | ((with_reducible refine gate_dst (N := 81) rfl ?_); refine wpList_val rfl rfl (execOp_load rfl rfl HPL.out) ?_))
        clear c7 c8 c9 c10 c11 c12 c13 c14 c15 c16 e0 e1 e2 e3 e4 e5 e6 b0 b1 b2 b7 b8 HSO HSP HO13 H13 H12 HOL HPL
        refine (dright_any (⟨(l0 : Int), (l1 : Int), (l2 : Int), l3, l4, l5, l6, (l7 : Int), (l8 : Int), l9, l10, l11, l12, l13, l14, l15, l16, ta, tb, tc⟩ : Pk) HOK.out _).mono ?_
        rintro e w15 ⟨rfl, hb⟩
        have H15 := Lib.hid (H14.out.below hb)
        have HP15 := Lib.hid (HP14.out.below hb)
        clear hb H14 HP14
        rw [← HPK.out] at HP15 ⊢
        cases hr : right (rdPk s) with
        | false =>
          have HEQ : Hid (readPk s = (Pk.zero, 3)) := Lib.hid (by unfold readPk; rw [if_neg (fun h => h HE.out), if_neg (by rw [hr]; exact Bool.false_ne_true)])
          clear hr
          have hpost : ∀ v : Value, v = .int .i64 3 → Ending.returned (.tuple #[.agg #[.int .i64 Pk.zero.kind, .int .i64 Pk.zero.fr, .int .i64 Pk.zero.to, .int .u32 (Pk.zero.life : Int), .int .u32 (Pk.zero.seq : Int), .int .u32 (Pk.zero.asked : Int), .int .u32 (Pk.zero.boot : Int), .int .i64 Pk.zero.code, .int .i64 Pk.zero.err, .int .u32 (Pk.zero.file : Int), .int .u32 (Pk.zero.epoch : Int), .int .u32 (Pk.zero.off : Int), .int .u32 (Pk.zero.len : Int), .int .u32 (Pk.zero.size : Int), .int .u32 (Pk.zero.mode : Int), .int .u32 (Pk.zero.deny : Int), .int .u32 (Pk.zero.handle : Int), .string Pk.zero.path, .string Pk.zero.other, .string Pk.zero.data], v]) = Ending.returned (.tuple #[.agg #[.int .i64 (readPk s).1.kind, .int .i64 (readPk s).1.fr, .int .i64 (readPk s).1.to, .int .u32 ((readPk s).1.life : Int), .int .u32 ((readPk s).1.seq : Int), .int .u32 ((readPk s).1.asked : Int), .int .u32 ((readPk s).1.boot : Int), .int .i64 (readPk s).1.code, .int .i64 (readPk s).1.err, .int .u32 ((readPk s).1.file : Int), .int .u32 ((readPk s).1.epoch : Int), .int .u32 ((readPk s).1.off : Int), .int .u32 ((readPk s).1.len : Int), .int .u32 ((readPk s).1.size : Int), .int .u32 ((readPk s).1.mode : Int), .int .u32 ((readPk s).1.deny : Int), .int .u32 ((readPk s).1.handle : Int), .string (readPk s).1.path, .string (readPk s).1.other, .string (readPk s).1.data], .int .i64 ((readPk s).2 : Int)]) := fun v hv => by rw [hv, HEQ.out] <;> rfl
          have HPOST := Lib.hid hpost
          clear hpost
          obtain ⟨w16, hr16, h16, hf16⟩ := H15.out.z.store Pk.zero
          have HST16 := Lib.hid hr16
          have H16 := Lib.hid h16
          have HB16 := Lib.hid (below_fr (F := (· = R)) H15.out.b (fun i hi => by have e : i = R := hi; rw [e]; exact H15.out.R0) hf16 H15.out.b.size)
          clear hr16 h16 hf16
          go_wp2_with ((with_reducible refine gate_store (p := 2) rfl ?_); refine wpList_none rfl rfl (execOp_store rfl rfl rfl HST16.out) ?_)
          refine bodyPost_ret (res_cell2 (fn := Tryd.f16) (a := 2) (b := 3) (t := 27) rfl rfl H16.out.loadVar) rfl ?_
          exact ⟨HPOST.out _ rfl, HB16.out⟩
        | true =>
          have HEQ : Hid (readPk s = (rdPk s, 0)) := Lib.hid (by unfold readPk; rw [if_neg (fun h => h HE.out), if_pos hr])
          clear hr
          have hpost : ∀ v : Value, v = .int .i64 0 → Ending.returned (.tuple #[.agg #[.int .i64 (rdPk s).kind, .int .i64 (rdPk s).fr, .int .i64 (rdPk s).to, .int .u32 ((rdPk s).life : Int), .int .u32 ((rdPk s).seq : Int), .int .u32 ((rdPk s).asked : Int), .int .u32 ((rdPk s).boot : Int), .int .i64 (rdPk s).code, .int .i64 (rdPk s).err, .int .u32 ((rdPk s).file : Int), .int .u32 ((rdPk s).epoch : Int), .int .u32 ((rdPk s).off : Int), .int .u32 ((rdPk s).len : Int), .int .u32 ((rdPk s).size : Int), .int .u32 ((rdPk s).mode : Int), .int .u32 ((rdPk s).deny : Int), .int .u32 ((rdPk s).handle : Int), .string (rdPk s).path, .string (rdPk s).other, .string (rdPk s).data], v]) = Ending.returned (.tuple #[.agg #[.int .i64 (readPk s).1.kind, .int .i64 (readPk s).1.fr, .int .i64 (readPk s).1.to, .int .u32 ((readPk s).1.life : Int), .int .u32 ((readPk s).1.seq : Int), .int .u32 ((readPk s).1.asked : Int), .int .u32 ((readPk s).1.boot : Int), .int .i64 (readPk s).1.code, .int .i64 (readPk s).1.err, .int .u32 ((readPk s).1.file : Int), .int .u32 ((readPk s).1.epoch : Int), .int .u32 ((readPk s).1.off : Int), .int .u32 ((readPk s).1.len : Int), .int .u32 ((readPk s).1.size : Int), .int .u32 ((readPk s).1.mode : Int), .int .u32 ((readPk s).1.deny : Int), .int .u32 ((readPk s).1.handle : Int), .string (readPk s).1.path, .string (readPk s).1.other, .string (readPk s).1.data], .int .i64 ((readPk s).2 : Int)]) := fun v hv => by rw [hv, HEQ.out] <;> rfl
          have HPOST := Lib.hid hpost
          clear hpost
          obtain ⟨w16, hr16, h16, hf16⟩ := H15.out.z.store (rdPk s)
          have HST16 := Lib.hid hr16
          have H16 := Lib.hid h16
          have HB16 := Lib.hid (below_fr (F := (· = R)) H15.out.b (fun i hi => by have e : i = R := hi; rw [e]; exact H15.out.R0) hf16 H15.out.b.size)
          clear hr16 h16 hf16
          go_wp2_with (first | ((with_reducible refine gate_dst (N := 85) rfl ?_); refine wpList_val rfl rfl (execOp_load rfl rfl HP15.out.load) ?_) | ((with_reducible refine gate_store (p := 2) rfl ?_); refine wpList_none rfl rfl (execOp_store rfl rfl rfl HST16.out) ?_))
          refine bodyPost_ret (res_cell2 (fn := Tryd.f16) (a := 2) (b := 3) (t := 27) rfl rfl H16.out.loadVar) rfl ?_
          exact ⟨HPOST.out _ rfl, HB16.out⟩
      · have HEQ : Hid (readPk s = (Pk.zero, (rdE s).e)) := Lib.hid (by unfold readPk; rw [if_pos he])
        have hpost : ∀ v : Value, v = .int .i64 ((rdE s).e : Int) → Ending.returned (.tuple #[.agg #[.int .i64 Pk.zero.kind, .int .i64 Pk.zero.fr, .int .i64 Pk.zero.to, .int .u32 (Pk.zero.life : Int), .int .u32 (Pk.zero.seq : Int), .int .u32 (Pk.zero.asked : Int), .int .u32 (Pk.zero.boot : Int), .int .i64 Pk.zero.code, .int .i64 Pk.zero.err, .int .u32 (Pk.zero.file : Int), .int .u32 (Pk.zero.epoch : Int), .int .u32 (Pk.zero.off : Int), .int .u32 (Pk.zero.len : Int), .int .u32 (Pk.zero.size : Int), .int .u32 (Pk.zero.mode : Int), .int .u32 (Pk.zero.deny : Int), .int .u32 (Pk.zero.handle : Int), .string Pk.zero.path, .string Pk.zero.other, .string Pk.zero.data], v]) = Ending.returned (.tuple #[.agg #[.int .i64 (readPk s).1.kind, .int .i64 (readPk s).1.fr, .int .i64 (readPk s).1.to, .int .u32 ((readPk s).1.life : Int), .int .u32 ((readPk s).1.seq : Int), .int .u32 ((readPk s).1.asked : Int), .int .u32 ((readPk s).1.boot : Int), .int .i64 (readPk s).1.code, .int .i64 (readPk s).1.err, .int .u32 ((readPk s).1.file : Int), .int .u32 ((readPk s).1.epoch : Int), .int .u32 ((readPk s).1.off : Int), .int .u32 ((readPk s).1.len : Int), .int .u32 ((readPk s).1.size : Int), .int .u32 ((readPk s).1.mode : Int), .int .u32 ((readPk s).1.deny : Int), .int .u32 ((readPk s).1.handle : Int), .string (readPk s).1.path, .string (readPk s).1.other, .string (readPk s).1.data], .int .i64 ((readPk s).2 : Int)]) := fun v hv => by rw [hv, HEQ.out] <;> rfl
        have HPOST := Lib.hid hpost
        clear hpost
        have hz : (((rdE s).e : Int) != 0) = true := by rw [bne_iff_ne]; omega
        obtain ⟨w13, hr13, h13, hf13⟩ := H12.out.z.store Pk.zero
        have HST13 := Lib.hid hr13
        have H13 := Lib.hid h13
        have HB13 := Lib.hid (below_fr (F := (· = R)) H12.out.b (fun i hi => by have e : i = R := hi; rw [e]; exact H12.out.R0) hf13 H12.out.b.size)
        clear hr13 h13 hf13
        go_wp2_with ((with_reducible refine gate_store (p := 2) rfl ?_); refine wpList_none rfl rfl (execOp_store rfl rfl rfl HST13.out) ?_)
        refine bodyPost_ret (res_cell2 (fn := Tryd.f16) (a := 2) (b := 3) (t := 27) rfl rfl H13.out.loadVar) rfl ?_
        exact ⟨HPOST.out _ rfl, HB13.out⟩
end Go.Proofs.YtiedmkgdhfkcoaaDoor.Pkt
