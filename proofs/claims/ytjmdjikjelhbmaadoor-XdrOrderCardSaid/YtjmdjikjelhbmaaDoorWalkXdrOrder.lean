/- Layer xdr: the walk of XdrOrder: numbers stand in the order of their bytes. -/
import Derived.Test.YtjmdjikjelhbmaaDoorXdrAlive
import Derived.Test.YtjmdjikjelhbmaaDoorXdrDoc
import Derived.Test.YtjmdjikjelhbmaaDoorXdrOrd
namespace Go.Proofs.YtjmdjikjelhbmaaDoor.Xdr
open Go.RowKit Go.Own Go.XdrL Go.Blk Go.OpsL Go.Proofs.YtjmdjikjelhbmaaDoorW.PrintLast Go.Proofs.YtjmdjikjelhbmaaDoorW.PrintWords
set_option linter.unusedVariables false
set_option linter.unusedSimpArgs false
variable {W w w' : World} {B p q : Nat} {b b' : ByteArray} {m : Nat → Option ByteArray}
/-- Writers, each in blocks of its own, from B on. -/
def WS (B : Nat) (W w : World) (m : Nat → Option ByteArray) : Prop := ∃ F : Nat → Nat → Prop, (∀ p b, m p = some b → Wr (F p) w p b) ∧ (∀ p q k, F p k → F q k → p = q) ∧ (∀ p k, F p k → B ≤ k ∧ k < w.heap.size) ∧ Below B W w
def upd (m : Nat → Option ByteArray) (p : Nat) (b : ByteArray) : Nat → Option ByteArray := fun q => if q = p then some b else m q
theorem upd_same : upd m p b p = some b := by simp [upd]
theorem upd_far (h : q ≠ p) : upd m p b q = m q := by simp [upd, h]
theorem WS.start (h : Below B W w) : WS B W w (fun _ => none) := ⟨fun _ _ => False, fun _ _ h => (by cases h), fun _ _ _ h _ => False.elim h, fun _ _ h => False.elim h, h⟩
theorem WS.new (hB : B ≤ W.heap.size) (h : WS B W w m) : WS B W (w.alloc (.cells #[.slice none 0 0] 26)) (upd m w.heap.size ByteArray.empty) := by
  obtain ⟨F, h1, h2, h3, h4⟩ := h
  have hb := (Below.refl w.heap.size w).alloc (Nat.le_refl _) (.cells #[.slice none 0 0] 26)
  have hs : w.heap.size < (w.alloc (.cells #[.slice none 0 0] 26)).heap.size := by simp
  have hw := below_le h4 hB
  refine ⟨fun q k => if q = w.heap.size then k = w.heap.size else F q k, fun q b hq => ?_, fun q r k hk hk2 => ?_, fun q k hk => ?_, h4.alloc hw _⟩
  · unfold upd at hq
    by_cases e : q = w.heap.size
    · subst e
      simp only [if_true, Option.some.injEq] at hq ⊢
      rw [← hq]
      exact new_writer w
    · simp only [if_neg e] at hq ⊢
      exact (h1 q b hq).below hb
  · by_cases e : q = w.heap.size <;> by_cases e2 : r = w.heap.size
    · omega
    · simp only [if_pos e, if_neg e2] at hk hk2
      have := (h3 r k hk2).2; omega
    · simp only [if_neg e, if_pos e2] at hk hk2
      have := (h3 q k hk).2; omega
    · simp only [if_neg e, if_neg e2] at hk hk2
      exact h2 q r k hk hk2
  · by_cases e : q = w.heap.size
    · simp only [if_pos e] at hk
      omega
    · simp only [if_neg e] at hk
      have := h3 q k hk
      omega
theorem WS.call {P : Program} {n : Nat} {vs : Array Value} (hB : B ≤ W.heap.size) (h : WS B W w m) (hp : m p = some b) (c : ∀ F, Wr F w p b → Calls P n vs w fun e w' => e = .returned (.tuple #[]) ∧ Wr (Up F w w') w' p b' ∧ Fr F w w') : Calls P n vs w fun e w' => e = .returned (.tuple #[]) ∧ WS B W w' (upd m p b') := by
  obtain ⟨F, h1, h2, h3, h4⟩ := h
  refine (c (F p) (h1 p b hp)).mono fun e w' ⟨he, hw, hf⟩ => ⟨he, fun q k => if q = p then Up (F p) w w' k else F q k, fun q b2 hq => ?_, fun q r k hk hk2 => ?_, fun q k hk => ?_, below_fr h4 (fun k hk => (h3 p k hk).1) hf (below_le h4 hB)⟩
  · unfold upd at hq
    by_cases e : q = p
    · subst e
      simp only [if_true, Option.some.injEq] at hq ⊢
      rw [← hq]
      exact hw
    · simp only [if_neg e] at hq ⊢
      exact (h1 q b2 hq).keep hf (fun k hk hk2 => e (h2 q p k hk hk2))
  · have hs := hf.size
    by_cases e : q = p <;> by_cases e2 : r = p
    · omega
    · simp only [if_pos e, if_neg e2] at hk hk2
      rcases hk with hk | hk
      · have := h2 p r k hk hk2; omega
      · have := (h3 r k hk2).2; omega
    · simp only [if_neg e, if_pos e2] at hk hk2
      rcases hk2 with hk2 | hk2
      · have := h2 q p k hk hk2; omega
      · have := (h3 q k hk).2; omega
    · simp only [if_neg e, if_neg e2] at hk hk2
      exact h2 q r k hk hk2
  · have hs := hf.size
    have hb := below_le h4 hB
    by_cases e : q = p
    · simp only [if_pos e] at hk
      rcases hk with hk | hk
      · have := h3 p k hk; omega
      · omega
    · simp only [if_neg e] at hk
      have := h3 q k hk
      omega
theorem WS.bytes (h : WS B W w m) (hp : m p = some b) : Calls Tryd.prog 13 #[.pointer (some ⟨p, 0, none⟩)] w fun e w' => e = .returned (.string b) ∧ w = w' := h.elim fun F h => bytes_any (h.1 p b hp)
theorem WS.below (hB : B ≤ W.heap.size) (h : WS B W w m) (hb : Below w.heap.size w w') : WS B W w' m := by
  obtain ⟨F, h1, h2, h3, h4⟩ := h
  exact ⟨F, fun q b hq => (h1 q b hq).below hb, h2, fun q k hk => ⟨(h3 q k hk).1, Nat.lt_of_lt_of_le (h3 q k hk).2 hb.size⟩, h4.trans (hb.mono (below_le h4 hB))⟩
theorem WS.out (h : WS B W w m) : Below B W w := h.elim fun _ h => h.2.2.2
set_option maxHeartbeats 4000000 in
theorem order_nat (n m : Nat) (hn : n < 18446744073709551616) (hm : m < 18446744073709551616) (w : World) : Calls Tryd.prog 3 #[.int .u64 (n : Int), .int .u64 (m : Int)] w fun e w' => e = .returned (.bool true) ∧ Below w.heap.size w w' := by
  have HLE := Lib.hid (Nat.le_refl w.heap.size)
  have HN := Lib.hid hn
  have HM := Lib.hid hm
  have E1 := Lib.hid (show (n : Int) % 4294967296 = ((n % 4294967296 : Nat) : Int) by omega)
  have E2 := Lib.hid (show (m : Int) % 4294967296 = ((m % 4294967296 : Nat) : Int) by omega)
  go_enter Tryd.func3, Tryd.ntmps3
  go_wp2_with fail
  refine (alive_calls w).mono ?_
  rintro e w1 ⟨rfl, hb⟩
  have h0 := WS.new HLE.out (WS.new HLE.out (WS.new HLE.out (WS.new HLE.out (WS.start hb))))
  have ea : ∀ (w : World) o, (w.alloc o).heap.size = w.heap.size + 1 := fun w o => by simp
  simp only [ea] at h0
  have H0 := Lib.hid h0
  clear hb ea h0
  go_wp2_with fail
  refine (WS.call HLE.out H0.out (b := ByteArray.empty) (by simp only [upd]; repeat (first | rfl | rw [if_neg (by omega)] | rw [if_pos (by omega)])) (fun F h => long_any h n HN.out (by decide))).mono ?_
  rintro e w2 ⟨rfl, h1⟩
  have H1 := Lib.hid h1
  clear h1 H0
  go_wp2_with fail
  refine (WS.call HLE.out H1.out (b := ByteArray.empty) (by simp only [upd]; repeat (first | rfl | rw [if_neg (by omega)] | rw [if_pos (by omega)])) (fun F h => long_any h m HM.out (by decide))).mono ?_
  rintro e w3 ⟨rfl, h1⟩
  have H2 := Lib.hid h1
  clear h1 H1
  go_wp2_with fail
  rw [E1.out]
  refine (WS.call HLE.out H2.out (b := ByteArray.empty) (by simp only [upd]; repeat (first | rfl | rw [if_neg (by omega)] | rw [if_pos (by omega)])) (fun F h => number_any h (n % 4294967296) (Nat.mod_lt _ (by decide)) (by decide))).mono ?_
  rintro e w4 ⟨rfl, h1⟩
  have H3 := Lib.hid h1
  clear h1 H2
  go_wp2_with fail
  rw [E2.out]
  refine (WS.call HLE.out H3.out (b := ByteArray.empty) (by simp only [upd]; repeat (first | rfl | rw [if_neg (by omega)] | rw [if_pos (by omega)])) (fun F h => number_any h (m % 4294967296) (Nat.mod_lt _ (by decide)) (by decide))).mono ?_
  rintro e w5 ⟨rfl, h1⟩
  have H4 := Lib.hid h1
  clear h1 H3
  go_wp2_with fail
  refine (alive_calls _).mono ?_
  rintro e w6 ⟨rfl, hb⟩
  have H5 := Lib.hid (H4.out.below HLE.out hb)
  clear hb H4
  have L1 := less_long8 n m HN.out HM.out
  have L2 := less_num4 (n % 4294967296) (m % 4294967296) (Nat.mod_lt _ (by decide)) (Nat.mod_lt _ (by decide))
  have HL1 := Lib.hid L1
  rw [show decide (n % 4294967296 < m % 4294967296) = decide ((n : Int) % 4294967296 < (m : Int) % 4294967296) by rw [decide_eq_decide]; omega] at L2
  have HL2 := Lib.hid L2
  clear L1 L2
  go_wp2_with fail
  refine (WS.bytes H5.out (b := long8 n) (by simp only [upd]; repeat (first | rfl | rw [if_neg (by omega)] | rw [if_pos (by omega)]))).mono ?_
  rintro e w7 ⟨rfl, rfl⟩
  go_wp2_with fail
  refine (WS.bytes H5.out (b := long8 m) (by simp only [upd]; repeat (first | rfl | rw [if_neg (by omega)] | rw [if_pos (by omega)]))).mono ?_
  rintro e w7 ⟨rfl, rfl⟩
  have L1 := HL1.out
  go_wp2_with fail
  refine (WS.bytes H5.out (b := num4 (n % 4294967296)) (by simp only [upd]; repeat (first | rfl | rw [if_neg (by omega)] | rw [if_pos (by omega)]))).mono ?_
  rintro e w7 ⟨rfl, rfl⟩
  clear L1
  go_wp2_with fail
  refine (WS.bytes H5.out (b := num4 (m % 4294967296)) (by simp only [upd]; repeat (first | rfl | rw [if_neg (by omega)] | rw [if_pos (by omega)]))).mono ?_
  rintro e w7 ⟨rfl, rfl⟩
  have L2 := HL2.out
  go_wp2_with fail
  refine (WS.bytes H5.out (b := long8 n) (by simp only [upd]; repeat (first | rfl | rw [if_neg (by omega)] | rw [if_pos (by omega)]))).mono ?_
  rintro e w7 ⟨rfl, rfl⟩
  clear L2
  go_wp2_with fail
  refine (dlong n HN.out _).mono ?_
  rintro e w8 ⟨rfl, hb⟩
  have H6 := Lib.hid (H5.out.below HLE.out hb)
  clear hb H5
  go_wp2
  go_ret
  exact ⟨rfl, H6.out.out⟩
theorem xdrOrder_walk (a0 : Int) (a1 : Int) (w : World) (w0 : (Lit.int .u64 a0).wf = true) (w1 : (Lit.int .u64 a1).wf = true) :
    Calls Tryd.prog 3 #[.int .u64 a0, .int .u64 a1] w fun e w' => e = .returned (.bool true) ∧ Below w.heap.size w w' := by
  have b0 := bounds_u64 w0
  have b1 := bounds_u64 w1
  obtain ⟨n, rfl⟩ := Int.eq_ofNat_of_zero_le b0.1
  obtain ⟨m, rfl⟩ := Int.eq_ofNat_of_zero_le b1.1
  exact order_nat n m (by have := b0.2; omega) (by have := b1.2; omega) w
end Go.Proofs.YtjmdjikjelhbmaaDoor.Xdr
