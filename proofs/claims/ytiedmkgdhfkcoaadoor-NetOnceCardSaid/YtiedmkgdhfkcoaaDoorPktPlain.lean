/- Layer proto, plainly: packets and their bytes. -/
import Derived.Test.YtiedmkgdhfkcoaaDoorXdrLaws
namespace Go.PktL
open Go.XdrL
set_option linter.unusedVariables false
set_option linter.unusedSimpArgs false
structure Pk where
  kind : Int
  fr : Int
  to : Int
  life : Nat
  seq : Nat
  asked : Nat
  boot : Nat
  code : Int
  err : Int
  file : Nat
  epoch : Nat
  off : Nat
  len : Nat
  size : Nat
  mode : Nat
  deny : Nat
  handle : Nat
  path : ByteArray
  other : ByteArray
  data : ByteArray
deriving DecidableEq
def Pk.zero : Pk := ⟨0, 0, 0, 0, 0, 0, 0, 0, 0, 0, 0, 0, 0, 0, 0, 0, 0, ByteArray.empty, ByteArray.empty, ByteArray.empty⟩
def I64 (n : Int) : Prop := -9223372036854775808 ≤ n ∧ n ≤ 9223372036854775807
/-- Numbers that fit. -/
structure Pk.OK (p : Pk) : Prop where
  kind : I64 p.kind
  fr : I64 p.fr
  to : I64 p.to
  code : I64 p.code
  err : I64 p.err
  life : p.life < 4294967296
  seq : p.seq < 4294967296
  asked : p.asked < 4294967296
  boot : p.boot < 4294967296
  file : p.file < 4294967296
  epoch : p.epoch < 4294967296
  off : p.off < 4294967296
  len : p.len < 4294967296
  size : p.size < 4294967296
  mode : p.mode < 4294967296
  deny : p.deny < 4294967296
  handle : p.handle < 4294967296
  path : p.path.size ≤ 140737488351232
  other : p.other.size ≤ 140737488351232
  data : p.data.size ≤ 140737488351232
def known (c : Int) : Bool := decide ((1 ≤ c ∧ c ≤ 5) ∨ (11 ≤ c ∧ c ≤ 24) ∨ c = 30)
def right (p : Pk) : Bool :=
  decide ((1 ≤ p.kind ∧ p.kind ≤ 3) ∧ (0 ≤ p.fr ∧ p.fr ≤ 255) ∧ (0 ≤ p.to ∧ p.to ≤ 255) ∧ ((1 ≤ p.code ∧ p.code ≤ 5) ∨ (11 ≤ p.code ∧ p.code ≤ 24) ∨ p.code = 30) ∧ (p.code = 30 ↔ p.kind = 3) ∧ (0 ≤ p.err ∧ p.err ≤ 25) ∧ (p.err = 0 ∨ p.kind = 2) ∧ p.path.size ≤ 64 ∧ p.other.size ≤ 64 ∧ p.data.size ≤ 128)
def u32 (n : Int) : Nat := (n % 4294967296).toNat
theorem u32_lt (n : Int) : u32 n < 4294967296 := by unfold u32; omega
def Pk.nums (p : Pk) : List Nat := [u32 p.kind, u32 p.fr, u32 p.to, p.life, p.seq, p.asked, p.boot, u32 p.code, u32 p.err, p.file, p.epoch, p.off, p.len, p.size, p.mode, p.deny, p.handle]
def Pk.bytes (p : Pk) : ByteArray := nums4 p.nums ++ text4 p.path ++ text4 p.other ++ text4 p.data
def Pk.of (l : List Nat) (path other data : ByteArray) : Pk :=
  ⟨l.getD 0 0, l.getD 1 0, l.getD 2 0, l.getD 3 0, l.getD 4 0, l.getD 5 0, l.getD 6 0, l.getD 7 0, l.getD 8 0, l.getD 9 0, l.getD 10 0, l.getD 11 0, l.getD 12 0, l.getD 13 0, l.getD 14 0, l.getD 15 0, l.getD 16 0, path, other, data⟩
def rdN (s : ByteArray) : List Nat × Rd := readNums 17 ⟨s, 0⟩
def rdP (s : ByteArray) : ByteArray × Rd := (rdN s).2.text 64
def rdO (s : ByteArray) : ByteArray × Rd := (rdP s).2.text 64
def rdD (s : ByteArray) : ByteArray × Rd := (rdO s).2.text 128
def rdE (s : ByteArray) : Rd := (rdD s).2.end_
def rdPk (s : ByteArray) : Pk := Pk.of (rdN s).1 (rdP s).1 (rdO s).1 (rdD s).1
def readPk (s : ByteArray) : Pk × Nat := if (rdE s).e ≠ 0 then (Pk.zero, (rdE s).e) else if right (rdPk s) then (rdPk s, 0) else (Pk.zero, 3)
theorem of_path (l : List Nat) (a b c : ByteArray) : (Pk.of l a b c).path = a := rfl
theorem of_other (l : List Nat) (a b c : ByteArray) : (Pk.of l a b c).other = b := rfl
theorem of_data (l : List Nat) (a b c : ByteArray) : (Pk.of l a b c).data = c := rfl
theorem right_iff (p : Pk) : right p = true ↔ ((1 ≤ p.kind ∧ p.kind ≤ 3) ∧ (0 ≤ p.fr ∧ p.fr ≤ 255) ∧ (0 ≤ p.to ∧ p.to ≤ 255) ∧ ((1 ≤ p.code ∧ p.code ≤ 5) ∨ (11 ≤ p.code ∧ p.code ≤ 24) ∨ p.code = 30) ∧ (p.code = 30 ↔ p.kind = 3) ∧ (0 ≤ p.err ∧ p.err ≤ 25) ∧ (p.err = 0 ∨ p.kind = 2) ∧ p.path.size ≤ 64 ∧ p.other.size ≤ 64 ∧ p.data.size ≤ 128) := by
  unfold right; exact decide_eq_true_iff
theorem right_zero : right Pk.zero = false := by decide
theorem nums_lt (p : Pk) (h : p.OK) : ∀ x ∈ p.nums, x < 4294967296 := by
  intro x hx
  simp only [Pk.nums, List.mem_cons, List.not_mem_nil, or_false] at hx
  rcases hx with rfl | rfl | rfl | rfl | rfl | rfl | rfl | rfl | rfl | rfl | rfl | rfl | rfl | rfl | rfl | rfl | rfl
  · exact u32_lt _
  · exact u32_lt _
  · exact u32_lt _
  · exact h.life
  · exact h.seq
  · exact h.asked
  · exact h.boot
  · exact u32_lt _
  · exact u32_lt _
  · exact h.file
  · exact h.epoch
  · exact h.off
  · exact h.len
  · exact h.size
  · exact h.mode
  · exact h.deny
  · exact h.handle
theorem u32_of (n : Int) (h0 : 0 ≤ n) (h1 : n < 4294967296) : ((u32 n : Nat) : Int) = n := by unfold u32; omega
theorem of_nums (p : Pk) (hr : right p = true) : Pk.of p.nums p.path p.other p.data = p := by
  obtain ⟨h1, h2, h3, h4, _, h6, _⟩ := (right_iff p).1 hr
  have a := u32_of p.kind (by omega) (by omega)
  have b := u32_of p.fr (by omega) (by omega)
  have c := u32_of p.to (by omega) (by omega)
  have d := u32_of p.code (by omega) (by omega)
  have e := u32_of p.err (by omega) (by omega)
  cases p
  simp only [Pk.of, Pk.nums, List.getD_cons_zero, List.getD_cons_succ] at *
  rw [a, b, c, d, e]
/-- What was written is read as it was. -/
theorem read_bytes (p : Pk) (h : p.OK) (hr : right p = true) : readPk p.bytes = (p, 0) := by
  obtain ⟨_, _, _, _, _, _, _, s1, s2, s3⟩ := (right_iff p).1 hr
  have e0 : p.bytes = nums4 p.nums ++ (text4 p.path ++ (text4 p.other ++ (text4 p.data ++ ByteArray.empty))) := by
    simp only [Pk.bytes, ByteArray.append_assoc, ByteArray.append_empty]
  have e1 : rdN p.bytes = (p.nums, ⟨text4 p.path ++ (text4 p.other ++ (text4 p.data ++ ByteArray.empty)), 0⟩) := by
    unfold rdN
    rw [e0]
    have hl : p.nums.length = 17 := rfl
    rw [← hl]
    exact readNums_put p.nums _ (nums_lt p h)
  have e2 : rdP p.bytes = (p.path, ⟨text4 p.other ++ (text4 p.data ++ ByteArray.empty), 0⟩) := by
    unfold rdP
    rw [e1]
    exact text_put p.path _ 64 (by omega) (by omega)
  have e3 : rdO p.bytes = (p.other, ⟨text4 p.data ++ ByteArray.empty, 0⟩) := by
    unfold rdO
    rw [e2]
    exact text_put p.other _ 64 (by omega) (by omega)
  have e4 : rdD p.bytes = (p.data, ⟨ByteArray.empty, 0⟩) := by
    unfold rdD
    rw [e3]
    exact text_put p.data _ 128 (by omega) (by omega)
  have e5 : rdE p.bytes = ⟨ByteArray.empty, 0⟩ := by
    unfold rdE
    rw [e4]; rfl
  have e6 : rdPk p.bytes = p := by
    unfold rdPk
    rw [e1, e2, e3, e4]
    exact of_nums p hr
  unfold readPk
  rw [e5, e6, if_neg (fun h => h rfl), if_pos hr]
theorem text_e (r : Rd) (m : Int) (h : (r.text m).2.e = 0) : r.e = 0 := by
  by_cases h0 : r.e = 0
  · exact h0
  · rw [text_fail h0] at h
    exact h
theorem number_e0 (r : Rd) (h : r.number.2.e = 0) : r.e = 0 := by
  by_cases h0 : r.e = 0
  · exact h0
  · rw [number_fail h0] at h
    exact h
theorem nums_e : ∀ (n : Nat) (r : Rd), (readNums n r).2.e = 0 → r.e = 0 ∧ r.s = nums4 (readNums n r).1 ++ (readNums n r).2.s
  | 0, r, h => ⟨h, by simp [readNums, nums4]⟩
  | n + 1, r, h => by
    obtain ⟨h1, h2⟩ := nums_e n r.number.2 h
    have h0 := number_e0 r h1
    refine ⟨h0, ?_⟩
    have a := number_back r h0 h1
    simp only [readNums, nums4, ByteArray.append_assoc]
    rw [← h2]
    exact a
theorem end_e (r : Rd) (h : r.end_.e = 0) : r.e = 0 ∧ r.s = ByteArray.empty := by
  unfold Rd.end_ at h
  split at h
  · simp [Rd.fail] at h
  · rename_i hn
    refine ⟨h, ByteArray.ext (Array.eq_empty_of_size_eq_zero ?_)⟩
    show r.s.size = 0
    by_cases hs : 0 < r.s.size
    · exact absurd ⟨h, hs⟩ hn
    · omega
theorem nums_of (l : List Nat) (a b c : ByteArray) (hl : l.length = 17) (hx : ∀ x ∈ l, x < 4294967296) : (Pk.of l a b c).nums = l := by
  match l, hl with
  | [x0, x1, x2, x3, x4, x5, x6, x7, x8, x9, x10, x11, x12, x13, x14, x15, x16], _ =>
    have k : ∀ n : Nat, n < 4294967296 → u32 (n : Int) = n := fun n hn => by unfold u32; omega
    simp only [Pk.of, Pk.nums, List.getD_cons_zero, List.getD_cons_succ]
    rw [k x0 (hx _ (by simp)), k x1 (hx _ (by simp)), k x2 (hx _ (by simp)), k x7 (hx _ (by simp)), k x8 (hx _ (by simp))]
theorem rdD_eq (s : ByteArray) : rdD s = (rdO s).2.text 128 := rfl
theorem rdO_eq (s : ByteArray) : rdO s = (rdP s).2.text 64 := rfl
theorem rdP_eq (s : ByteArray) : rdP s = (rdN s).2.text 64 := rfl
theorem rdN_eq (s : ByteArray) : rdN s = readNums 17 ⟨s, 0⟩ := rfl
theorem chain (s : ByteArray) (h : (rdE s).e = 0) : (rdD s).2.s = ByteArray.empty ∧ (rdO s).2.s = text4 (rdD s).1 ++ (rdD s).2.s ∧ (rdP s).2.s = text4 (rdO s).1 ++ (rdO s).2.s ∧ (rdN s).2.s = text4 (rdP s).1 ++ (rdP s).2.s ∧ s = nums4 (rdN s).1 ++ (rdN s).2.s := by
  unfold rdE at h
  obtain ⟨h4, h5⟩ := end_e _ h
  have h4' := h4
  rw [rdD_eq] at h4'
  have h3 := text_e _ _ h4'
  have b3 := text_back _ _ h3 h4'
  rw [← rdD_eq] at b3
  have h3' := h3
  rw [rdO_eq] at h3'
  have h2 := text_e _ _ h3'
  have b2 := text_back _ _ h2 h3'
  rw [← rdO_eq] at b2
  have h2' := h2
  rw [rdP_eq] at h2'
  have h1 := text_e _ _ h2'
  have b1 := text_back _ _ h1 h2'
  rw [← rdP_eq] at b1
  have h1' := h1
  rw [rdN_eq] at h1'
  have b0 := (nums_e _ _ h1').2
  rw [← rdN_eq] at b0
  exact ⟨h5, b3, b2, b1, b0⟩
/-- What was read has just these bytes. -/
theorem bytes_read (s : ByteArray) (h : (rdE s).e = 0) : (rdPk s).bytes = s := by
  obtain ⟨h5, b3', b2', b1', b0'⟩ := chain s h
  have hl : (rdN s).1.length = 17 := readNums_length 17 _
  have hn := nums_of (rdN s).1 (rdP s).1 (rdO s).1 (rdD s).1 hl (readNums_lt 17 _)
  unfold Pk.bytes rdPk
  rw [hn, of_path, of_other, of_data]
  rw [h5, ByteArray.append_empty] at b3'
  rw [b3'] at b2'
  rw [b2'] at b1'
  rw [b1'] at b0'
  simp only [ByteArray.append_assoc]
  exact b0'.symm
theorem bytes_size (p : Pk) : p.bytes.size % 4 = 0 ∧ 80 ≤ p.bytes.size := by
  unfold Pk.bytes
  simp only [ByteArray.size_append, nums4_size, text4_size, Pk.nums, List.length_cons, List.length_nil, padOf]
  omega
theorem bytes_inj (p q : Pk) (hp : p.OK) (hq : q.OK) (rp : right p = true) (rq : right q = true) : p.bytes = q.bytes ↔ p = q := by
  refine ⟨fun h => ?_, fun h => by rw [h]⟩
  have a := read_bytes p hp rp
  have b := read_bytes q hq rq
  rw [h, b] at a
  exact ((Prod.mk.injEq ..).mp a).1.symm
theorem of_ok (l : List Nat) (a b c : ByteArray) (hx : ∀ x ∈ l, x < 4294967296) (ha : a.size ≤ 140737488351232) (hb : b.size ≤ 140737488351232) (hc : c.size ≤ 140737488351232) : (Pk.of l a b c).OK := by
  have k : ∀ i, l.getD i 0 < 4294967296 := fun i => by
    by_cases h : i < l.length
    · rw [List.getD, List.getElem?_eq_getElem h]; exact hx _ (List.getElem_mem h)
    · rw [List.getD, List.getElem?_eq_none (by omega)]; decide
  have k2 : ∀ i, I64 ((l.getD i 0 : Nat) : Int) := fun i => by have := k i; unfold I64; omega
  exact ⟨k2 0, k2 1, k2 2, k2 7, k2 8, k 3, k 4, k 5, k 6, k 9, k 10, k 11, k 12, k 13, k 14, k 15, k 16, ha, hb, hc⟩
theorem read_ok (s : ByteArray) : (readPk s).1.OK := by
  have z : Pk.zero.OK := ⟨by unfold I64 Pk.zero; simp, by unfold I64 Pk.zero; simp, by unfold I64 Pk.zero; simp, by unfold I64 Pk.zero; simp, by unfold I64 Pk.zero; simp, by decide, by decide, by decide, by decide, by decide, by decide, by decide, by decide, by decide, by decide, by decide, by decide, by decide, by decide, by decide⟩
  unfold readPk
  split
  · exact z
  · split
    · rename_i hr
      obtain ⟨_, _, _, _, _, _, _, s1, s2, s3⟩ := (right_iff _).1 hr
      unfold rdPk at s1 s2 s3 ⊢
      have hx : ∀ x ∈ (rdN s).1, x < 4294967296 := readNums_lt 17 _
      generalize (rdN s).1 = l at *
      generalize (rdP s).1 = a at *
      generalize (rdO s).1 = b at *
      generalize (rdD s).1 = c at *
      rw [of_path] at s1
      rw [of_other] at s2
      rw [of_data] at s3
      exact of_ok l a b c hx (by omega) (by omega) (by omega)
    · exact z
end Go.PktL
