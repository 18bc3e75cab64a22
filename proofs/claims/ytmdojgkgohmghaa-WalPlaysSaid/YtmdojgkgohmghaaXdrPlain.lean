/- Layer xdr, plainly: what a writer has written, what a reader reads. -/
import Derived.WalkKit
namespace Go.XdrL
def zeros (n : Nat) : ByteArray := ⟨(List.replicate n (0 : UInt8)).toArray⟩
def num4 (n : Nat) : ByteArray := ⟨#[UInt8.ofNat (n / 16777216), UInt8.ofNat (n / 65536), UInt8.ofNat (n / 256), UInt8.ofNat n]⟩
def long8 (n : Nat) : ByteArray := num4 (n / 4294967296) ++ num4 (n % 4294967296)
def flag4 (b : Bool) : ByteArray := num4 (if b then 1 else 0)
def padOf (n : Nat) : Nat := (4 - n % 4) % 4
def text4 (s : ByteArray) : ByteArray := num4 s.size ++ s ++ zeros (padOf s.size)
def nums4 : List Nat → ByteArray
  | [] => ByteArray.empty
  | n :: l => num4 n ++ nums4 l
def list4 (l : List Nat) : ByteArray := num4 l.length ++ nums4 l
/-- The number at the beginning of four bytes or more. -/
def get4 (s : ByteArray) : Nat := ((s.data.toList.getD 0 0).toNat * 256 + (s.data.toList.getD 1 0).toNat) * 65536 + ((s.data.toList.getD 2 0).toNat * 256 + (s.data.toList.getD 3 0).toNat)
/-- A reader: what is left, the first error. -/
structure Rd where
  s : ByteArray
  e : Nat
def Rd.fail (r : Rd) (e : Nat) : Rd := { r with e := e }
def Rd.skip (r : Rd) (n : Nat) : Rd := { r with s := r.s.extract n r.s.size }
def Rd.number (r : Rd) : Nat × Rd :=
  if r.e ≠ 0 then (0, r) else if r.s.size < 4 then (0, r.fail 2) else (get4 r.s, r.skip 4)
def Rd.long (r : Rd) : Nat × Rd :=
  if r.e ≠ 0 then (0, r) else if r.s.size < 8 then (0, r.fail 2) else (r.number.1 * 4294967296 + r.number.2.number.1, r.number.2.number.2)
def Rd.flag (r : Rd) : Bool × Rd :=
  if r.e ≠ 0 then (false, r) else if r.s.size < 4 then (false, r.fail 2) else if get4 r.s > 1 then (false, r.fail 3) else (get4 r.s == 1, r.skip 4)
def Rd.text (r : Rd) (most : Int) : ByteArray × Rd :=
  if r.e ≠ 0 then (ByteArray.empty, r) else if r.s.size < 4 then (ByteArray.empty, r.fail 2) else if (get4 r.s : Int) > most then (ByteArray.empty, r.fail 4)
  else if r.s.size < 4 + get4 r.s + padOf (get4 r.s) then (ByteArray.empty, r.fail 2)
  else if (r.s.extract (4 + get4 r.s) (4 + get4 r.s + padOf (get4 r.s))).data.toList.any (· != 0) then (ByteArray.empty, r.fail 3)
  else (r.s.extract 4 (4 + get4 r.s), r.skip (4 + get4 r.s + padOf (get4 r.s)))
def readNums : Nat → Rd → List Nat × Rd
  | 0, r => ([], r)
  | n + 1, r => (r.number.1 :: (readNums n r.number.2).1, (readNums n r.number.2).2)
def Rd.list (r : Rd) (most : Int) : List Nat × Rd :=
  if r.e ≠ 0 then ([], r) else if r.s.size < 4 then ([], r.fail 2) else if (get4 r.s : Int) > most then ([], r.fail 4)
  else if r.s.size < 4 + 4 * get4 r.s then ([], r.fail 2) else readNums (get4 r.s) (r.skip 4)
def Rd.end_ (r : Rd) : Rd := if r.e = 0 ∧ 0 < r.s.size then r.fail 4 else r
theorem num4_size (n : Nat) : (num4 n).size = 4 := rfl
theorem zeros_size (n : Nat) : (zeros n).size = n := by unfold zeros ByteArray.size; simp
theorem zeros_add (a b : Nat) : zeros a ++ zeros b = zeros (a + b) := by
  apply ByteArray.ext
  apply Array.toList_inj.1
  simp [zeros]
theorem pad_go {B b s k : Nat} (h : B = b + 4 + s + k) (h4 : b % 4 = 0) (hk : k ≤ padOf s) (hB : B % 4 ≠ 0) : k + 1 ≤ padOf s ∧ padOf (B + 1) < padOf B := by
  unfold padOf at *
  omega
theorem pad_end {B b s k : Nat} (h : B = b + 4 + s + k) (h4 : b % 4 = 0) (hk : k ≤ padOf s) (hB : B % 4 = 0) : k = padOf s := by
  unfold padOf at *
  omega
/-- The number's first k bytes. -/
def acc (t : ByteArray) : Nat → Nat
  | 0 => 0
  | k + 1 => acc t k * 256 + (t.data.toList.getD k 0).toNat
theorem acc_lt (t : ByteArray) : ∀ k, acc t k < 256 ^ k
  | 0 => by simp [acc]
  | k + 1 => by
    have h := acc_lt t k
    have hb := (t.data.toList.getD k 0).toNat_lt
    simp only [acc, Nat.pow_succ]
    have : acc t k + 1 ≤ 256 ^ k := h
    have := Nat.mul_le_mul_right 256 this
    omega
theorem acc_four (t : ByteArray) : acc t 4 = get4 t := by
  simp only [acc, get4]; omega
theorem acc_bound (t : ByteArray) {k : Nat} (hk : k < 4) : acc t k < 16777216 := Nat.lt_of_lt_of_le (acc_lt t k) (by
  have : (16777216 : Nat) = 256 ^ 3 := by decide
  rw [this]; exact Nat.pow_le_pow_right (by decide) (by omega))
theorem get4_extract (s : ByteArray) (n : Nat) (h : 4 ≤ n) : get4 (s.extract 0 n) = get4 s := by
  have e : ∀ k, k < 4 → (s.extract 0 n).data.toList.getD k 0 = s.data.toList.getD k 0 := fun k hk => by
    simp only [List.getD, ByteArray.data_extract, Array.toList_extract, List.extract_eq_take_drop, List.drop_zero, Nat.sub_zero, List.getElem?_take]
    rw [if_pos (by omega)]
  unfold get4
  rw [e 0 (by omega), e 1 (by omega), e 2 (by omega), e 3 (by omega)]
theorem long8_size (n : Nat) : (long8 n).size = 8 := by unfold long8; rw [ByteArray.size_append, num4_size, num4_size]
theorem nums4_size : ∀ l : List Nat, (nums4 l).size = 4 * l.length
  | [] => rfl
  | n :: l => by simp only [nums4, ByteArray.size_append, num4_size, nums4_size l, List.length_cons]; omega
theorem nums4_append : ∀ l k : List Nat, nums4 (l ++ k) = nums4 l ++ nums4 k
  | [], k => by simp [nums4]
  | n :: l, k => by simp only [nums4, List.cons_append, nums4_append l k, ByteArray.append_assoc]
theorem padOf_lt (n : Nat) : padOf n < 4 := Nat.mod_lt _ (by omega)
theorem get4_lt (s : ByteArray) : get4 s < 4294967296 := by
  unfold get4
  have a := (s.data.toList.getD 0 0).toNat_lt
  have b := (s.data.toList.getD 1 0).toNat_lt
  have c := (s.data.toList.getD 2 0).toNat_lt
  have d := (s.data.toList.getD 3 0).toNat_lt
  omega
theorem readNums_succ : ∀ (n : Nat) (r : Rd), readNums (n + 1) r = ((readNums n r).1 ++ [(readNums n r).2.number.1], (readNums n r).2.number.2)
  | 0, r => rfl
  | n + 1, r => by
    have ih := readNums_succ n r.number.2
    rw [readNums, ih]
    simp only [readNums, List.cons_append]
theorem readNums_length : ∀ (n : Nat) (r : Rd), (readNums n r).1.length = n
  | 0, _ => rfl
  | n + 1, r => by simp only [readNums, List.length_cons, readNums_length n]
theorem number_lt (r : Rd) : r.number.1 < 4294967296 := by
  unfold Rd.number
  split
  · exact Nat.zero_lt_succ _
  · split
    · exact Nat.zero_lt_succ _
    · exact get4_lt _
end Go.XdrL
