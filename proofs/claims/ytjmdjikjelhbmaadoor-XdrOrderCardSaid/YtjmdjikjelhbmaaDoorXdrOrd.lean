/- Layer xdr, plainly: numbers stand in the order of their bytes. -/
import Derived.Test.YtjmdjikjelhbmaaDoorXdrLaws
namespace Go.XdrL
open Go.Op (bytesLess)
/-- The number of bytes, the highest first. -/
def val : List UInt8 → Nat
  | [] => 0
  | a :: l => a.toNat * 256 ^ l.length + val l
theorem val_lt : ∀ l : List UInt8, val l < 256 ^ l.length
  | [] => by simp [val]
  | a :: l => by
    have h := val_lt l
    have ha := a.toNat_lt
    simp only [val, List.length_cons, Nat.pow_succ]
    have : (a.toNat + 1) * 256 ^ l.length ≤ 256 * 256 ^ l.length := Nat.mul_le_mul_right _ (by omega)
    rw [Nat.add_mul, Nat.one_mul] at this
    omega
theorem less_val : ∀ (x y : List UInt8), x.length = y.length → bytesLess x y = decide (val x < val y)
  | [], [], _ => by simp [bytesLess, val]
  | [], _ :: _, h => by simp at h
  | _ :: _, [], h => by simp at h
  | a :: x, b :: y, h => by
    have hl : x.length = y.length := by simpa using h
    have ih := less_val x y hl
    have hx := val_lt x
    have hy := val_lt y
    simp only [bytesLess, val, ih, hl]
    rw [hl] at hx
    rcases Nat.lt_trichotomy a.toNat b.toNat with c | c | c
    · have h1 : (a < b) := UInt8.lt_iff_toNat_lt.2 c
      have : (a.toNat + 1) * 256 ^ y.length ≤ b.toNat * 256 ^ y.length := Nat.mul_le_mul_right _ c
      rw [Nat.add_mul, Nat.one_mul] at this
      rw [decide_eq_true h1, Bool.true_or, eq_comm, decide_eq_true_iff]
      omega
    · have h1 : ¬ (a < b) := fun h => by have := UInt8.lt_iff_toNat_lt.1 h; omega
      have h2 : a = b := UInt8.toNat_inj.1 c
      subst h2
      rw [decide_eq_false h1, Bool.false_or, beq_self_eq_true, Bool.true_and, Bool.eq_iff_iff, decide_eq_true_iff, decide_eq_true_iff]
      omega
    · have h1 : ¬ (a < b) := fun h => by have := UInt8.lt_iff_toNat_lt.1 h; omega
      have h2 : (a == b) = false := by
        rw [beq_eq_false_iff_ne]
        rintro rfl
        omega
      have : (b.toNat + 1) * 256 ^ y.length ≤ a.toNat * 256 ^ y.length := Nat.mul_le_mul_right _ c
      rw [Nat.add_mul, Nat.one_mul] at this
      rw [decide_eq_false h1, h2, Bool.false_or, Bool.false_and, eq_comm, decide_eq_false_iff_not]
      omega
theorem num4_list (n : Nat) : (num4 n).toList = [UInt8.ofNat (n / 16777216), UInt8.ofNat (n / 65536), UInt8.ofNat (n / 256), UInt8.ofNat n] := by
  rw [ByteArray.toList_eq]; rfl
theorem val_num4 (n : Nat) (hn : n < 4294967296) : val (num4 n).toList = n := by
  rw [num4_list]
  simp only [val, UInt8.toNat_ofNat', List.length_cons, List.length_nil]
  omega
theorem val_append : ∀ x y : List UInt8, val (x ++ y) = val x * 256 ^ y.length + val y
  | [], y => by simp [val]
  | a :: x, y => by
    simp only [List.cons_append, val, val_append x y, List.length_append, Nat.pow_add, Nat.add_mul, Nat.mul_assoc]
    omega
theorem val_long8 (n : Nat) (hn : n < 18446744073709551616) : val (long8 n).toList = n := by
  have e : (long8 n).toList = (num4 (n / 4294967296)).toList ++ (num4 (n % 4294967296)).toList := by
    simp [long8, ByteArray.toList_eq, ByteArray.data_append]
  rw [e, val_append, val_num4 _ (by omega), val_num4 _ (Nat.mod_lt _ (by decide)), num4_list]
  simp only [List.length_cons, List.length_nil]
  omega
theorem less_num4 (n m : Nat) (hn : n < 4294967296) (hm : m < 4294967296) : bytesLess (num4 n).toList (num4 m).toList = decide (n < m) := by
  rw [less_val _ _ (by rw [num4_list, num4_list]; rfl), val_num4 n hn, val_num4 m hm]
theorem less_long8 (n m : Nat) (hn : n < 18446744073709551616) (hm : m < 18446744073709551616) : bytesLess (long8 n).toList (long8 m).toList = decide (n < m) := by
  rw [less_val _ _ (by rw [ByteArray.toList_eq, ByteArray.toList_eq, len_data, len_data, long8_size, long8_size]), val_long8 n hn, val_long8 m hm]
end Go.XdrL
