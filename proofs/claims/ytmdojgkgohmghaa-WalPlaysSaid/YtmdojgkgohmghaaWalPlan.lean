/- Layer wal, plainly: the steps of a commit, one by one. -/
import Derived.Test.YtmdojgkgohmghaaWalPlain
namespace Go.WalL
open Go.DevL Go.XdrL
set_option linter.unusedVariables false
theorem andThen_no {r : Int × Dv} {f : Dv → Int × Dv} (h : r.1 ≠ 0) : andThen r f = r := by unfold andThen; rw [if_neg h]
theorem andThen_ok {d : Dv} {f : Dv → Int × Dv} : andThen (0, d) f = f d := by unfold andThen; rw [if_pos rfl]
theorem andThen_assoc (r : Int × Dv) (f g : Dv → Int × Dv) : andThen (andThen r f) g = andThen r (fun d => andThen (f d) g) := by
  unfold andThen
  by_cases h : r.1 = 0
  · simp [h]
  · simp [h]
theorem wrs_cons (d : Dv) (x : Int × ByteArray) (l : List (Int × ByteArray)) : wrs d (x :: l) = andThen (d.write x.1 x.2) (fun d => wrs d l) := by
  simp only [wrs, andThen]
theorem jour_len (n : Nat) (b : List Bk) : (jour n b).length = b.length := by simp [jour]
theorem jour_at (n : Nat) (b : List Bk) (i : Nat) (hi : i < b.length) : (jour n b)[i]'(by rw [jour_len]; exact hi) = (1 + (i : Int), ent n b[i]) := by
  simp [jour]
theorem jour_drop (n : Nat) (b : List Bk) (i : Nat) (hi : i < b.length) : (jour n b).drop i = (1 + (i : Int), ent n b[i]) :: (jour n b).drop (i + 1) := by
  rw [List.drop_eq_getElem_cons (by rw [jour_len]; exact hi), jour_at n b i hi]
theorem homes_drop (n : Nat) (b : List Bk) (i : Nat) (hi : i < b.length) : (homes n b).drop i = (41 + b[i].1, ent n b[i]) :: (homes n b).drop (i + 1) := by
  rw [List.drop_eq_getElem_cons (by simp [homes]; exact hi)]
  simp [homes]
structure Plan (d : Dv) (b : List Bk) (n : Nat) (R : Int × Dv) (E : Nat → ByteArray) (M : ByteArray) (T U : Nat → Dv → Int × Dv) (K1 K2 K3 K4 : Dv → Int × Dv) : Prop where
  start : R = T 0 d
  jour : ∀ i d', i < b.length → T i d' = andThen (d'.write (1 + (i : Int)) (E i)) (T (i + 1))
  jend : ∀ d', T b.length d' = K1 d'
  k1 : ∀ d', K1 d' = andThen d'.barrier K2
  k2 : ∀ d', K2 d' = andThen (d'.write 0 M) K3
  k3 : ∀ d', K3 d' = andThen d'.barrier K4
  k4 : ∀ d', K4 d' = U 0 d'
  home : ∀ i (hi : i < b.length) d', U i d' = andThen (d'.write (41 + b[i].1) (E i)) (U (i + 1))
  hend : ∀ d', U b.length d' = d'.barrier
  ent : ∀ i (hi : i < b.length), E i = ent n b[i]
  mrk : M = mark n b.length
theorem plan_of (d : Dv) (b : List Bk) (n : Nat) : ∃ E M T U K1 K2 K3 K4, Plan d b n (commitD d n b) E M T U K1 K2 K3 K4 := by
  refine ⟨fun i => if h : i < b.length then ent n b[i] else ByteArray.empty, mark n b.length,
    fun i d' => andThen (wrs d' ((jour n b).drop i)) fun d => andThen d.barrier fun d => andThen (d.write 0 (mark n b.length)) fun d => andThen d.barrier fun d => andThen (wrs d (homes n b)) fun d => d.barrier,
    fun i d' => andThen (wrs d' ((homes n b).drop i)) fun d => d.barrier,
    fun d => andThen d.barrier fun d => andThen (d.write 0 (mark n b.length)) fun d => andThen d.barrier fun d => andThen (wrs d (homes n b)) fun d => d.barrier,
    fun d => andThen (d.write 0 (mark n b.length)) fun d => andThen d.barrier fun d => andThen (wrs d (homes n b)) fun d => d.barrier,
    fun d => andThen d.barrier fun d => andThen (wrs d (homes n b)) fun d => d.barrier,
    fun d => andThen (wrs d (homes n b)) fun d => d.barrier, ?_⟩
  refine ⟨rfl, fun i d' hi => ?_, fun d' => ?_, fun _ => rfl, fun _ => rfl, fun _ => rfl, fun _ => rfl, fun i hi d' => ?_, fun d' => ?_, fun i hi => by rw [dif_pos hi], rfl⟩
  · show andThen (wrs d' ((WalL.jour n b).drop i)) _ = _
    rw [jour_drop n b i hi, wrs_cons, andThen_assoc, dif_pos hi]
  · show andThen (wrs d' ((WalL.jour n b).drop b.length)) _ = _
    rw [List.drop_of_length_le (by rw [jour_len]; exact Nat.le_refl _)]
    show andThen (0, d') _ = _
    rw [andThen_ok]
  · show andThen (wrs d' ((homes n b).drop i)) _ = _
    rw [homes_drop n b i hi, wrs_cons, andThen_assoc, dif_pos hi]
  · show andThen (wrs d' ((homes n b).drop b.length)) _ = _
    rw [List.drop_of_length_le (by simp [homes])]
    show andThen (0, d') _ = _
    rw [andThen_ok]
theorem pad_size {s : ByteArray} (h : s.size ≤ 256) : (pad s).size = 256 := by
  unfold pad; rw [ByteArray.size_append, zeros_size]; omega
theorem ent_size {n : Nat} {x : Bk} (h : x.2.size ≤ 248) : (WalL.ent n x).size = 256 := by
  unfold WalL.ent; exact pad_size (by rw [ByteArray.size_append, ByteArray.size_append, num4_size, num4_size]; omega)
end Go.WalL
