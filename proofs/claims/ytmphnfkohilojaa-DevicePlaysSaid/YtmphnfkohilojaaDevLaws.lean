/- Layer device: what scripts do, as plain Lean. -/
import Derived.Test.YtmphnfkohilojaaDevHas
namespace Go.Proofs.Ytmphnfkohilojaa.Dev
open Go.DevL
set_option linter.unusedVariables false
set_option linter.unusedSimpArgs false
def run (d : Dv) (l : List SAct) : Dv := l.foldl (fun d x => (d.act x).2) d
theorem run_snoc (d : Dv) (l : List SAct) (k : Nat) (hk : k < l.length) : run d (l.take (k + 1)) = ((run d (l.take k)).act l[k]).2 := by
  unfold run
  rw [List.take_succ_eq_append_getElem hk, List.foldl_append]; rfl
/-! ### what each call leaves -/
theorem act_cases (d : Dv) (x : SAct) {P : Int × Dv → Prop} (h0 : x.k.tmod 5 = 0 → P (d.write x.at_ (rep8 x.b 256))) (h1 : x.k.tmod 5 = 1 → P d.barrier) (h2 : P (0, d.light x.at_)) (h3 : P (0, d.crash x.keep)) (h4 : P (1, d)) (h5 : P (0, d)) : P (d.act x) := by
  unfold Dv.act
  by_cases c0 : x.k.tmod 5 = 0
  · rw [if_pos c0]; exact h0 c0
  · rw [if_neg c0]
    by_cases c1 : x.k.tmod 5 = 1
    · rw [if_pos c1]; exact h1 c1
    · rw [if_neg c1]
      by_cases c2 : x.k.tmod 5 = 2
      · rw [if_pos c2]; exact h2
      · rw [if_neg c2]
        by_cases c3 : x.k.tmod 5 = 3
        · rw [if_pos c3]; exact h3
        · rw [if_neg c3]
          by_cases c4 : x.k.tmod 5 = 4
          · rw [if_pos c4]
            have hsz : (rep8 x.b (x.b.toNat % 128)).size ≠ 256 := by rw [rep8_size]; omega
            unfold Dv.write
            rw [if_pos (by rw [Bool.or_eq_true, bne_iff_ne]; exact .inr hsz)]
            exact h4
          · rw [if_neg c4]; exact h5
theorem write_late (d : Dv) (i : Int) (b : ByteArray) : (d.write i b).2.late.length ≤ d.late.length + 1 := by
  unfold Dv.write
  split
  · simp
  · split
    · simp [Dv.die]
    · simp
theorem barrier_late (d : Dv) : d.barrier.2.late.length ≤ d.late.length := by
  unfold Dv.barrier
  split <;> simp [Dv.die]
theorem act_late (d : Dv) (x : SAct) : (d.act x).2.late.length ≤ d.late.length + 1 :=
  act_cases d x (P := fun r => r.2.late.length ≤ d.late.length + 1) (fun _ => write_late _ _ _) (fun _ => Nat.le_succ_of_le (barrier_late d)) (by simp [Dv.light]) (by simp [Dv.crash]) (by simp) (by simp)
theorem write_firm (d : Dv) (i : Int) (b : ByteArray) : (d.write i b).2.firm = d.firm := by
  unfold Dv.write
  split
  · rfl
  · split <;> rfl
theorem barrier_len (d : Dv) : d.barrier.2.firm.length = d.firm.length := by
  unfold Dv.barrier
  split
  · rfl
  · exact length_puts _ _
theorem act_len (d : Dv) (x : SAct) : (d.act x).2.firm.length = d.firm.length :=
  act_cases d x (P := fun r => r.2.firm.length = d.firm.length) (fun _ => by rw [write_firm]) (fun _ => barrier_len d) rfl (kept_length ..) rfl rfl
theorem run_late (d : Dv) : ∀ l : List SAct, (run d l).late.length ≤ d.late.length + l.length := by
  intro l
  induction l generalizing d with
  | nil => simp [run]
  | cons x l ih =>
    have h := ih (d.act x).2
    have h2 := act_late d x
    simp only [run, List.foldl_cons, List.length_cons] at h ⊢
    omega
theorem run_len (d : Dv) : ∀ l : List SAct, (run d l).firm.length = d.firm.length := by
  intro l
  induction l generalizing d with
  | nil => rfl
  | cons x l ih => exact (ih _).trans (act_len d x)
theorem fresh_len (n : Int) : (fresh n).firm.length = clamp n := by unfold fresh; rw [List.length_replicate]
/-! ### a block that nobody writes -/
structure Keeps (k : Nat) (s : ByteArray) (d : Dv) : Prop where
  firm : d.firm[k]? = some s
  late : ∀ x ∈ d.late, x.1 ≠ k
theorem put_other {l : List ByteArray} {x : Nat × ByteArray} {k : Nat} (h : x.1 ≠ k) : (put l x)[k]? = l[k]? := by
  unfold put; rw [List.getElem?_set_ne h]
theorem puts_other : ∀ (xs : List (Nat × ByteArray)) (l : List ByteArray) {k : Nat}, (∀ x ∈ xs, x.1 ≠ k) → (xs.foldl put l)[k]? = l[k]?
  | [], _, _, _ => rfl
  | x :: xs, l, k, h => by rw [List.foldl_cons, puts_other xs _ (fun y hy => h y (by simp [hy])), put_other (h x (by simp))]
theorem kept_other (keep : Int) : ∀ (xs : List (Nat × ByteArray)) (i : Nat) (l : List ByteArray) {k : Nat}, (∀ x ∈ xs, x.1 ≠ k) → (kept keep i xs l)[k]? = l[k]?
  | [], _, _, _, _ => rfl
  | x :: xs, i, l, k, h => by
    rw [kept, kept_other keep xs _ _ (fun y hy => h y (by simp [hy]))]
    split
    · exact put_other (h x (by simp))
    · rfl
theorem Keeps.crash {k : Nat} {s : ByteArray} {d : Dv} (h : Keeps k s d) (keep : Int) : Keeps k s (d.crash keep) :=
  ⟨(kept_other keep _ _ _ h.late).trans h.firm, fun x hx => by simp [Dv.crash] at hx⟩
theorem Keeps.barrier {k : Nat} {s : ByteArray} {d : Dv} (h : Keeps k s d) : Keeps k s d.barrier.2 := by
  unfold Dv.barrier
  split
  · exact ⟨h.firm, h.late⟩
  · exact ⟨(puts_other _ _ h.late).trans h.firm, fun x hx => by simp at hx⟩
theorem Keeps.write {k : Nat} {s : ByteArray} {d : Dv} (h : Keeps k s d) (i : Int) (b : ByteArray) (hi : i ≠ k) : Keeps k s (d.write i b).2 := by
  unfold Dv.write
  split
  · exact h
  · rename_i hb
    split
    · exact ⟨h.firm, h.late⟩
    · refine ⟨h.firm, fun x hx => ?_⟩
      rcases List.mem_append.1 hx with hx | hx
      · exact h.late x hx
      · simp only [List.mem_singleton] at hx
        subst hx
        simp only [Bool.not_eq_true, Bool.or_eq_false_iff] at hb
        have := Dv.bad_false hb.1
        show i.toNat ≠ k
        omega
theorem Keeps.act {k : Nat} {s : ByteArray} {d : Dv} (h : Keeps k s d) (x : SAct) (hx : ¬ (x.k.tmod 5 = 0 ∧ x.at_ = k)) : Keeps k s (d.act x).2 :=
  act_cases d x (P := fun r => Keeps k s r.2) (fun h0 => h.write _ _ (fun e => hx ⟨h0, e⟩)) (fun _ => h.barrier) ⟨h.firm, h.late⟩ (h.crash _) h h
/-- Behind a crash it is read as it was. -/
theorem Keeps.read {k : Nat} {s : ByteArray} {d : Dv} (h : Keeps k s d) (keep : Int) : readE (d.crash keep) k = .returned (.tuple #[.string s, .int .i64 0]) := by
  have h1 := (h.crash keep).firm
  have hlt := (List.getElem?_eq_some_iff.1 h1).1
  have hb : ¬ (d.crash keep).bad (k : Int) = true := by
    unfold Dv.bad
    rw [Bool.or_eq_true, decide_eq_true_eq, decide_eq_true_eq]; omega
  unfold readE Dv.read
  rw [if_neg hb, if_neg (by simp [Dv.crash])]
  have hn : (d.crash keep).now = (d.crash keep).firm := rfl
  rw [hn, Int.toNat_natCast, List.getD, h1]; rfl
theorem crash_barrier (d : Dv) (keep : Int) : (d.crash keep).barrier = (0, d.crash keep) := by
  unfold Dv.barrier Dv.burns
  simp [Dv.crash, Dv.now, less]
/-- What is read in a device that lives. -/
theorem read_live {d : Dv} {k : Nat} (hk : k < d.firm.length) (hd : d.dead = false) : readE d k = .returned (.tuple #[.string (d.now.getD k ByteArray.empty), .int .i64 0]) := by
  have hb : ¬ d.bad (k : Int) = true := by
    unfold Dv.bad
    rw [Bool.or_eq_true, decide_eq_true_eq, decide_eq_true_eq]; omega
  unfold readE Dv.read
  rw [if_neg hb, if_neg (by simp [hd])]; rfl
end Go.Proofs.Ytmphnfkohilojaa.Dev
