/- Layer device: each of its functions, in one contract; no device; blocks of one kind. -/
import Derived.Test.YtmphnfkohilojaaDevNew
import Derived.Test.YtmphnfkohilojaaDevWrite
import Derived.Test.YtmphnfkohilojaaDevBarrier
import Derived.Test.YtmphnfkohilojaaDevCrash
import Derived.Test.YtmphnfkohilojaaPDeviceSizesx1
namespace Go.Proofs.Ytmphnfkohilojaa.Dev
open Go.RowKit Go.Own Go.DevL Go.Blk Go.Proofs.Ytmphnfkohilojaa.PDeviceSizes
set_option linter.unusedVariables false
set_option linter.unusedSimpArgs false
variable {F : Nat → Prop} {w w' : World} {p gf gn : Nat} {vl : Value} {d : Dv}
/-- F, and what was made since. -/
def Up (F : Nat → Prop) (w w' : World) : Nat → Prop := fun k => F k ∨ (w.heap.size ≤ k ∧ k < w'.heap.size)
/-- A device lies at p. -/
def Dev (F : Nat → Prop) (w : World) (p : Nat) (d : Dv) : Prop := ∃ gf gn vl, At F w p gf gn vl d
theorem At.mono {G : Nat → Prop} (h : At F w p gf gn vl d) (hG : ∀ k, F k → G k) (hlt : ∀ k, G k → k < w.heap.size) : At G w p gf gn vl d :=
  { h with fp := hG _ h.fp, ff := hG _ h.ff, fn := hG _ h.fn, fl := fun k hk => hG _ (h.fl k hk), lt := hlt }
theorem Dev.ok (h : Dev F w p d) : d.OK := by obtain ⟨_, _, _, h⟩ := h; exact h.ok
theorem Dev.lt (h : Dev F w p d) : ∀ k, F k → k < w.heap.size := by obtain ⟨_, _, _, h⟩ := h; exact h.lt
theorem Dev.keep {G : Nat → Prop} (h : Dev F w p d) (hF : Fr G w w') (hG : ∀ k, F k → ¬ G k) : Dev F w' p d := by obtain ⟨_, _, _, h⟩ := h; exact ⟨_, _, _, h.keep hF hG⟩
theorem Dev.below (h : Dev F w p d) (hb : Below w.heap.size w w') : Dev F w' p d := by obtain ⟨_, _, _, h⟩ := h; exact ⟨_, _, _, h.below hb⟩
theorem Dev.drew (h : Dev F w p d) : Dev F w.drew p d := by obtain ⟨_, _, _, h⟩ := h; exact ⟨_, _, _, h.drew⟩
theorem Dev.mono {G : Nat → Prop} (h : Dev F w p d) (hG : ∀ k, F k → G k) (hlt : ∀ k, G k → k < w.heap.size) : Dev G w p d := by obtain ⟨_, _, _, h⟩ := h; exact ⟨_, _, _, h.mono hG hlt⟩
theorem up_of (hl : ∀ k, F k → k < w.heap.size) (hF : Fr F w w') (h : At F w' p gf gn vl d) : Dev (Up F w w') w' p d :=
  ⟨_, _, _, h.mono (fun _ => .inl) (fun k hk => by rcases hk with hk | hk; exact h.lt k hk; exact hk.2)⟩
/-! ### in one contract each -/
theorem dead_any (h : Dev F w p d) : Calls Try.prog 18 #[.pointer (some ⟨p, 0, none⟩)] w fun e w' => e = .returned (.bool d.dead) ∧ w = w' := by obtain ⟨_, _, _, h⟩ := h; exact dead_calls h
theorem blocks_any (h : Dev F w p d) : Calls Try.prog 25 #[.pointer (some ⟨p, 0, none⟩)] w fun e w' => e = .returned (.int .i64 d.firm.length) ∧ w = w' := by obtain ⟨_, _, _, h⟩ := h; exact blocks_calls h
theorem unsettled_any (h : Dev F w p d) : Calls Try.prog 20 #[.pointer (some ⟨p, 0, none⟩)] w fun e w' => e = .returned (.int .i64 d.late.length) ∧ w = w' := by obtain ⟨_, _, _, h⟩ := h; exact unsettled_calls h
theorem read_any (h : Dev F w p d) (i : Int) : Calls Try.prog 14 #[.pointer (some ⟨p, 0, none⟩), .int .i64 i] w fun e w' => e = readE d i ∧ w = w' := by obtain ⟨_, _, _, h⟩ := h; exact read_calls h i
theorem settled_any (h : Dev F w p d) (i : Int) : Calls Try.prog 19 #[.pointer (some ⟨p, 0, none⟩), .int .i64 i] w fun e w' => e = .returned (.string (d.settled i)) ∧ w = w' := by obtain ⟨_, _, _, h⟩ := h; exact settled_calls h i
theorem fuse_any (h : Dev F w p d) (n : Int) (hn : n ≤ 9223372036854775807) : Calls Try.prog 17 #[.pointer (some ⟨p, 0, none⟩), .int .i64 n] w fun e w' => e = .returned (.tuple #[]) ∧ Dev (Up F w w') w' p (d.light n) ∧ Fr F w w' := by
  obtain ⟨_, _, _, h⟩ := h
  exact (fuse_calls h n hn).mono fun e w' ⟨he, h1, h2⟩ => ⟨he, up_of h.lt h2 h1, h2⟩
theorem crash_any (h : Dev F w p d) (keep : Int) (hk0 : 0 ≤ keep) (hk1 : keep < 18446744073709551616) (hl : d.late.length ≤ 1000000) : Calls Try.prog 16 #[.pointer (some ⟨p, 0, none⟩), .int .u64 keep] w fun e w' => e = .returned (.tuple #[]) ∧ Dev (Up F w w') w' p (d.crash keep) ∧ Fr F w w' := by
  obtain ⟨_, _, _, h⟩ := h
  exact (crash_calls h keep hk0 hk1 hl).mono fun e w' ⟨he, h1, h2⟩ => ⟨he, up_of h.lt h2 h1, h2⟩
theorem barrier_any (h : Dev F w p d) : Calls Try.prog 12 #[.pointer (some ⟨p, 0, none⟩)] w fun e w' => e = .returned (.int .i64 d.barrier.1) ∧ Dev (Up F w w') w' p d.barrier.2 ∧ Fr F w w' := by
  obtain ⟨_, _, _, h⟩ := h
  by_cases hb : d.burns = true
  · rw [show d.barrier = (5, d.die) by unfold Dv.barrier; rw [if_pos hb]]
    exact (barrier_dies h hb).mono fun e w' ⟨he, h1, h2⟩ => ⟨he, up_of h.lt h2 h1, h2⟩
  · rw [show d.barrier = (0, { d with firm := d.now, late := [], fuse := less d.fuse }) by unfold Dv.barrier; rw [if_neg hb]]
    exact (barrier_goes h (by simpa using hb)).mono fun e w' ⟨he, h1, h2⟩ => ⟨he, up_of h.lt h2 h1, h2⟩
theorem write_any (h : Dev F w p d) (i : Int) (b : ByteArray) (hl : d.late.length ≤ 1000000) : Calls Try.prog 13 #[.pointer (some ⟨p, 0, none⟩), .int .i64 i, .string b] w fun e w' => e = .returned (.int .i64 (d.write i b).1) ∧ Dev (Up F w w') w' p (d.write i b).2 ∧ Fr F w w' := by
  obtain ⟨_, _, _, h⟩ := h
  by_cases hc : (d.bad i || b.size != 256) = true
  · rw [show d.write i b = (1, d) by unfold Dv.write; rw [if_pos hc]]
    refine (write_bad h i b hc).mono fun e w' ⟨he, h1⟩ => ⟨he, ?_⟩
    subst h1
    exact ⟨up_of h.lt (Fr.refl F w) h, Fr.refl F w⟩
  · have hc' := hc
    simp only [Bool.not_eq_true, Bool.or_eq_false_iff, bne_eq_false_iff_eq] at hc'
    obtain ⟨h0, h1⟩ := Dv.bad_false hc'.1
    obtain ⟨k, rfl⟩ := Int.eq_ofNat_of_zero_le h0
    by_cases hb : d.burns = true
    · rw [show d.write k b = (5, d.die) by unfold Dv.write; rw [if_neg hc, if_pos hb]]
      exact (write_dies h k (by omega) b hc'.2 hb).mono fun e w' ⟨he, h1, h2⟩ => ⟨he, up_of h.lt h2 h1, h2⟩
    · rw [show d.write k b = (0, { d with late := d.late ++ [(k, b)], fuse := less d.fuse }) by unfold Dv.write; rw [if_neg hc, if_neg hb, Int.toNat_natCast]]
      exact (write_goes h k (by omega) b hc'.2 (by simpa using hb) hl).mono fun e w' ⟨he, ⟨v, h1⟩, h2⟩ => ⟨he, ⟨_, _, _, h1⟩, h2⟩
theorem new_any (n : Int) (w : World) : Calls Try.prog 10 #[.int .i64 n] w fun e w' => (∃ p, e = .returned (.pointer (some ⟨p, 0, none⟩)) ∧ Dev (fun k => w.heap.size ≤ k ∧ k < w'.heap.size) w' p (fresh n)) ∧ Below w.heap.size w w' :=
  (new_calls n w).mono fun e w' ⟨⟨p, gf, gn, he, h⟩, hb⟩ => ⟨⟨p, he, _, _, _, h⟩, hb⟩
/-! ### blocks of one kind -/
theorem block_l (b : UInt8) : ∀ (m i : Nat), i + m ≤ 100000 → lamellalaw03_block.l0 (m + 1) (b.toNat : Int) ((i + m : Nat) : Int) (List.replicate i (b.toNat : Int)) i = some (strOfNums (List.replicate (i + m) (b.toNat : Int)))
  | 0, i, h => by
    unfold lamellalaw03_block.l0
    rw [if_neg (by omega), Nat.add_zero]
  | m + 1, i, h => by
    unfold lamellalaw03_block.l0
    rw [if_pos (by omega), if_pos (by rw [List.length_replicate]; omega)]
    have e : wrap64 ((i : Int) + 1) = ((i + 1 : Nat) : Int) := by unfold wrap64; omega
    have ih := block_l b m (i + 1) (by omega)
    rw [e, show i + (m + 1) = i + 1 + m by omega, ← ih, List.replicate_succ']
theorem str_rep (b : UInt8) (n : Nat) : strOfNums (List.replicate n (b.toNat : Int)) = rep8 b n := by
  apply ByteArray.ext
  apply Array.toList_inj.1
  rw [strOfNums_data, List.map_replicate]
  simp [rep8]
theorem block_any (b : UInt8) (n : Nat) (hn : n ≤ 1000) (w : World) : Calls Try.prog 11 #[.int .u8 (b.toNat : Int), .int .i64 (n : Int)] w fun e w' => e = .returned (.string (rep8 b n)) ∧ Below w.heap.size w w' := by
  have h := block_l b n 0 (by omega)
  rw [Nat.zero_add, str_rep] at h
  exact lamellalaw03_block.calls (n + 1) _ _ _ w h
/-! ### no device -/
set_option maxHeartbeats 400000 in
theorem nil_fuse (n : Int) (w : World) : Calls Try.prog 17 #[.pointer none, .int .i64 n] w fun e w' => e = .returned (.tuple #[]) ∧ w = w' := by
  go_enter Try.func17, Try.ntmps17
  go_wp2
  all_goals (go_end0; exact ⟨rfl, rfl⟩)
theorem nil_crash (n : Int) (w : World) : Calls Try.prog 16 #[.pointer none, .int .u64 n] w fun e w' => e = .returned (.tuple #[]) ∧ w = w' := by
  go_enter Try.func16, Try.ntmps16
  go_wp2
  exact bodyPost_ret (results_none rfl _ _ _) rfl ⟨rfl, rfl⟩
theorem nil_read (n : Int) (w : World) : Calls Try.prog 14 #[.pointer none, .int .i64 n] w fun e w' => e = .returned (.tuple #[.string ByteArray.empty, .int .i64 5]) ∧ w = w' := by
  go_enter Try.func14, Try.ntmps14
  go_wp2
  all_goals (go_ret2; exact ⟨rfl, rfl⟩)
theorem nil_blocks (w : World) : Calls Try.prog 25 #[.pointer none] w fun e w' => e = .returned (.int .i64 0) ∧ w = w' := by
  go_enter Try.func25, Try.ntmps25
  go_wp2
  all_goals (go_ret; exact ⟨rfl, rfl⟩)
theorem nil_dead (w : World) : Calls Try.prog 18 #[.pointer none] w fun e w' => e = .returned (.bool true) ∧ w = w' := by
  go_enter Try.func18, Try.ntmps18
  go_wp2
  all_goals (go_ret; exact ⟨rfl, rfl⟩)
theorem nil_write (n : Int) (b : ByteArray) (w : World) : Calls Try.prog 13 #[.pointer none, .int .i64 n, .string b] w fun e w' => e = .returned (.int .i64 5) ∧ w = w' := by
  go_enter Try.func13, Try.ntmps13
  go_wp2
  all_goals (go_ret; exact ⟨rfl, rfl⟩)
theorem nil_barrier (w : World) : Calls Try.prog 12 #[.pointer none] w fun e w' => e = .returned (.int .i64 5) ∧ w = w' := by
  go_enter Try.func12, Try.ntmps12
  go_wp2
  all_goals (go_ret; exact ⟨rfl, rfl⟩)
theorem nil_unsettled (w : World) : Calls Try.prog 20 #[.pointer none] w fun e w' => e = .returned (.int .i64 0) ∧ w = w' := by
  go_enter Try.func20, Try.ntmps20
  go_wp2
  all_goals (go_ret; exact ⟨rfl, rfl⟩)
theorem nil_settled (n : Int) (w : World) : Calls Try.prog 19 #[.pointer none, .int .i64 n] w fun e w' => e = .returned (.string ByteArray.empty) ∧ w = w' := by
  go_enter Try.func19, Try.ntmps19
  go_wp2
  all_goals (go_ret; exact ⟨rfl, rfl⟩)
end Go.Proofs.Ytmphnfkohilojaa.Dev
