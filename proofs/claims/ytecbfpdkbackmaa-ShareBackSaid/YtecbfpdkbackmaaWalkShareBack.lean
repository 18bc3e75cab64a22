/- What was added is found, and dropped again leaves the list as it was: the call returns true whatever the input. No condition. -/
import Derived.Test.YtecbfpdkbackmaaShareOpen
import Derived.Test.YtecbfpdkbackmaaP11x12
namespace Go.Proofs.Ytecbfpdkbackmaa.shareBack
open Go.RowKit Go.Sees Go.Proofs.Ytecbfpdkbackmaa.Share Go.Proofs.Ytecbfpdkbackmaa.P11 Go.Proofs.Ytecbfpdkbackmaa.Opens Go.Proofs.YtecbfpdkbackmaaW.PrintWords Go.Proofs.YtecbfpdkbackmaaW.PrintLast Go.Proofs.YtecbfpdkbackmaaW.PrintMore
set_option linter.unusedVariables false
set_option linter.unusedSimpArgs false

theorem add_some (l : List S27) (o : S27) (h : l.length ≤ 100) : share_Add.f l o.f0 o.f1 o.f2 o.f3 o.f4 = some (addF l o) := by
  unfold share_Add.f; rw [if_pos h]
theorem found_ins {l : List S27} {a : S27} (h : MayAdd l a) : found (insO l a) a.f0 a.f1 = (a, true) := by
  unfold found
  have hka : keyB a.f0 a.f1 a = true := by unfold keyB; simp
  cases e : (insO l a).find? (keyB a.f0 a.f1) with
  | none => have := List.find?_eq_none.1 e a (mem_ins.2 (.inr rfl)); rw [hka] at this; exact absurd rfl this
  | some y =>
    have h1 := List.find?_some e
    rcases mem_ins.1 (List.mem_of_find?_eq_some e) with h2 | rfl
    · rw [h.new y h2] at h1; cases h1
    · rfl
theorem not_same {x a : S27} (h : keyB a.f0 a.f1 x = false) : sameB x a = false := by
  unfold keyB at h; unfold sameB
  simp only [Bool.and_eq_false_iff] at h ⊢
  rcases h with h | h
  · exact .inl h
  · exact .inr (.inl h)
theorem drop_ins {l : List S27} {a : S27} (h : MayAdd l a) : dropF (insO l a) a = l := by
  have hs := (ins_right h).strict
  have hp : (dropF (insO l a) a).Perm l := by
    unfold dropF
    refine ((insO_perm l a).filter _).trans ?_
    rw [List.filter_append, List.filter_eq_self.2 (fun x hx => by rw [not_same (h.new x hx)]; rfl)]
    simp [sameB]
  have hd : Strict (dropF (insO l a) a) := List.Pairwise.filter _ hs
  refine List.Perm.eq_of_pairwise (le := fun x y => lt y x = false) (fun x y hx hy h1 h2 => ?_) (strict_sorted hd) (strict_sorted h.right.strict) hp
  exact strict_apart h.right.strict (hp.mem_iff.1 hx) hy h1 h2
theorem clear_right {l : List S27} (h : RightL l) (c : Int) : RightL (clearF l c) where
  len := Nat.le_trans (List.length_filter_le _ _) h.len
  one := fun x hx => h.one x (List.mem_filter.1 hx).1
  four := fun x hx => Nat.le_trans (List.Sublist.countP_le List.filter_sublist) (h.four x (List.mem_filter.1 hx).1)
  strict := List.Pairwise.filter _ h.strict
  apart := List.Pairwise.filter _ h.apart
theorem find_f (l : List S27) (c h : Int) (hl : l.length ≤ 4096) (k : Nat) (hk : 5000 ≤ k) : share_Find.f k l c h = some ((found l c h).1.f0, (found l c h).1.f1, (found l c h).1.f2, (found l c h).1.f3, (found l c h).1.f4, (found l c h).2) :=
  find_loop l c h hl 4096 k 0 (Nat.zero_le _) (by omega) (by omega) (fun x hx => by simp at hx)

theorem loop (l x d : List S27) (a : S27) (c : Int) (z : List S27) (hz : z.length ≤ 12) (hzc : ∀ y ∈ z, ¬ y.f0 = c) (hl : l.length ≤ 12) (hx : rightB x = true) : ∀ (n k i : Nat), z.length - i ≤ n → n + 5900 < k →
    lamellalaw11_ShareBack.l0 k l c x true l 0 z i a.f0 a.f1 a.f2 a.f3 a.f4 a.f0 a.f1 a.f2 a.f3 a.f4 a.f0 a.f1 a.f2 a.f3 a.f4 = some true := by
  intro n
  induction n with
  | zero =>
    intro k i hi hk
    obtain ⟨k, rfl⟩ : ∃ m, k = m + 1 := ⟨k - 1, by omega⟩
    simp only [lamellalaw11_ShareBack.l0]
    rw [if_neg (by omega), alive_true]
    unfold share_Right.f
    rw [hx]
    simp only [Option.bind_some, if_true, beq_self_eq_true, Bool.and_self]
    rw [same_f l (by omega) k (by omega)]; rfl
  | succ n ih =>
    intro k i hi hk
    by_cases hlt : i < z.length
    · obtain ⟨k, rfl⟩ : ∃ m, k = m + 1 := ⟨k - 1, by omega⟩
      simp only [lamellalaw11_ShareBack.l0]
      rw [if_pos (by omega), if_pos (by omega), rd_get z i hlt, if_neg (hzc _ (List.getElem_mem hlt)), w64 _ (by omega)]
      exact ih k (i + 1) (by omega) (by omega)
    · exact ih k i (by omega) (by omega)

theorem pure_true (l : List S27) (a : S27) (c : Int) (k : Nat) (hk : 5950 ≤ k) : lamellalaw11_ShareBack.f (k + 1) l a.f0 a.f1 a.f2 a.f3 a.f4 c = some true := by
  unfold lamellalaw11_ShareBack.f
  rw [alive_true]
  simp only [Option.bind_some, if_true]
  by_cases h : (l.length : Int) > 100
  · rw [if_pos h]
  rw [if_neg h, add_some l a (by omega)]
  simp only [Option.bind_some]
  by_cases h0 : (addF l a).2 = 0
  · have ha := add_zero h0
    have hr := ins_right ha
    have hb := rightL_to hr
    have hc := rightL_to (clear_right hr c)
    rw [if_pos h0, add_yes ha]
    simp only
    rw [find_f (insO l a) a.f0 a.f1 (by have := hr.len; omega) (k + 1) (by omega), found_ins ha]
    unfold share_Drop.f share_Clear.f share_Right.f dropR clearR
    simp only [Option.bind_some, if_pos hb, found_ins ha, if_true, hc, drop_ins ha, Bool.not_true]
    simp only [lamellalaw11_ShareBack.j0, Bool.false_eq_true, if_false]
    exact loop l (insO l a) l a c (clearF (insO l a) c) ((clear_right hr c).len) (fun y hy => by
      have := (List.mem_filter.1 hy).2
      simpa using this) (by have := ha.room; omega) hb 12 k 0 (by have := (clear_right hr c).len; omega) (by omega)
  · rw [if_neg h0, add_fst h0]; rfl

theorem shareBack_walk (a0 : Option Addr) (len0 cap0 : Nat) (a1 : Array Value) (a2 : Int) (w : World) (w0 : Sees Try.prog w 140737488351232 5 22 [.slice a0 len0 cap0]) (w1 : Sees Try.prog w 140737488351232 5 27 a1.toList) (w2 : (Lit.int .u32 a2).wf = true) :
    Calls Try.prog 8 #[.slice a0 len0 cap0, .agg a1, .int .u32 a2] w fun e w' => e = .returned (.bool true) ∧ Below w.heap.size w w' := by
  obtain ⟨l, rfl, hc, hC, hn⟩ := sees_list (k := 2) w0
  obtain ⟨x0, x1, x2, x3, x4, rfl, -⟩ := openA27 (k := 3) w1
  exact lamellalaw11_ShareBack.calls (6000 + 1) a0 cap0 l x0 x1 x2 x3 x4 a2 true w hC hc (pure_true l ⟨x0, x1, x2, x3, x4⟩ a2 6000 (by omega))
end Go.Proofs.Ytecbfpdkbackmaa.shareBack
