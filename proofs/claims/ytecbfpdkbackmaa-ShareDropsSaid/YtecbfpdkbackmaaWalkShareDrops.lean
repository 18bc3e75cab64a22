/- Every list with one less, or without a client's, or why it isn't, is the document's: the call returns true whatever the input. No condition. -/
import Derived.Test.YtecbfpdkbackmaaShareRef
import Derived.Test.YtecbfpdkbackmaaP11x6
namespace Go.Proofs.Ytecbfpdkbackmaa.shareDrops
open Go.RowKit Go.Sees Go.Proofs.Ytecbfpdkbackmaa.Share Go.Proofs.Ytecbfpdkbackmaa.P11 Go.Proofs.Ytecbfpdkbackmaa.Opens Go.Proofs.YtecbfpdkbackmaaW.PrintWords Go.Proofs.YtecbfpdkbackmaaW.PrintLast Go.Proofs.YtecbfpdkbackmaaW.PrintMore
set_option linter.unusedVariables false
set_option linter.unusedSimpArgs false

theorem lt_not_same {x y : S27} (h : lt x y = true) : sameB x y = false ∧ sameB y x = false := by
  unfold lt at h; rw [lt_iff] at h
  simp only [decide_eq_true_eq] at h
  unfold sameB
  rcases h with h | h
  · exact ⟨by rw [beq_eq_false_iff_ne.2 (show x.f0 ≠ y.f0 by omega)]; rfl, by rw [beq_eq_false_iff_ne.2 (show y.f0 ≠ x.f0 by omega)]; rfl⟩
  · exact ⟨by rw [beq_eq_false_iff_ne.2 (show x.f1 ≠ y.f1 by omega)]; simp, by rw [beq_eq_false_iff_ne.2 (show y.f1 ≠ x.f1 by omega)]; simp⟩
theorem drop_at {l : List S27} (hs : Strict l) (t : Nat) (ht : t < l.length) : dropF l l[t] = l.take t ++ l.drop (t + 1) := by
  unfold Strict at hs
  rw [List.pairwise_iff_getElem] at hs
  have e : l = l.take t ++ l[t] :: l.drop (t + 1) := by rw [List.getElem_cons_drop, List.take_append_drop]
  have ha : (l.take t).filter (fun x => !(sameB x l[t])) = l.take t := List.filter_eq_self.2 (fun x hx => by
    rw [List.mem_take_iff_getElem] at hx
    obtain ⟨j, hj, rfl⟩ := hx
    rw [(lt_not_same (hs j t (by omega) ht (by omega))).1]; rfl)
  have hb : (l.drop (t + 1)).filter (fun x => !(sameB x l[t])) = l.drop (t + 1) := List.filter_eq_self.2 (fun x hx => by
    rw [List.mem_drop_iff_getElem] at hx
    obtain ⟨j, hj, rfl⟩ := hx
    rw [(lt_not_same (hs t (t + 1 + j) ht (by omega) (by omega))).2]; rfl)
  have hc : sameB l[t] l[t] = true := by unfold sameB; simp
  have : dropF l l[t] = (l.take t ++ l[t] :: l.drop (t + 1)).filter (fun x => !(sameB x l[t])) := by
    unfold dropF
    congr 1
  rw [this, List.filter_append, List.filter_cons, hc, ha]
  simp only [Bool.not_true, Bool.false_eq_true, if_false]
  rw [hb]

theorem refDrop_f (l : List S27) (c h : Int) (hn : ∀ x ∈ l, Nn x) (k : Nat) (hk : 6000 ≤ k) : lamellaref11_Drop.f k l c h = some ((dropR l c h).1, (dropR l c h).2.1.f0, (dropR l c h).2.1.f1, (dropR l c h).2.1.f2, (dropR l c h).2.1.f3, (dropR l c h).2.1.f4, (dropR l c h).2.2) := by
  unfold lamellaref11_Drop.f dropR
  rw [refRight_f l hn k (by omega)]
  simp only [Option.bind_some]
  by_cases hr : rightB l = true
  · have hR := rightL_of hr
    have hl := hR.len
    rw [if_pos hr]
    simp only [if_pos hr]
    rcases refFind_f l (by omega) c h k (by omega) with ⟨e, g⟩ | ⟨t, ht, e, g, _⟩
    · rw [e]
      simp only [Option.bind_some]
      rw [if_pos (show (-1 : Int) < 0 by decide), g]
      simp only [Bool.false_eq_true, if_false]; rfl
    · rw [e]
      simp only [Option.bind_some]
      rw [if_neg (show ¬ (t : Int) < 0 by omega), if_pos (show 0 ≤ (t : Int) by omega), if_pos (show (t : Int) ≤ l.length by omega), w64 ((t : Int) + 1) (by omega), g]
      simp only [Int.toNat_natCast, List.nil_append, List.length_nil, Nat.zero_add, if_true]
      have htl : (l.take t).length = t := by simp; omega
      have e1 : ((t : Int) + 1).toNat = t + 1 := by omega
      rw [if_pos (show (l.take t).length < 7036874417766 by omega), if_pos (show 0 ≤ (t : Int) + 1 by omega), if_pos (show (t : Int) + 1 ≤ l.length by omega), e1, if_pos (show (l.take t).length + (l.drop (t + 1)).length < 7036874417766 by simp; omega), if_pos (show (t : Int) < l.length by omega), rd_get l t ht, drop_at hR.strict t ht]
  · rw [if_neg hr]
    simp only [if_neg hr]; rfl

theorem clear_loop (l : List S27) (hl : l.length ≤ 12) (c : Int) : ∀ (n k i : Nat), i ≤ l.length → l.length - i ≤ n → n < k → lamellaref11_Clear.l0 k l c ((l.take i).filter (fun x => !(x.f0 == c))) i = some (clearF l c, 0) := by
  intro n
  induction n with
  | zero =>
    intro k i hi hn hk
    obtain ⟨k, rfl⟩ : ∃ m, k = m + 1 := ⟨k - 1, by omega⟩
    simp only [lamellaref11_Clear.l0]
    rw [if_neg (by omega), List.take_of_length_le (by omega)]; rfl
  | succ n ih =>
    intro k i hi hn hk
    by_cases hlt : i < l.length
    · obtain ⟨k, rfl⟩ : ∃ m, k = m + 1 := ⟨k - 1, by omega⟩
      have nx := ih k (i + 1) (by omega) (by omega) (by omega)
      have ln : ((l.take i).filter (fun x => !(x.f0 == c))).length ≤ 12 := Nat.le_trans (List.length_filter_le _ _) (by simp; omega)
      rw [List.take_succ_eq_append_getElem hlt, List.filter_append] at nx
      simp only [lamellaref11_Clear.l0]
      rw [if_pos (by omega), if_pos (by omega), rd_get l i hlt, w64 ((i : Int) + 1) (by omega)]
      by_cases h : l[i].f0 = c
      · rw [if_pos h]
        have e : [l[i]].filter (fun x => !(x.f0 == c)) = [] := by simp [h]
        rw [e, List.append_nil] at nx
        exact nx
      · rw [if_neg h, if_pos (by omega)]
        have e : [l[i]].filter (fun x => !(x.f0 == c)) = [l[i]] := by simp [h]
        rw [e] at nx
        exact nx
    · exact ih k i hi (by omega) (by omega)
theorem refClear_f (l : List S27) (c : Int) (hn : ∀ x ∈ l, Nn x) (k : Nat) (hk : 6000 ≤ k) : lamellaref11_Clear.f k l c = some (clearR l c) := by
  unfold lamellaref11_Clear.f clearR
  rw [refRight_f l hn k (by omega)]
  simp only [Option.bind_some]
  by_cases hr : rightB l = true
  · rw [if_pos hr, if_pos hr]
    exact clear_loop l (right_len hr) c 12 k 0 (Nat.zero_le _) (by have := right_len hr; omega) (by omega)
  · rw [if_neg hr, if_neg hr]
theorem dropR_len (l : List S27) (c h : Int) : (dropR l c h).1.length ≤ 100 := by
  unfold dropR
  split
  · rename_i hr
    have := right_len hr
    split
    · exact Nat.le_trans (List.length_filter_le _ _) (by omega)
    · simp
  · simp
theorem clearR_len (l : List S27) (c : Int) : (clearR l c).1.length ≤ 100 := by
  unfold clearR
  split
  · rename_i hr
    have := right_len hr
    exact Nat.le_trans (List.length_filter_le _ _) (by omega)
  · simp
theorem pure_true (l : List S27) (c h : Int) (hn : ∀ x ∈ l, Nn x) (k : Nat) (hk : 6000 ≤ k) : lamellalaw11_ShareDrops.f k l c h = some true := by
  unfold lamellalaw11_ShareDrops.f
  rw [alive_true]
  simp only [Option.bind_some, if_true]
  by_cases h1 : (l.length : Int) > 100
  · rw [if_pos h1]
  rw [if_neg h1, refDrop_f l c h hn k hk, refClear_f l c hn k hk]
  unfold share_Drop.f share_Clear.f
  simp only [Option.bind_some]
  rw [same_f _ (by have := dropR_len l c h; omega) k (by omega), same_f _ (by have := clearR_len l c; omega) k (by omega)]
  simp
theorem shareDrops_walk (a0 : Option Addr) (len0 cap0 : Nat) (a1 : Int) (a2 : Int) (w : World) (w0 : Sees Try.prog w 140737488351232 5 22 [.slice a0 len0 cap0]) (w1 : (Lit.int .u32 a1).wf = true) (w2 : (Lit.int .u32 a2).wf = true) :
    Calls Try.prog 7 #[.slice a0 len0 cap0, .int .u32 a1, .int .u32 a2] w fun e w' => e = .returned (.bool true) ∧ Below w.heap.size w w' := by
  obtain ⟨l, rfl, hc, hC, hn⟩ := sees_list (k := 2) w0
  exact lamellalaw11_ShareDrops.calls (6000 + 2) a0 cap0 l a1 a2 true w hC hc (pure_true l a1 a2 hn _ (by omega))
end Go.Proofs.Ytecbfpdkbackmaa.shareDrops
