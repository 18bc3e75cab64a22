/- Layer device: four lists of strings beside a device of the law's own: what each block may hold behind a crash. -/
import Derived.Test.YtmphnfkohilojaaWalkDeviceLast
namespace Go.Proofs.Ytmphnfkohilojaa.Dev
open Go.RowKit Go.Own Go.DevL Go.Blk Go.Sees
set_option linter.unusedVariables false
variable {w0 w w' : World} {p G : Nat} {d : Dv} {X : List Nat} {M : Nat → List ByteArray}
/-- Four rows of strings, told by the block G. -/
structure May (w0 w : World) (G : Nat) (X : List Nat) (M : Nat → List ByteArray) (v : Nat → Value) : Prop where
  blk : w.heap[G]? = some (.cells #[v 0, v 1, v 2, v 3] 45 (0, 0))
  row : ∀ k, k < 4 → w.ownsRow w0.heap.size 9 1 (v k) (M k).length ((M k).map .string)
  inX : ∀ k, k < 4 → ∀ b, (v k).ownBlock = some b → b ∈ X ∧ b ≠ G
  two : ∀ k, k < 4 → ∀ l, l < 4 → k ≠ l → ∀ b, (v k).ownBlock = some b → (v l).ownBlock ≠ some b
  gX : G ∈ X
  gB : w0.heap.size ≤ G
variable {v : Nat → Value}
theorem May.same (h : May w0 w G X M v) (hs : Same X w w') : May w0 w' G X M v :=
  { h with blk := (hs G h.gX).trans h.blk, row := fun k hk => row_kept (h.row k hk) fun b hb => hs b (h.inX k hk b hb).1 }
theorem May.below (h : May w0 w G X M v) (hb : Below w.heap.size w w') (hX : ∀ b, b ∈ X → b < w.heap.size) : May w0 w' G X M v := h.same fun b hb' => hb.block b (hX b hb')
theorem Has.ltX (h : Has w0 w p d X) : ∀ b, b ∈ X → b < w.heap.size := by
  obtain ⟨F, _, _, h3⟩ := h.dev
  exact fun b hb => (h3 b hb).2
theorem run_bs (w : World) (s : ByteArray) : (Instr.buildSlice 44 1 #[(0, .string s)]).run Try.prog w = .ok (.slice (some ⟨w.heap.size, 0, none⟩) 1 1) (w.alloc (.cells #[.string s] 9)) := by kernel_rfl
theorem run_bs0 (w : World) : (Instr.buildSlice 44 0 #[]).run Try.prog w = .ok (.slice (some ⟨w.heap.size, 0, none⟩) 0 0) (w.alloc (.cells #[] 9)) := by kernel_rfl
theorem info_s : (Try.prog.info? 9).map (fun i => (i.zero, i.size, i.bytes)) = some (some (.string ByteArray.empty), 1, 16) := by kernel_rfl
theorem setv (v : Nat → Value) (k : Nat) (hk : k < 4) (u : Value) : (#[v 0, v 1, v 2, v 3] : Array Value).setIfInBounds k u = #[(fun i => if i = k then u else v i) 0, (fun i => if i = k then u else v i) 1, (fun i => if i = k then u else v i) 2, (fun i => if i = k then u else v i) 3] := by
  have : k = 0 ∨ k = 1 ∨ k = 2 ∨ k = 3 := by omega
  rcases this with rfl | rfl | rfl | rfl <;> rfl
/-- One string more behind a row that starts as 'old' (the row k itself, or a new one), and the row laid at k. -/
theorem may_append (hm : May w0 w G X M v) (hh : Has w0 w p d X) (k : Nat) (hk : k < 4) (s : ByteArray) (a : Nat) (old : Value) (L : List ByteArray) (hL : L.length ≤ 1000)
    (hrow : w.ownsRow w0.heap.size 9 1 old L.length (L.map .string)) (hold : ∀ b, old.ownBlock = some b → b ∈ X ∧ b ≠ G ∧ ∀ l, l < 4 → l ≠ k → (v l).ownBlock ≠ some b)
    (ha : w.heap[a]? = some (.cells #[.string s] 9 (0, 0))) :
    ∃ v' w2, (Builtin.append_ #[44, 44] 44 #[old, .slice (some ⟨a, 0, none⟩) 1 1]).run Try.prog w = .ok v' w2 ∧ (∃ A n c, v' = .slice A n c) ∧
      w2.heap[G]? = some (.cells #[v 0, v 1, v 2, v 3] 45 (0, 0)) ∧ w.heap.size ≤ w2.heap.size ∧ (∀ b, b < w.heap.size → old.ownBlock ≠ some b → w2.heap[b]? = w.heap[b]?) ∧
      ∃ X', May w0 (w2.setCell ⟨G, k, none⟩ v') G X' (fun i => if i = k then L ++ [s] else M i) (fun i => if i = k then v' else v i) ∧ Has w0 (w2.setCell ⟨G, k, none⟩ v') p d X' := by
  obtain ⟨i, hi, hz, hs, hb⟩ := info_parts info_s
  obtain ⟨v', w2, hr, hown, hg, _, hat⟩ := run_append_own_at (P := Try.prog) w w0.heap.size 44 44 9 i _ 1 16 Try.underlying44 hi hz hs hb rfl (by decide) old L.length _ hrow ⟨a, 0, none⟩ 1 1 [.string s] rfl
    (fun j u hu => by
      have e : (⟨a, 0, none⟩ : Addr).add j = ⟨a, j, none⟩ := by unfold Addr.add; split <;> simp_all
      rw [e, cell_of_row w a j _ _ _ ha]; simpa using hu) (by simp [Value.oneCell']) (by unfold maxLen; omega) (by omega) hh.bel.size
  have hGw2 : w2.heap[G]? = w.heap[G]? := hg.block G (lt_of hm.blk) (fun e => (hold G e.symm).2.1 rfl)
  have hlt2 : w.heap.size ≤ w2.heap.size := hg.size
  obtain ⟨A, c, hv', hnc, hcm⟩ := row_form hown
  refine ⟨v', w2, hr, ⟨_, _, _, hv'⟩, hGw2.trans hm.blk, hlt2, fun b hb ho => hg.block b hb (fun e => ho e.symm), ?_⟩
  -- the row's new block
  have hv'b : ∀ b, v'.ownBlock = some b → (b ∈ X ∨ b = w.heap.size) ∧ b ≠ G ∧ b < w2.heap.size ∧ w0.heap.size ≤ b ∧ ∀ l, l < 4 → l ≠ k → (v l).ownBlock ≠ some b := fun b hb => by
    have h1 := hown.lt b hb
    rcases hat with e | e
    · rw [e] at hb
      exact ⟨.inl (hold b hb).1, (hold b hb).2.1, h1.2, h1.1, (hold b hb).2.2⟩
    · rw [e] at hb
      obtain rfl := Option.some.inj hb
      refine ⟨.inr rfl, ?_, h1.2, h1.1, fun l hl _ e2 => ?_⟩
      · have := lt_of hm.blk; omega
      · have := ((hm.row l hl).lt _ e2).2; omega
  have hF : Fr (fun b => old.ownBlock = some b) w w2 := Fr.grown hg (fun b hb => hb)
  have hH2 : Has w0 w2 p d X := hh.turn hF (fun b hb => ⟨(hold b hb).1, (hrow.lt b hb).1⟩)
  have hH3 : Has w0 w2 p d (match v'.ownBlock with | some b => b :: X | none => X) := by
    cases hvb : v'.ownBlock with
    | none => exact hH2
    | some b =>
      show Has w0 w2 p d (b :: X)
      rcases (hv'b b hvb).1 with hb | hb
      · exact hH2.less (fun j hj => by rcases List.mem_cons.1 hj with rfl | hj; exact hb; exact hj)
      · obtain ⟨F, g1, g2, g3⟩ := hh.dev
        obtain ⟨F2, g1', g2', g3'⟩ := hH2.dev
        have hFb : ¬ F b := fun hf => by have := g1.lt b hf; omega
        refine ⟨⟨F, g1.keep hF (fun j hj e => (g3 j (hold j e).1).1 hj), g2, fun j hj => ?_⟩, hH2.bel⟩
        rcases List.mem_cons.1 hj with rfl | hj
        · exact ⟨hFb, (hv'b j hvb).2.2.1⟩
        · exact ⟨(g3 j hj).1, Nat.lt_of_lt_of_le (g3 j hj).2 hlt2⟩
  have hsub : ∀ b, b ∈ X → b ∈ (match v'.ownBlock with | some b => b :: X | none => X) := fun b hb => by
    cases v'.ownBlock with
    | none => exact hb
    | some c => exact List.mem_cons_of_mem _ hb
  refine ⟨_, ?_, hH3.setCell (hsub G hm.gX) hm.gB k v'⟩
  have hrows : ∀ l, l < 4 → l ≠ k → w2.ownsRow w0.heap.size 9 1 (v l) (M l).length ((M l).map .string) := fun l hl hlk =>
    hF.row (hm.row l hl) (fun b hb e => (hold b e).2.2 l hl hlk hb)
  refine ⟨?_, fun l hl => ?_, fun l hl b hb => ?_, fun l hl j hj hlj b hb => ?_, hsub G hm.gX, hm.gB⟩
  · rw [← setv v k hk v']; exact set_at (hGw2.trans hm.blk) k v'
  · by_cases hlk : l = k
    · subst hlk
      simp only [if_true, List.length_append, List.length_cons, List.length_nil, List.map_append, List.map_cons, List.map_nil]
      exact row_kept hown fun b hb => Below.heap_setCell _ _ _ _ (hv'b b hb).2.1
    · simp only [if_neg hlk]
      exact row_kept (hrows l hl hlk) fun b hb => Below.heap_setCell _ _ _ _ (hm.inX l hl b hb).2
  · by_cases hlk : l = k
    · simp only [if_pos hlk] at hb
      refine ⟨?_, (hv'b b hb).2.1⟩
      rw [hb]; exact List.mem_cons_self
    · simp only [if_neg hlk] at hb
      exact ⟨hsub b (hm.inX l hl b hb).1, (hm.inX l hl b hb).2⟩
  · by_cases hlk : l = k
    · simp only [if_pos hlk] at hb
      simp only [if_neg (fun e => hlj (hlk.trans e.symm) : ¬ j = k)]
      exact (hv'b b hb).2.2.2.2 j hj (fun e => hlj (hlk.trans e.symm))
    · simp only [if_neg hlk] at hb
      by_cases hjk : j = k
      · simp only [if_pos hjk]
        exact fun e => (hv'b b e).2.2.2.2 l hl hlk hb
      · simp only [if_neg hjk]
        exact hm.two l hl j hj hlj b hb
/-! ### what may be there behind a crash -/
structure Cov (k : Nat) (M : List ByteArray) (d : Dv) : Prop where
  firm : ∃ s, d.firm[k]? = some s ∧ s ∈ M
  late : ∀ x ∈ d.late, x.1 = k → x.2 ∈ M
theorem kept_cov (keep : Int) (k : Nat) (M : List ByteArray) : ∀ (xs : List (Nat × ByteArray)) (i : Nat) (l : List ByteArray), (∃ s, l[k]? = some s ∧ s ∈ M) → (∀ x ∈ xs, x.1 = k → x.2 ∈ M) → ∃ s, (kept keep i xs l)[k]? = some s ∧ s ∈ M
  | [], _, _, h, _ => h
  | x :: xs, i, l, h, hx => by
    rw [kept]
    refine kept_cov keep k M xs _ _ ?_ (fun y hy => hx y (by simp [hy]))
    split
    · obtain ⟨s, hs, hm⟩ := h
      by_cases e : x.1 = k
      · refine ⟨x.2, ?_, hx x (by simp) e⟩
        unfold put
        rw [e, List.getElem?_set_self (List.getElem?_eq_some_iff.1 hs).1]
      · exact ⟨s, (put_other e).trans hs, hm⟩
    · exact h
theorem Cov.keep {k : Nat} {M : List ByteArray} {d d' : Dv} (h : Cov k M d) (hf : d'.firm = d.firm) (hl : d'.late = d.late) : Cov k M d' := ⟨by rw [hf]; exact h.firm, by rw [hl]; exact h.late⟩
theorem Cov.more {k : Nat} {M : List ByteArray} {d d' : Dv} (h : Cov k M d) (hf : d'.firm = d.firm) (i : Nat) (s : ByteArray) (hl : d'.late = d.late ++ [(i, s)]) : Cov k (if k = i then M ++ [s] else M) d' := by
  obtain ⟨t, h1, h2⟩ := h.firm
  refine ⟨⟨t, by rw [hf]; exact h1, by split <;> simp [h2]⟩, fun x hx he => ?_⟩
  rw [hl] at hx
  rcases List.mem_append.1 hx with hx | hx
  · have := h.late x hx he
    split <;> simp [this]
  · simp only [List.mem_singleton] at hx
    subst hx
    simp only at he
    subst he
    simp
theorem cov_new {k : Nat} {d : Dv} {s : ByteArray} (hf : d.firm[k]? = some s) (hl : d.late = []) : Cov k [s] d := ⟨⟨s, hf, by simp⟩, fun x hx => by rw [hl] at hx; simp at hx⟩
theorem readE_live {d : Dv} {k : Nat} {s : ByteArray} (hf : d.firm[k]? = some s) (hl : d.late = []) (hd : d.dead = false) : readE d k = .returned (.tuple #[.string s, .int .i64 0]) := by
  have hlt := (List.getElem?_eq_some_iff.1 hf).1
  have hn : d.now = d.firm := by unfold Dv.now; rw [hl]; rfl
  rw [read_live hlt hd, hn, List.getD, hf]; rfl
theorem settled_at {d : Dv} {k : Nat} {s : ByteArray} (hf : d.firm[k]? = some s) : d.settled k = s := by
  have hlt := (List.getElem?_eq_some_iff.1 hf).1
  have hb : ¬ d.bad (k : Int) = true := by
    unfold Dv.bad
    rw [Bool.or_eq_true, decide_eq_true_eq, decide_eq_true_eq]; omega
  unfold Dv.settled
  rw [if_neg hb, Int.toNat_natCast, List.getD, hf]; rfl
/-- Which way an act goes, as the law looks at it. -/
theorem act_ways (d : Dv) (x : SAct) (hlen : d.firm.length = 4) :
    (x.k.tmod 5 = 0 ∧ ∃ i : Nat, i < 4 ∧ x.at_ = i ∧ (d.act x).1 = 0 ∧ (d.act x).2.firm = d.firm ∧ (d.act x).2.late = d.late ++ [(i, rep8 x.b 256)]) ∨
    (x.k.tmod 5 = 0 ∧ (d.act x).1 ≠ 0 ∧ (d.act x).2.firm = d.firm ∧ (d.act x).2.late = d.late) ∨
    (x.k.tmod 5 = 1 ∧ (d.act x).1 = 0 ∧ (d.act x).2.late = [] ∧ (d.act x).2.dead = false ∧ (d.act x).2.firm.length = 4) ∨
    (x.k.tmod 5 = 1 ∧ (d.act x).1 ≠ 0 ∧ (d.act x).2.firm = d.firm ∧ (d.act x).2.late = d.late) ∨
    (x.k.tmod 5 = 3 ∧ (d.act x).2.late = [] ∧ (d.act x).2.dead = false ∧ (d.act x).2.firm.length = 4) ∨
    (x.k.tmod 5 ≠ 0 ∧ x.k.tmod 5 ≠ 1 ∧ x.k.tmod 5 ≠ 3 ∧ (d.act x).2.firm = d.firm ∧ (d.act x).2.late = d.late) := by
  have h4 := act_len d x
  by_cases c0 : x.k.tmod 5 = 0
  · have e : d.act x = d.write x.at_ (rep8 x.b 256) := by unfold Dv.act; rw [if_pos c0]
    by_cases hb : (d.bad x.at_ || (rep8 x.b 256).size != 256) = true
    · right; left
      rw [e, show d.write x.at_ (rep8 x.b 256) = (1, d) by unfold Dv.write; rw [if_pos hb]]
      exact ⟨c0, by simp, rfl, rfl⟩
    · by_cases hu : d.burns = true
      · right; left
        rw [e, show d.write x.at_ (rep8 x.b 256) = (5, d.die) by unfold Dv.write; rw [if_neg hb, if_pos hu]]
        exact ⟨c0, by simp, rfl, rfl⟩
      · left
        simp only [Bool.not_eq_true, Bool.or_eq_false_iff] at hb
        have hbd := Dv.bad_false hb.1
        rw [hlen] at hbd
        refine ⟨c0, x.at_.toNat, by omega, by omega, ?_⟩
        rw [e, show d.write x.at_ (rep8 x.b 256) = (0, { d with late := d.late ++ [(x.at_.toNat, rep8 x.b 256)], fuse := less d.fuse }) by unfold Dv.write; rw [if_neg (by rw [hb.1, hb.2]; simp), if_neg hu]]
        exact ⟨rfl, rfl, rfl⟩
  · by_cases c1 : x.k.tmod 5 = 1
    · have e : d.act x = d.barrier := by unfold Dv.act; rw [if_neg c0, if_pos c1]
      by_cases hu : d.burns = true
      · right; right; right; left
        rw [e, show d.barrier = (5, d.die) by unfold Dv.barrier; rw [if_pos hu]]
        exact ⟨c1, by simp, rfl, rfl⟩
      · right; right; left
        have h4' := h4
        rw [e, show d.barrier = (0, { d with firm := d.now, late := [], fuse := less d.fuse }) by unfold Dv.barrier; rw [if_neg hu]] at h4' ⊢
        refine ⟨c1, rfl, rfl, ?_, h4'.trans hlen⟩
        simp only [Dv.burns, Bool.or_eq_true, not_or, Bool.not_eq_true] at hu
        exact hu.1
    · by_cases c3 : x.k.tmod 5 = 3
      · right; right; right; right; left
        have e : d.act x = (0, d.crash x.keep) := by unfold Dv.act; rw [if_neg c0, if_neg c1, if_neg (by omega), if_pos c3]
        rw [e]; rw [e] at h4
        exact ⟨c3, rfl, rfl, h4.trans hlen⟩
      · right; right; right; right; right
        refine ⟨c0, c1, c3, ?_⟩
        by_cases c2 : x.k.tmod 5 = 2
        · rw [show d.act x = (0, d.light x.at_) by unfold Dv.act; rw [if_neg c0, if_neg c1, if_pos c2]]
          exact ⟨rfl, rfl⟩
        · by_cases c4 : x.k.tmod 5 = 4
          · have e : d.act x = d.write x.at_ (rep8 x.b (x.b.toNat % 128)) := by unfold Dv.act; rw [if_neg c0, if_neg c1, if_neg c2, if_neg c3, if_pos c4]
            have hsz : (rep8 x.b (x.b.toNat % 128)).size ≠ 256 := by rw [rep8_size]; omega
            rw [e, show d.write x.at_ (rep8 x.b (x.b.toNat % 128)) = (1, d) by unfold Dv.write; rw [if_pos (by rw [Bool.or_eq_true, bne_iff_ne]; exact .inr hsz)]]
            exact ⟨rfl, rfl⟩
          · rw [show d.act x = (0, d) by unfold Dv.act; rw [if_neg c0, if_neg c1, if_neg c2, if_neg c3, if_neg c4]]
            exact ⟨rfl, rfl⟩
end Go.Proofs.Ytmphnfkohilojaa.Dev
