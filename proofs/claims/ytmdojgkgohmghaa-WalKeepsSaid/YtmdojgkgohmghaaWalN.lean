/- Layer wal: two devices of a law's own; lists put together. -/
import Derived.Test.YtmdojgkgohmghaaWalM3
import Derived.Laws.Slices
namespace Go.Proofs.Ytmdojgkgohmghaa.Wal
open Go.RowKit Go.Own Go.Blk Go.DevL Go.XdrL Go.WalL Go.OpsL Go.Sees Go.Proofs.Ytmdojgkgohmghaa.P04 Go.Proofs.Ytmdojgkgohmghaa.Xdr Go.Proofs.YtmdojgkgohmghaaW.PrintLast Go.Proofs.YtmdojgkgohmghaaW.PrintWords
open Go.Proofs.Ytmdojgkgohmghaa.Dev hiding stop_here execOp_build execOp_alloc execOp_store execOp_load execOp_buildSlice execOp_makeSlice execOp_box execOp_copy execOp_append wpList_val wpList_none Up
set_option linter.unusedVariables false
set_option linter.unusedSimpArgs false
set_option maxRecDepth 100000
variable {w0 w w' : World} {p q p2 q2 : Nat} {d d' d2 d2' : Dv} {X : List Nat} {last : Nat} {dead : Bool} {b c : List (Int × ByteArray)} {l l' : List ByteArray}
theorem clamp46 : clamp 46 = 46 := by decide
theorem fresh46 : (fresh 46).firm.length = 46 := by simp [fresh, clamp46]
theorem size46 {d : Dv} (h : d.firm.length = 46) : sizeL d = 5 := by unfold sizeL; rw [h]; rfl
theorem open46 : openD (fresh 46) = (0, 0, fresh 46) := open_fresh 46 (by rw [clamp46]; decide)
/-- Blocks are put behind a row of one's own. -/
theorem nappend (w : World) {u : Value} {l : List (Int × ByteArray)} (h : NR w u l) (A : Option Addr) (cp : Nat) (news : List (Int × ByteArray)) (hA : Shows w A (nrow news)) (hl : l.length ≤ 1000) (hm : news.length ≤ 1000) :
    ∃ u' w', (Builtin.append_ #[22, 22] 22 #[u, .slice A news.length cp]).run Try.prog w = .ok u' w' ∧ NR w' u' (l ++ news) ∧ Fr (fun k => u.ownBlock = some k) w w' ∧ (∀ k, u'.ownBlock = some k → u.ownBlock = some k ∨ w.heap.size ≤ k) := by
  obtain ⟨i, h1, h2, h3, h4⟩ := info_get info_n
  obtain ⟨u', w', hr, ho, hg, hat⟩ := run_append_part (P := Try.prog) w 0 22 22 26 i _ 2 24 Try.underlying22 h1 h2 h3 h4 rfl (by omega) u l.length _ h A news.length cp (nrow news) (by rw [nrow_length]) hA (nrow_one _) (by unfold maxLen; omega) (by omega) (Nat.zero_le _)
  refine ⟨u', w', hr, ?_, Fr.grown (F := fun k => u.ownBlock = some k) hg (fun k hk => hk), fun k hk => ?_⟩
  · show partRow w' 0 _ 2 u' (l ++ news).length (nrow (l ++ news))
    rw [List.length_append, show nrow (l ++ news) = nrow l ++ nrow news by simp [nrow]]
    exact ho
  · rcases hat with h | h
    · rw [h] at hk; exact .inl hk
    · rw [h] at hk; simp only [Option.some.injEq] at hk; exact .inr (by omega)
theorem nrow_at (l : List (Int × ByteArray)) (j : Nat) (u : Value) (h : (nrow l)[j]? = some u) : ∃ hi : j / 2 < l.length, (ncells l[j / 2])[j % 2]? = some u := by
  have hj : j < (nrow l).length := (List.getElem?_eq_some_iff.1 h).1
  rw [nrow_length] at hj
  have hi : j / 2 < l.length := by omega
  refine ⟨hi, ?_⟩
  have := flat_get (l := l) (f := ncells) (s := 2) (fun _ _ => rfl) (j / 2) hi (j % 2) (by omega)
  rw [show j / 2 * 2 + j % 2 = j by omega] at this
  rw [← this]
  exact h
/-- A list that came in, from place k on, or up to it, or whole. -/
theorem shows_drop {A : Option Addr} (h : ArrAt w A ncells 2 b) (k cp : Nat) (hk : k < b.length) (hc : b.length ≤ cp) : Shows w (if cp = k then A else A.map (·.add (k * 2))) (nrow (b.drop k)) := by
  rw [if_neg (by omega)]
  obtain ⟨blk, off, rfl, _, _⟩ := h 0 (by omega)
  refine .inr ⟨_, rfl, fun j u hj => ?_⟩
  obtain ⟨hi, hu⟩ := nrow_at _ j u hj
  rw [List.length_drop] at hi
  obtain ⟨blk', off', e, _, hcl⟩ := h (k + j / 2) (by omega)
  cases e
  rw [List.getElem_drop] at hu
  show w.cell? (((⟨blk, off, none⟩ : Addr).add (k * 2)).add j) = some u
  rw [add_at, add_at, ← hcl (j % 2) u hu]
  congr 2
  omega
theorem shows_take {A : Option Addr} (h : ArrAt w A ncells 2 b) (k : Nat) (hk : k < b.length) : Shows w (if k = 0 then A else A.map (·.add (0 * 2))) (nrow (b.take k)) ∧ ∀ cp, Shows w (if cp = 0 then A else A.map (·.add (0 * 2))) (nrow (b.take k)) := by
  have key : ∀ A' : Option Addr, (A' = A ∨ A' = A.map (·.add (0 * 2))) → Shows w A' (nrow (b.take k)) := fun A' hA' => by
    obtain ⟨blk, off, rfl, _, _⟩ := h 0 (by omega)
    have e : A' = some ⟨blk, off, none⟩ := by
      rcases hA' with rfl | rfl
      · rfl
      · simp [add_at]
    refine .inr ⟨_, e, fun j u hj => ?_⟩
    obtain ⟨hi, hu⟩ := nrow_at _ j u hj
    rw [List.length_take] at hi
    obtain ⟨blk', off', e, _, hcl⟩ := h (j / 2) (by omega)
    cases e
    rw [List.getElem_take] at hu
    rw [add_at, ← hcl (j % 2) u hu]
    congr 2
    omega
  refine ⟨key _ ?_, fun cp => key _ ?_⟩ <;> (split <;> simp)
theorem arr_of_row {a : Option Addr} {n cp : Nat} {l : List (Int × ByteArray)} (h : NR w (.slice a n cp) l) : ArrAt w a ncells 2 l := fun i hi => by
  obtain ⟨g, c', e, hr⟩ := nrow_get h i hi
  simp only [Value.slice.injEq] at e
  obtain ⟨rfl, rfl, rfl⟩ := e
  exact ⟨g, 0, rfl, (h.lt g rfl).2, fun j u hu => by rw [Nat.zero_add]; exact hr j u hu⟩
theorem idx_of (n : Int) (m : Nat) (h0 : 0 < m) (h1 : m ≤ 1000) : ∃ k : Nat, k < m ∧ wrap64 ((IntKind.u64.wrap n).tmod (m : Int)) = (k : Int) := by
  have h2 : 0 ≤ IntKind.u64.wrap n := by rw [IntKind.wrap_u64]; omega
  have h3 : 0 ≤ IntKind.u64.wrap n % (m : Int) := Int.emod_nonneg _ (by omega)
  have h4 : IntKind.u64.wrap n % (m : Int) < m := Int.emod_lt_of_pos _ (by omega)
  refine ⟨(IntKind.u64.wrap n % (m : Int)).toNat, by omega, ?_⟩
  rw [Int.tmod_eq_emod_of_nonneg h2]
  unfold wrap64
  omega
/-! ### turned about, plainly -/
theorem fit_perm {size : Int} (h : fit size b) (hp : c.Perm b) : fit size c :=
  ⟨by rw [hp.length_eq]; exact h.1, by rw [hp.length_eq]; exact h.2.1, fun x hx => h.2.2.1 x (hp.mem_iff.1 hx), (hp.map _).nodup_iff.2 h.2.2.2⟩
theorem at_inj (h : (b.map (·.1)).Nodup) {x y : Int × ByteArray} (hx : x ∈ b) (hy : y ∈ b) (e : x.1 = y.1) : x = y := by
  obtain ⟨i, hi, rfl⟩ := List.getElem_of_mem hx
  obtain ⟨j, hj, rfl⟩ := List.getElem_of_mem hy
  have hp := List.pairwise_iff_getElem.1 h
  rcases Nat.lt_trichotomy i j with hij | rfl | hij
  · have := hp i j (by simpa using hi) (by simpa using hj) hij
    simp only [List.getElem_map] at this
    exact absurd e this
  · rfl
  · have := hp j i (by simpa using hj) (by simpa using hi) hij
    simp only [List.getElem_map] at this
    exact absurd e.symm this
theorem after_perm {size : Int} (h : fit size b) (hp : b.Perm c) (l : List ByteArray) : afterL l b = afterL l c := by
  unfold afterL
  refine hp.foldl_eq' (fun x hx y hy z => ?_) l
  by_cases e : x.1 = y.1
  · rw [at_inj h.2.2.2 hx hy e]
  · have h1 := fit_mem h hx
    have h2 := fit_mem h hy
    exact List.set_comm _ _ (by omega)
/-! ### two devices -/
structure Two (w0 w : World) (p : Nat) (d : Dv) (p2 : Nat) (d2 : Dv) (X : List Nat) : Prop where
  dev : ∃ F G, Dev F w p d ∧ Dev G w p2 d2 ∧ (∀ k, F k → w0.heap.size ≤ k ∧ ¬ G k) ∧ (∀ k, G k → w0.heap.size ≤ k) ∧ ∀ k, k ∈ X → ¬ F k ∧ ¬ G k ∧ k < w.heap.size
  bel : Below w0.heap.size w0 w
theorem Two.fst (h : Two w0 w p d p2 d2 X) : Has w0 w p d X := by
  obtain ⟨F, G, h1, h2, h3, h4, h5⟩ := h.dev
  exact ⟨⟨F, h1, fun k hk => (h3 k hk).1, fun k hk => ⟨(h5 k hk).1, (h5 k hk).2.2⟩⟩, h.bel⟩
theorem Two.snd (h : Two w0 w p d p2 d2 X) : Has w0 w p2 d2 X := by
  obtain ⟨F, G, h1, h2, h3, h4, h5⟩ := h.dev
  exact ⟨⟨G, h2, h4, fun k hk => (h5 k hk).2⟩, h.bel⟩
theorem Two.below (h : Two w0 w p d p2 d2 X) (hb : Below w.heap.size w w') : Two w0 w' p d p2 d2 X := by
  obtain ⟨F, G, h1, h2, h3, h4, h5⟩ := h.dev
  exact ⟨⟨F, G, h1.below hb, h2.below hb, h3, h4, fun k hk => ⟨(h5 k hk).1, (h5 k hk).2.1, Nat.lt_of_lt_of_le (h5 k hk).2.2 hb.size⟩⟩, h.bel.trans (hb.mono h.bel.size)⟩
theorem two_new (n : Int) (h : Has w0 w p d X) : Calls Try.prog 10 #[.int .i64 n] w fun e w' => (∃ p2, e = .returned (.pointer (some ⟨p2, 0, none⟩)) ∧ Two w0 w' p d p2 (fresh n) X) ∧ Below w.heap.size w w' := by
  refine (new_any n w).mono fun e w' ⟨⟨p2, he, hd⟩, hb⟩ => ⟨⟨p2, he, ?_⟩, hb⟩
  obtain ⟨F, h1, h2, h3⟩ := h.dev
  have hs := h.bel.size
  exact ⟨⟨F, _, h1.below hb, hd, fun k hk => ⟨h2 k hk, fun hg => by have := h1.lt k hk; omega⟩, fun k hk => by omega, fun k hk => ⟨(h3 k hk).1, fun hg => by have := (h3 k hk).2; omega, Nat.lt_of_lt_of_le (h3 k hk).2 hb.size⟩⟩, h.bel.trans (hb.mono hs)⟩
theorem two_open (h : Two w0 w p d p2 d2 X) (hl : d2.late.length ≤ 900000) (h0 : (openD d2).1 = 0) : Calls Try.prog 11 #[.pointer (some ⟨p2, 0, none⟩)] w fun e w' => Kept X w w' ∧ w.heap.size ≤ w'.heap.size ∧
    ∃ q, e = .returned (.tuple #[.pointer (some ⟨q, 0, none⟩), .int .i64 0]) ∧ LAt w' q p2 (openD d2).2.1 false ∧ w.heap.size ≤ q ∧ Two w0 w' p d p2 (openD d2).2.2 (q :: X) := by
  obtain ⟨F, G, h1, h2, h3, h4, h5⟩ := h.dev
  have hs := h.bel.size
  refine (open_calls h2 hl).mono fun e w' ⟨G', g1, g2, g3, g4⟩ => ?_
  rw [if_pos h0] at g4
  obtain ⟨q, he, hq, hGq, hqs⟩ := g4
  refine ⟨fun k hk => g3.block k (h5 k hk).2.2 (h5 k hk).2.1, g3.size, q, he, hq, hqs, ⟨⟨F, G', h1.keep g3 (fun k hk => (h3 k hk).2), g1, fun k hk => ⟨(h3 k hk).1, fun hg => ?_⟩, fun k hk => ?_, fun k hk => ?_⟩, h.bel.trans (g3.below hs h4)⟩⟩
  · rcases g2 k hg with e | e
    · exact (h3 k hk).2 e
    · have := h1.lt k hk; omega
  · rcases g2 k hk with e | e
    · exact h4 k e
    · omega
  · rcases List.mem_cons.1 hk with rfl | hk
    · exact ⟨fun hf => by have := h1.lt _ hf; omega, hGq, hq.lt⟩
    · refine ⟨(h5 k hk).1, fun hg => ?_, Nat.lt_of_lt_of_le (h5 k hk).2.2 g3.size⟩
      rcases g2 k hg with e | e
      · exact (h5 k hk).2.1 e
      · have := (h5 k hk).2.2; omega
theorem two_commit1 (h : Two w0 w p d p2 d2 X) (hq : LAt w q p last dead) (hqX : q ∈ X) (hqw : w0.heap.size ≤ q) (A : Option Addr) (cap : Nat) (hA : ArrAt w A ncells 2 b) (hAX : 0 < b.length → ∀ a, A = some a → a.block < w0.heap.size ∨ a.block ∈ X) (hbl : b.length ≤ 140737488355328) (hl : d.late.length ≤ 900000) :
    Calls Try.prog 12 #[.pointer (some ⟨q, 0, none⟩), .slice A b.length cap] w fun e w' => e = .returned (.int .i64 (commitL d last dead b).1) ∧ Two w0 w' p (commitL d last dead b).2.1 p2 d2 X ∧ LAt w' q p (commitL d last dead b).2.2.1 (commitL d last dead b).2.2.2 ∧
      (∀ k, k ∈ X → k ≠ q → w'.heap[k]? = w.heap[k]?) ∧ w.heap.size ≤ w'.heap.size := by
  obtain ⟨F, G, h1, h2, h3, h4, h5⟩ := h.dev
  have hs := h.bel.size
  refine (commit_calls hq h1 (h5 q hqX).1 A cap hA (fun h0 a ha hf => ?_) hbl hl).mono fun e w' ⟨he, ⟨F', g1, g2, g3⟩, g4, g5⟩ => ?_
  · rcases hAX h0 a ha with hk | hk
    · have := (h3 _ hf).1; omega
    · exact (h5 _ hk).1 hf
  have hnew : ∀ k, F' k → F k ∨ w.heap.size ≤ k := fun k hk => (g2 k hk).imp id (·.1)
  refine ⟨he, ⟨⟨F', G, g1, h2.keep g5 (fun k hk hf => ?_), fun k hk => ⟨?_, fun hg => ?_⟩, h4, fun k hk => ⟨fun hf => ?_, (h5 k hk).2.1, Nat.lt_of_lt_of_le (h5 k hk).2.2 g5.size⟩⟩, h.bel.trans (g5.below hs (fun k hk => ?_))⟩, g4, fun k hk hkq => g5.block k (h5 k hk).2.2 (fun hf => ?_), g5.size⟩
  · rcases hf with hf | rfl
    · exact (h3 k hf).2 hk
    · exact (h5 k hqX).2.1 hk
  · rcases hnew k hk with e | e
    · exact (h3 k e).1
    · omega
  · rcases hnew k hk with e | e
    · exact (h3 k e).2 hg
    · have := h2.lt k hg; omega
  · rcases hnew k hf with e | e
    · exact (h5 k hk).1 e
    · have := (h5 k hk).2.2; omega
  · rcases hk with hk | hk
    · exact (h3 k hk).1
    · omega
  · rcases hf with hf | hf
    · exact (h5 k hk).1 hf
    · exact hkq hf
theorem Two.swap (h : Two w0 w p d p2 d2 X) : Two w0 w p2 d2 p d X := by
  obtain ⟨F, G, h1, h2, h3, h4, h5⟩ := h.dev
  exact ⟨⟨G, F, h2, h1, fun k hk => ⟨h4 k hk, fun hf => (h3 k hf).2 hk⟩, fun k hk => (h3 k hk).1, fun k hk => ⟨(h5 k hk).2.1, (h5 k hk).1, (h5 k hk).2.2⟩⟩, h.bel⟩
end Go.Proofs.Ytmdojgkgohmghaa.Wal
