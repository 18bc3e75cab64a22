/- Layer xdr: writers and readers of a law's own, in blocks from B on. -/
import Derived.Test.YtiedmkgdhfkcoaaDoorXdrText
import Derived.Test.YtiedmkgdhfkcoaaDoorXdrR2
import Derived.Test.YtiedmkgdhfkcoaaDoorXdrLaws
namespace Go.Proofs.YtiedmkgdhfkcoaaDoor.Xdr
open Go.RowKit Go.Own Go.XdrL Go.Blk Go.OpsL Go.Proofs.YtiedmkgdhfkcoaaDoorW.PrintLast Go.Proofs.YtiedmkgdhfkcoaaDoorW.PrintWords
set_option linter.unusedVariables false
set_option linter.unusedSimpArgs false
variable {W w w' : World} {B p q : Nat} {r r' : Rd} {b b' : ByteArray}
/-- A writer that is new: the one block. -/
theorem new_writer (w : World) : Wr (fun k => k = w.heap.size) (w.alloc (.cells #[.slice none 0 0] 72)) w.heap.size ByteArray.empty :=
  ⟨.slice none 0 0, rfl, fun k hk => (by cases hk), fun k hk => (by cases hk), alloc_at w _, World.ownsRow_nil _ _ _ _, fun k hk => by subst hk; simp⟩
/-- A writer in blocks from B on, and nothing below B was changed. -/
def WB (B p : Nat) (W w : World) (b : ByteArray) : Prop := ∃ F : Nat → Prop, Wr F w p b ∧ (∀ k, F k → B ≤ k) ∧ Below B W w
theorem below_fr {F : Nat → Prop} (h : Below B W w) (hF : ∀ k, F k → B ≤ k) (k : Fr F w w') (hB : B ≤ w.heap.size) : Below B W w' := h.trans (k.below hB hF)
theorem below_le (h : Below B W w) (hB : B ≤ W.heap.size) : B ≤ w.heap.size := Nat.le_trans hB h.size
theorem WB.new (h : Below B W w) (hB : B ≤ W.heap.size) : WB B w.heap.size W (w.alloc (.cells #[.slice none 0 0] 72)) ByteArray.empty :=
  ⟨_, new_writer w, fun k hk => by subst hk; exact below_le h hB, h.alloc (below_le h hB) _⟩
theorem WB.below (h : WB B p W w b) (hb : Below w.heap.size w w') (hB : B ≤ W.heap.size) : WB B p W w' b :=
  h.elim fun F ⟨h1, h2, h3⟩ => ⟨F, h1.below hb, h2, h3.trans (hb.mono (below_le h3 hB))⟩
theorem WB.out (h : WB B p W w b) : Below B W w := h.elim fun _ h => h.2.2
theorem WB.put {F : Nat → Prop} (hB : B ≤ W.heap.size) (hF : ∀ k, F k → B ≤ k) (h3 : Below B W w) (h : Wr (Up F w w') w' p b') (k : Fr F w w') : WB B p W w' b' :=
  ⟨_, h, fun i hi => by rcases hi with hi | hi; exact hF i hi; have := below_le h3 hB; omega, below_fr h3 hF k (below_le h3 hB)⟩
theorem WB.number (hB : B ≤ W.heap.size) (h : WB B p W w b) (n : Nat) (hn : n < 4294967296) (hb : b.size ≤ 1000000000) : Calls Tryd.prog 32 #[.pointer (some ⟨p, 0, none⟩), .int .u32 (n : Int)] w fun e w' => e = .returned (.tuple #[]) ∧ WB B p W w' (b ++ num4 n) :=
  h.elim fun F ⟨h1, h2, h3⟩ => (number_any h1 n hn hb).mono fun _ _ ⟨he, a, c⟩ => ⟨he, WB.put hB h2 h3 a c⟩
theorem WB.bytes (h : WB B p W w b) : Calls Tryd.prog 35 #[.pointer (some ⟨p, 0, none⟩)] w fun e w' => e = .returned (.string b) ∧ w = w' := h.elim fun F h => bytes_any h.1
/-- A reader in a block from B on. -/
def RB (B p : Nat) (W w : World) (r : Rd) : Prop := RAt w p r ∧ B ≤ p ∧ Below B W w
theorem RB.left (hB : B ≤ W.heap.size) (h : RB B p W w r) (k : Left p r' w w') : RB B p W w' r' :=
  ⟨k.1, h.2.1, below_fr (F := (· = p)) h.2.2 (fun i hi => by have e : i = p := hi; rw [e]; exact h.2.1) k.2 (below_le h.2.2 hB)⟩
theorem RB.below (hB : B ≤ W.heap.size) (h : RB B p W w r) (hb : Below w.heap.size w w') : RB B p W w' r := ⟨h.1.below hb, h.2.1, h.2.2.trans (hb.mono (below_le h.2.2 hB))⟩
theorem RB.new (hB : B ≤ W.heap.size) (h : Below B W w) (s : ByteArray) (hs : s.size ≤ 140737488355328) : Calls Tryd.prog 39 #[.string s] w fun e w' => e = .returned (.pointer (some ⟨w.heap.size, 0, none⟩)) ∧ RB B w.heap.size W w' ⟨s, 0⟩ :=
  (new_calls s w hs).mono fun _ _ ⟨he, a, c⟩ => ⟨he, a, below_le h hB, h.trans (c.mono (below_le h hB))⟩
theorem RB.number (hB : B ≤ W.heap.size) (h : RB B p W w r) : Calls Tryd.prog 40 #[.pointer (some ⟨p, 0, none⟩)] w fun e w' => e = .returned (.int .u32 (r.number.1 : Int)) ∧ RB B p W w' r.number.2 := (number_reads h.1).mono fun _ _ ⟨he, a⟩ => ⟨he, h.left hB a⟩
theorem RB.text (hB : B ≤ W.heap.size) (h : RB B p W w r) (most : Int) : Calls Tryd.prog 41 #[.pointer (some ⟨p, 0, none⟩), .int .i64 most] w fun e w' => e = .returned (.string (r.text most).1) ∧ RB B p W w' (r.text most).2 := (text_reads h.1 most).mono fun _ _ ⟨he, a⟩ => ⟨he, h.left hB a⟩
theorem RB.end_ (hB : B ≤ W.heap.size) (h : RB B p W w r) : Calls Tryd.prog 42 #[.pointer (some ⟨p, 0, none⟩)] w fun e w' => e = .returned (.int .i64 (r.end_.e : Int)) ∧ RB B p W w' r.end_ := (end_reads h.1).mono fun _ _ ⟨he, a⟩ => ⟨he, h.left hB a⟩
theorem RB.err (h : RB B p W w r) : Calls Tryd.prog 48 #[.pointer (some ⟨p, 0, none⟩)] w fun e w' => e = .returned (.int .i64 (r.e : Int)) ∧ w = w' := err_calls h.1
/-- A row of one's own, as a list that is handed in. -/
theorem u32s_of_row {base cap : Nat} {A : Option Addr} {l : List Nat} (h : w.ownsRow base 22 1 (.slice A l.length cap) l.length (ucells l)) : U32s w A l := fun i hi => by
  rcases row_some h with ⟨_, h0⟩ | ⟨g, c, e, hg⟩
  · omega
  · simp only [Value.slice.injEq] at e
    obtain ⟨rfl, _, rfl⟩ := e
    refine ⟨g, 0, rfl, hg, fun j u hu => ?_⟩
    have hj : j = 0 := by
      cases j with
      | zero => rfl
      | succ j => simp at hu
    subst hj
    have hc := h.cellAt i (by omega)
    rw [show 0 + i * 1 + 0 = i by omega, hc]
    simp only [List.getElem?_cons_zero, Option.some.injEq] at hu
    rw [← hu]
    simp [ucells, List.getD, List.getElem?_eq_getElem hi]
/-- A writer and a reader, in blocks of their own. -/
def PB (B p q : Nat) (W w : World) (b : ByteArray) (r : Rd) : Prop := ∃ F : Nat → Prop, Wr F w p b ∧ (∀ k, F k → B ≤ k) ∧ ¬ F q ∧ RAt w q r ∧ B ≤ q ∧ Below B W w
theorem PB.new (hB : B ≤ W.heap.size) (h : WB B p W w b) (s : ByteArray) (hs : s.size ≤ 140737488355328) : Calls Tryd.prog 39 #[.string s] w fun e w' => e = .returned (.pointer (some ⟨w.heap.size, 0, none⟩)) ∧ PB B p w.heap.size W w' b ⟨s, 0⟩ :=
  h.elim fun F ⟨h1, h2, h3⟩ => (new_calls s w hs).mono fun _ _ ⟨he, a, c⟩ => ⟨he, F, h1.below c, h2, fun hF => Nat.lt_irrefl _ (h1.lt _ hF), a, below_le h3 hB, h3.trans (c.mono (below_le h3 hB))⟩
theorem PB.left (hB : B ≤ W.heap.size) (h : PB B p q W w b r) (k : Left q r' w w') : PB B p q W w' b r' :=
  h.elim fun F ⟨h1, h2, h3, h4, h5, h6⟩ => ⟨F, h1.keep k.2 (fun i hi e => h3 (by have e : i = q := e; exact e ▸ hi)), h2, h3, k.1, h5, below_fr (F := (· = q)) h6 (fun i hi => by have e : i = q := hi; rw [e]; exact h5) k.2 (below_le h6 hB)⟩
theorem PB.read {P : Program} {n : Nat} {vs : Array Value} {Q : Ending → World → Prop} (hB : B ≤ W.heap.size) (h : PB B p q W w b r) (c : Calls P n vs w fun e w' => Q e w' ∧ Left q r' w w') : Calls P n vs w fun e w' => Q e w' ∧ PB B p q W w' b r' := c.mono fun _ _ ⟨he, a⟩ => ⟨he, h.left hB a⟩
theorem PB.rat (h : PB B p q W w b r) : RAt w q r := h.elim fun _ h => h.2.2.2.1
theorem PB.below (hB : B ≤ W.heap.size) (h : PB B p q W w b r) (hb : Below w.heap.size w w') : PB B p q W w' b r :=
  h.elim fun F ⟨h1, h2, h3, h4, h5, h6⟩ => ⟨F, h1.below hb, h2, h3, h4.below hb, h5, h6.trans (hb.mono (below_le h6 hB))⟩
theorem PB.out (h : PB B p q W w b r) : Below B W w := h.elim fun _ h => h.2.2.2.2.2
theorem PB.bytes (h : PB B p q W w b r) : Calls Tryd.prog 35 #[.pointer (some ⟨p, 0, none⟩)] w fun e w' => e = .returned (.string b) ∧ w = w' := h.elim fun F h => bytes_any h.1
theorem PB.put {F : Nat → Prop} (hB : B ≤ W.heap.size) (hF : ∀ k, F k → B ≤ k) (hq : ¬ F q) (h4 : RAt w q r) (h5 : B ≤ q) (h3 : Below B W w) (h : Wr (Up F w w') w' p b') (k : Fr F w w') : PB B p q W w' b' r :=
  ⟨_, h, fun i hi => by rcases hi with hi | hi; exact hF i hi; have := below_le h3 hB; omega, fun hu => by rcases hu with hu | hu; exact hq hu; have := lt_of h4.1; omega, h4.keep k hq, h5, below_fr h3 hF k (below_le h3 hB)⟩
end Go.Proofs.YtiedmkgdhfkcoaaDoor.Xdr
