/- Layer hold: what holds between two acts of a script, in memory: the lock's block, its holders, the three lists of grants; and each of them grown. -/
import Derived.Test.YtkcacfnefhakbaaHoldRevoke
import Derived.Test.YtkcacfnefhakbaaHoldActs
import Derived.Test.YtkcacfnefhakbaaHoldAny
namespace Go.Proofs.Ytkcacfnefhakbaa.holdApart
open Go.RowKit Go.Shelf Go.Blk Go.Sees Go.Proofs.Ytkcacfnefhakbaa.HoldL Go.Proofs.Ytkcacfnefhakbaa.P12 Go.Proofs.YtkcacfnefhakbaaW.PrintWords Go.Proofs.YtkcacfnefhakbaaW.PrintLast Go.Proofs.YtkcacfnefhakbaaW.PrintMore
set_option linter.unusedVariables false
set_option linter.unusedSimpArgs false

theorem R_both {W : World} {base : Nat} {ok : Nat → Prop} {A : Option Addr} {n c' : Nat} {l : List S40} (h : Kd.R k40 40 W base ok (.slice A n c') l) : Kd.C k40 W A l.length l ∧ l.length ≤ c' := ⟨(Kd.R_reads' h).2.2, by have h1 := (Kd.R_reads' h).1; have h2 := (Kd.R_reads' h).2.1; omega⟩
abbrev actA (a : SAct) : Array Value := #[.int .i64 a.f0, .int .u32 a.f1, .int .u32 a.f2]
abbrev Grants := List (Int × Int × Int)
/-- unlike blocks -/
def Un (a b : Value) : Prop := ∀ k, a.ownBlock = some k → some k ≠ b.ownBlock
/-- what holds between two acts: the lock's block B, its holders v, the three lists -/
structure St (w : World) (B : Nat) (s4 s5 s6 v : Value) (x : S25) (gs : Grants) (W : World) : Prop where
  inv : Inv x gs
  blk : W.heap[B]? = some (.cells (lockX x v) 25 (0, 0))
  hol : Kd.R k40 40 W w.heap.size (fun _ => True) v x.f6
  l4 : Kd.R (Kd.int .u32) 22 W w.heap.size (fun _ => True) s4 (gs.map (·.1))
  l5 : Kd.R (Kd.int .u32) 22 W w.heap.size (fun _ => True) s5 (gs.map (·.2.1))
  l6 : Kd.R (Kd.int .u32) 22 W w.heap.size (fun _ => True) s6 (gs.map (·.2.2))
  bv : some B ≠ v.ownBlock
  b4 : some B ≠ s4.ownBlock
  b5 : some B ≠ s5.ownBlock
  b6 : some B ≠ s6.ownBlock
  u45 : Un s4 s5
  u46 : Un s4 s6
  u56 : Un s5 s6
  u4v : Un s4 v
  u5v : Un s5 v
  u6v : Un s6 v
  bel : Below w.heap.size w W
  hB : w.heap.size ≤ B
theorem St.below {w : World} {B : Nat} {s4 s5 s6 v : Value} {x : S25} {gs : Grants} {W W' : World} (h : St w B s4 s5 s6 v x gs W) (hb : Below W.heap.size W W') : St w B s4 s5 s6 v x gs W' :=
  { h with blk := below_old h.blk hb, hol := Kd.R_below h.hol hb, l4 := Kd.R_below h.l4 hb, l5 := Kd.R_below h.l5 hb, l6 := Kd.R_below h.l6 hb, bel := h.bel.trans (hb.mono h.bel.size) }
theorem St.lt {w : World} {B : Nat} {s4 s5 s6 v : Value} {x : S25} {gs : Grants} {W : World} (h : St w B s4 s5 s6 v x gs W) : B < W.heap.size := Blk.lt_of h.blk

theorem Un.symm {a b : Value} (h : Un a b) : Un b a := fun k e e2 => h k e2.symm e.symm
/-- v1 is a row s grown: where its block lies -/
theorem Un.grown {s v1 t : Value} {n : Nat} (h : Un s t) (hat : v1.ownBlock = s.ownBlock ∨ ∃ b, v1.ownBlock = some b ∧ n ≤ b) (hl : ∀ k, t.ownBlock = some k → k < n) : Un v1 t := fun k e e2 => by
  rcases hat with h1 | ⟨b, h1, h2⟩
  · exact h k (h1 ▸ e) e2
  · obtain rfl : b = k := by rw [h1] at e; exact Option.some.inj e
    have := hl b e2.symm; omega
theorem ne_grown {s v1 : Value} {n B : Nat} (h : some B ≠ s.ownBlock) (hat : v1.ownBlock = s.ownBlock ∨ ∃ b, v1.ownBlock = some b ∧ n ≤ b) (hl : B < n) : some B ≠ v1.ownBlock := fun e => by
  rcases hat with h1 | ⟨b, h1, h2⟩
  · exact h (e.trans h1)
  · obtain rfl : B = b := by rw [h1] at e; exact Option.some.inj e
    omega
/-- the same within an act: the lists by themselves; the act lies in block P -/
structure Ls (w : World) (B P : Nat) (a : SAct) (s4 s5 s6 v : Value) (x : S25) (l4 l5 l6 : List Int) (W : World) : Prop where
  blk : W.heap[B]? = some (.cells (lockX x v) 25 (0, 0))
  act : W.heap[P]? = some (.cells (actA a) 49 (0, 0))
  hol : Kd.R k40 40 W w.heap.size (fun _ => True) v x.f6
  r4 : Kd.R (Kd.int .u32) 22 W w.heap.size (fun _ => True) s4 l4
  r5 : Kd.R (Kd.int .u32) 22 W w.heap.size (fun _ => True) s5 l5
  r6 : Kd.R (Kd.int .u32) 22 W w.heap.size (fun _ => True) s6 l6
  bv : some B ≠ v.ownBlock
  b4 : some B ≠ s4.ownBlock
  b5 : some B ≠ s5.ownBlock
  b6 : some B ≠ s6.ownBlock
  p4 : some P ≠ s4.ownBlock
  p5 : some P ≠ s5.ownBlock
  p6 : some P ≠ s6.ownBlock
  u45 : Un s4 s5
  u46 : Un s4 s6
  u56 : Un s5 s6
  u4v : Un s4 v
  u5v : Un s5 v
  u6v : Un s6 v
  bel : Below w.heap.size w W
  hB : w.heap.size ≤ B
section
variable {w : World} {B P : Nat} {a : SAct} {s4 s5 s6 v v1 : Value} {x : S25} {l4 l5 l6 ys : List Int} {W W' : World}
theorem Ls.below (h : Ls w B P a s4 s5 s6 v x l4 l5 l6 W) (hb : Below W.heap.size W W') : Ls w B P a s4 s5 s6 v x l4 l5 l6 W' :=
  { h with blk := below_old h.blk hb, act := below_old h.act hb, hol := Kd.R_below h.hol hb, r4 := Kd.R_below h.r4 hb, r5 := Kd.R_below h.r5 hb, r6 := Kd.R_below h.r6 hb, bel := h.bel.trans (hb.mono h.bel.size) }
theorem Ls.app4 (h : Ls w B P a s4 s5 s6 v x l4 l5 l6 W) (ho : Kd.R (Kd.int .u32) 22 W' w.heap.size (fun _ => True) v1 (l4 ++ ys)) (hb : Below w.heap.size w W') (hg : W.grownBy W' s4.ownBlock) (hat : v1.ownBlock = s4.ownBlock ∨ ∃ b, v1.ownBlock = some b ∧ W.heap.size ≤ b) : Ls w B P a v1 s5 s6 v x (l4 ++ ys) l5 l6 W' where
  blk := (hg.block B (lt_of h.blk) h.b4).trans h.blk
  act := (hg.block P (lt_of h.act) h.p4).trans h.act
  hol := Kd.R_grown2 h.hol rfl hg (fun k e => h.u4v k e)
  r4 := ho
  r5 := Kd.R_grown2 h.r5 rfl hg (fun k e => h.u45 k e)
  r6 := Kd.R_grown2 h.r6 rfl hg (fun k e => h.u46 k e)
  bv := h.bv
  b4 := ne_grown h.b4 hat (lt_of h.blk)
  b5 := h.b5
  b6 := h.b6
  p4 := ne_grown h.p4 hat (lt_of h.act)
  p5 := h.p5
  p6 := h.p6
  u45 := h.u45.grown hat (Kd.R_lt h.r5)
  u46 := h.u46.grown hat (Kd.R_lt h.r6)
  u56 := h.u56
  u4v := h.u4v.grown hat (Kd.R_lt h.hol)
  u5v := h.u5v
  u6v := h.u6v
  bel := hb
  hB := h.hB
theorem Ls.app5 (h : Ls w B P a s4 s5 s6 v x l4 l5 l6 W) (ho : Kd.R (Kd.int .u32) 22 W' w.heap.size (fun _ => True) v1 (l5 ++ ys)) (hb : Below w.heap.size w W') (hg : W.grownBy W' s5.ownBlock) (hat : v1.ownBlock = s5.ownBlock ∨ ∃ b, v1.ownBlock = some b ∧ W.heap.size ≤ b) : Ls w B P a s4 v1 s6 v x l4 (l5 ++ ys) l6 W' where
  blk := (hg.block B (lt_of h.blk) h.b5).trans h.blk
  act := (hg.block P (lt_of h.act) h.p5).trans h.act
  hol := Kd.R_grown2 h.hol rfl hg (fun k e => h.u5v k e)
  r4 := Kd.R_grown2 h.r4 rfl hg (fun k e => h.u45.symm k e)
  r5 := ho
  r6 := Kd.R_grown2 h.r6 rfl hg (fun k e => h.u56 k e)
  bv := h.bv
  b4 := h.b4
  b5 := ne_grown h.b5 hat (lt_of h.blk)
  b6 := h.b6
  p4 := h.p4
  p5 := ne_grown h.p5 hat (lt_of h.act)
  p6 := h.p6
  u45 := (h.u45.symm.grown hat (Kd.R_lt h.r4)).symm
  u46 := h.u46
  u56 := h.u56.grown hat (Kd.R_lt h.r6)
  u4v := h.u4v
  u5v := h.u5v.grown hat (Kd.R_lt h.hol)
  u6v := h.u6v
  bel := hb
  hB := h.hB
theorem Ls.app6 (h : Ls w B P a s4 s5 s6 v x l4 l5 l6 W) (ho : Kd.R (Kd.int .u32) 22 W' w.heap.size (fun _ => True) v1 (l6 ++ ys)) (hb : Below w.heap.size w W') (hg : W.grownBy W' s6.ownBlock) (hat : v1.ownBlock = s6.ownBlock ∨ ∃ b, v1.ownBlock = some b ∧ W.heap.size ≤ b) : Ls w B P a s4 s5 v1 v x l4 l5 (l6 ++ ys) W' where
  blk := (hg.block B (lt_of h.blk) h.b6).trans h.blk
  act := (hg.block P (lt_of h.act) h.p6).trans h.act
  hol := Kd.R_grown2 h.hol rfl hg (fun k e => h.u6v k e)
  r4 := Kd.R_grown2 h.r4 rfl hg (fun k e => h.u46.symm k e)
  r5 := Kd.R_grown2 h.r5 rfl hg (fun k e => h.u56.symm k e)
  r6 := ho
  bv := h.bv
  b4 := h.b4
  b5 := h.b5
  b6 := ne_grown h.b6 hat (lt_of h.blk)
  p4 := h.p4
  p5 := h.p5
  p6 := ne_grown h.p6 hat (lt_of h.act)
  u45 := h.u45
  u46 := (h.u46.symm.grown hat (Kd.R_lt h.r4)).symm
  u56 := (h.u56.symm.grown hat (Kd.R_lt h.r5)).symm
  u4v := h.u4v
  u5v := h.u5v
  u6v := h.u6v.grown hat (Kd.R_lt h.hol)
  bel := hb
  hB := h.hB
theorem Ls.st {gs : Grants} {g : Int × Int × Int} (h : Ls w B P a s4 s5 s6 v x (gs.map (·.1) ++ [g.1]) (gs.map (·.2.1) ++ [g.2.1]) (gs.map (·.2.2) ++ [g.2.2]) W) (hI : Inv x (gs ++ [g])) : St w B s4 s5 s6 v x (gs ++ [g]) W :=
  { inv := hI, blk := h.blk, hol := h.hol, l4 := by rw [List.map_append]; exact h.r4, l5 := by rw [List.map_append]; exact h.r5, l6 := by rw [List.map_append]; exact h.r6, bv := h.bv, b4 := h.b4, b5 := h.b5, b6 := h.b6, u45 := h.u45, u46 := h.u46, u56 := h.u56, u4v := h.u4v, u5v := h.u5v, u6v := h.u6v, bel := h.bel, hB := h.hB }
theorem inf22 : (Try.prog.info? 22).map (fun i => (i.zero, i.size, i.bytes)) = some (some (.int .u32 0), 1, 4) := by kernel_rfl
theorem R_all {β : Type} {A : Option Addr} {n c' : Nat} {base : Nat} {ok : Nat → Prop} {l : List β} {f : β → Int} (h : Kd.R (Kd.int .u32) 22 W base ok (.slice A n c') (l.map f)) : Kd.C (Kd.int .u32) W A l.length (l.map f) := by
  have h1 := (Kd.R_reads' h).2.2
  rwa [List.length_map] at h1
theorem at_all {β : Type} {A : Option Addr} {n : Nat} {l : List β} {f : β → Int} (h : Kd.C (Kd.int .u32) W A n (l.map f)) (h0 : 0 < n) : ∃ ad, A = some ad ∧ ∀ k, k < n → ∀ g, l[k]? = some g → W.cell? (ad.add k) = some (.int .u32 (f g)) := by
  obtain ⟨ad, -, e, -⟩ := Kd.C_get h 0 0 (Int.le_refl _) (by omega)
  refine ⟨ad, e, fun k hk g hg => ?_⟩
  obtain ⟨ad', c, e', -, hK, hc⟩ := Kd.C_get h 0 k (by omega) (by omega)
  obtain rfl : ad = ad' := by rw [e] at e'; exact Option.some.inj e'
  have hx : (l.map f).getD k 0 = f g := by rw [List.getD_eq_getElem?_getD, List.getElem?_map, hg]; rfl
  rw [Int.toNat_natCast, hx] at hK
  have h1 := hc 0 (.int .u32 (f g)) (by rw [show c = [.int .u32 (f g)] from hK]; rfl)
  rw [Int.toNat_natCast, show (k * (Kd.int .u32).sz + 0) = k from by show k * 1 + 0 = k; omega] at h1
  exact h1
/-- what the last test reads -/
abbrev Five (W : World) (pe qe pm pc qc : Addr) (ge he gm gc hc : Int) (w' : World) : Prop :=
  (w'.cell? pe = some (.int .u32 ge) ∧ w'.cell? qe = some (.int .u32 he) ∧ w'.cell? pm = some (.int .u32 gm) ∧ w'.cell? pc = some (.int .u32 gc) ∧ w'.cell? qc = some (.int .u32 hc)) ∧ Below W.heap.size W w'
theorem Five.drew {W w' : World} {pe qe pm pc qc : Addr} {ge he gm gc hc : Int} (h : Five W pe qe pm pc qc ge he gm gc hc w') : Five W pe qe pm pc qc ge he gm gc hc w'.drew := ⟨h.1, h.2.drew⟩
/-- one number, as append is handed it -/
theorem row_u32 {W : World} {b : Nat} {n : Int} {t : TypeId} (h : W.heap[b]? = some (.cells #[.int .u32 n] t (0, 0))) : ReadsRow ((Kd.int .u32).K W) (Kd.int .u32).sz W (some ⟨b, 0, none⟩) 1 [n] := by
  refine ⟨rfl, by decide, fun _ => ⟨⟨b, 0, none⟩, rfl, fun j p hj => ?_⟩⟩
  cases j with
  | zero =>
    obtain rfl : n = p := by simpa using hj
    refine ⟨[.int .u32 n], rfl, rfl, fun i u hi => ?_⟩
    cases i with
    | zero =>
      obtain rfl : Value.int .u32 n = u := by simpa using hi
      exact (blk1 h).1
    | succ i => simp at hi
  | succ j => simp at hj
end
end Go.Proofs.Ytkcacfnefhakbaa.holdApart
