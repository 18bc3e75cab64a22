/- Layer wal: both logs, opened. Layer wal: both sides, each moving alone. Layer wal: each call on one of the two sides. Layer wal: an act on both (wal_h.py writes its second half). Layer wal: the acts of a script, what bounds them, and short lists. Layer wal: whatever is committed, wherever the device dies: each answer and each block is the document's. -/
import Derived.Test.YtmdojgkgohmghaaWalTY
import Derived.Test.YtmdojgkgohmghaaDevRM
import Derived.Test.YtmdojgkgohmghaaGoto
import Derived.Test.YtmdojgkgohmghaaWalO
import Derived.OpenShut
namespace Go.Proofs.Ytmdojgkgohmghaa.Wal
open Go.RowKit Go.Own Go.Blk Go.DevL Go.XdrL Go.WalL Go.OpsL Go.Maps Go.Sees Go.Proofs.Ytmdojgkgohmghaa.P04 Go.Proofs.Ytmdojgkgohmghaa.Xdr Go.Proofs.YtmdojgkgohmghaaW.PrintLast Go.Proofs.YtmdojgkgohmghaaW.PrintWords
open Go.Proofs.Ytmdojgkgohmghaa.Dev hiding stop_here execOp_build execOp_alloc execOp_store execOp_load execOp_buildSlice execOp_makeSlice execOp_box execOp_copy execOp_append wpList_val wpList_none Up RAt
set_option linter.unusedVariables false
set_option linter.unusedSimpArgs false
set_option maxRecDepth 100000
variable {F : Nat → Prop} {w0 w w' wr wr' : World} {b p1 p2 q1 q2 : Nat} {d d' d'' : Dv} {last c : Nat} {dead : Bool} {o : Option (Nat × Bool)}
def bAt (w : World) (b p1 p2 : Nat) (vl vx : Value) : Prop := w.heap[b]? = some (.cells #[.pointer (some ⟨p1, 0, none⟩), .pointer (some ⟨p2, 0, none⟩), vl, vx] 60 (0, 0))
def LogsAt (w0 w : World) (b p1 p2 : Nat) (F1 F2 : Nat → Prop) (vl vx : Value) : Option (Nat × Bool) → Prop
  | none => vl = .pointer none ∧ vx = .pointer none
  | some (n, dd) => ∃ q1 q2, vl = .pointer (some ⟨q1, 0, none⟩) ∧ vx = .pointer (some ⟨q2, 0, none⟩) ∧ LAt w q1 p1 n dd ∧ RLAt w q2 p2 n dd ∧ (¬ F1 q1 ∧ ¬ F2 q1 ∧ ¬ F1 q2 ∧ ¬ F2 q2) ∧ q1 ≠ b ∧ q2 ≠ b ∧ q1 ≠ q2 ∧ w0.heap.size ≤ q1 ∧ w0.heap.size ≤ q2
/-- Both devices, both logs. -/
structure PSt (w0 w : World) (b p1 p2 : Nat) (d : Dv) (o : Option (Nat × Bool)) : Prop where
  bel : Below w0.heap.size w0 w
  ge : w0.heap.size ≤ b
  sets : ∃ F1 F2 vl vx, Dev F1 w p1 d ∧ RDev F2 w p2 d ∧ (∀ k, F1 k → w0.heap.size ≤ k ∧ ¬ F2 k) ∧ (∀ k, F2 k → w0.heap.size ≤ k) ∧ ¬ F1 b ∧ ¬ F2 b ∧ bAt w b p1 p2 vl vx ∧ LogsAt w0 w b p1 p2 F1 F2 vl vx o
def oOf (r : Int × Nat × Dv) : Option (Nat × Bool) := if r.1 = 0 then some (r.2.1, false) else none
theorem bAt.keep {G : Nat → Prop} {vl vx : Value} (h : bAt w b p1 p2 vl vx) (hF : Fr G w w') (hG : ¬ G b) : bAt w' b p1 p2 vl vx := hF.at h hG
theorem set_logs {vl vx u1 u2 : Value} (h : bAt w b p1 p2 vl vx) : bAt ((w.setCell ⟨b, 2, none⟩ u1).setCell ⟨b, 3, none⟩ u2) b p1 p2 u1 u2 := by
  have h1 := set_at h 2 u1
  have h2 := set_at h1 3 u2
  unfold bAt
  rw [h2]
  rfl
/-- Behind the opening of both, and the two stores. -/
theorem opened {F1 F2 G1 G2 : Nat → Prop} {w1 w2 : World} {vl vx : Value} {r : Int × Nat × Dv} {u1 u2 : Value} (hbel : Below w0.heap.size w0 w) (hge : w0.heap.size ≤ b)
    (h12 : ∀ k, F1 k → w0.heap.size ≤ k ∧ ¬ F2 k) (h22 : ∀ k, F2 k → w0.heap.size ≤ k) (hb1 : ¬ F1 b) (hb2 : ¬ F2 b) (hb : bAt w b p1 p2 vl vx) (hlt1 : ∀ k, F1 k → k < w.heap.size) (hlt2 : ∀ k, F2 k → k < w.heap.size)
    (g1 : Dev G1 w1 p1 r.2.2) (s1 : Sub F1 w w1 G1) (f1 : Fr F1 w w1) (g2 : RDev G2 w2 p2 r.2.2) (s2 : Sub F2 w1 w2 G2) (f2 : Fr F2 w1 w2)
    (hq : (r.1 ≠ 0 ∧ u1 = .pointer none ∧ u2 = .pointer none) ∨ (r.1 = 0 ∧ ∃ q1 q2, u1 = .pointer (some ⟨q1, 0, none⟩) ∧ u2 = .pointer (some ⟨q2, 0, none⟩) ∧ LAt w1 q1 p1 r.2.1 false ∧ ¬ G1 q1 ∧ w.heap.size ≤ q1 ∧ RLAt w2 q2 p2 r.2.1 false ∧ ¬ G2 q2 ∧ w1.heap.size ≤ q2)) :
    PSt w0 ((w2.setCell ⟨b, 2, none⟩ u1).setCell ⟨b, 3, none⟩ u2) b p1 p2 r.2.2 (oOf r) := by
  have z0 := hbel.size
  have z1 := f1.size
  have z2 := f2.size
  have hbw := lt_of hb
  have gb1 : ¬ G1 b := fun h => (s1 b h).elim hb1 (fun a => by omega)
  have gb2 : ¬ G2 b := fun h => (s2 b h).elim hb2 (fun a => by omega)
  have hbA := (hb.keep f1 hb1).keep f2 hb2
  have d12 : ∀ k, G1 k → w0.heap.size ≤ k ∧ ¬ F2 k ∧ k < w1.heap.size := fun k hk => ⟨(s1 k hk).elim (fun a => (h12 k a).1) (fun a => by omega), (s1 k hk).elim (fun a => (h12 k a).2) (fun a hf => by have := hlt2 k hf; omega), g1.lt k hk⟩
  have f3 : Fr (· = b) w2 ((w2.setCell ⟨b, 2, none⟩ u1).setCell ⟨b, 3, none⟩ u2) := (Fr.setCell (F := (· = b)) w2 (p := ⟨b, 2, none⟩) rfl u1).trans (Fr.setCell (F := (· = b)) _ (p := ⟨b, 3, none⟩) rfl u2) (fun _ _ h => h)
  have g1' : Dev G1 w2 p1 r.2.2 := g1.keep f2 (fun k hk hf => (d12 k hk).2.1 hf)
  refine ⟨?_, hge, G1, G2, u1, u2, g1'.keep f3 (fun k hk e => gb1 (by have e' : k = b := e; rw [← e']; exact hk)), g2.keep f3 (fun k hk e => gb2 (by have e' : k = b := e; rw [← e']; exact hk)), fun k hk => ⟨(d12 k hk).1, fun hg => ?_⟩, fun k hk => (s2 k hk).elim (fun a => h22 k a) (fun a => by omega), gb1, gb2, set_logs hbA, ?_⟩
  · exact ((hbel.trans (f1.below z0 (fun k hk => (h12 k hk).1))).trans (f2.below (by omega) h22)).trans (f3.below (by omega) (fun k hk => by have e : k = b := hk; omega))
  · exact (s2 k hg).elim (d12 k hk).2.1 (fun a => by have := (d12 k hk).2.2; omega)
  · rcases hq with ⟨hr, rfl, rfl⟩ | ⟨hr, q1, q2, rfl, rfl, a1, a2, a3, a4, a5, a6⟩
    · unfold oOf
      rw [if_neg hr]
      exact ⟨rfl, rfl⟩
    · unfold oOf
      rw [if_pos hr]
      have l1 := a1.lt
      have l2 := a4.lt
      have nf2 : ¬ F2 q1 := fun hf => by have := hlt2 q1 hf; omega
      have ng2 : ¬ G2 q1 := fun hg => (s2 q1 hg).elim nf2 (fun a => by omega)
      have ng1 : ¬ G1 q2 := fun hg => by have := g1.lt q2 hg; omega
      exact ⟨q1, q2, rfl, rfl, (a1.keep f2 nf2).keep f3 (fun e => by have e' : q1 = b := e; omega), a4.keep f3 (fun e => by have e' : q2 = b := e; omega), ⟨a2, ng2, ng1, a5⟩, by omega, by omega, by omega, by omega, by omega⟩
set_option maxHeartbeats 16000000 in
theorem bopen_calls (h : PSt w0 w b p1 p2 d o) (hl : d.late.length ≤ 900000) : Calls Try.prog 24 #[.pointer (some ⟨b, 0, none⟩)] w fun e w' => e = .returned (.bool true) ∧ PSt w0 w' b p1 p2 (openD d).2.2 (oOf (openD d)) := by
  obtain ⟨F1, F2, vl, vx, h1, h2, h12, h22, hb1, hb2, hb, -⟩ := h.sets
  have HO := Lib.hid (open_calls h1 hl)
  have HR := Lib.hid (fun W (hW : RDev F2 W p2 d) => ropen_calls hW hl)
  have HB := Lib.hid hb
  have H := Lib.hid (And.intro h.bel (And.intro h.ge (And.intro h12 (And.intro h22 (And.intro hb1 (And.intro hb2 (And.intro h1.lt h2.lt)))))))
  have HK := Lib.hid (fun W (hf : Fr F1 w W) => (And.intro (h2.keep hf (fun k hk hk1 => (h12 k hk1).2 hk)) (hb.keep hf hb1)))
  obtain ⟨x0, y0, x1, y1, x2, y2, x3, y3⟩ := blk4 hb
  obtain ⟨r, hr⟩ : ∃ r, openD d = r := ⟨_, rfl⟩
  rw [hr] at HO HR ⊢
  clear h h1 h2 h12 h22 hb1 hb2 hb hr
  go_enter Try.func24, Try.ntmps24
  go_wp2_with fail
  refine HO.out.mono ?_
  rintro e w1 ⟨G1, g1, s1, f1, he⟩
  have K1 := Lib.hid (And.intro g1 (And.intro s1 f1))
  obtain ⟨k1, k2⟩ := HK.out w1 f1
  have HR1 := Lib.hid (HR.out w1 k1)
  have HB1 := Lib.hid k2
  clear x0 y0 x1 y1 x2 y2 x3 y3 HK HR HO
  obtain ⟨x0, y0, x1, y1, x2, y2, x3, y3⟩ := blk4 k2
  clear g1 s1 f1 k1 k2
  by_cases h0 : r.1 = 0
  · rw [if_pos h0] at he
    obtain ⟨q1, rfl, a1, a2, a3⟩ := he
    have A1 := Lib.hid (And.intro a1 (And.intro a2 a3))
    clear a1 a2 a3
    go_wp2_with fail
    refine HR1.out.mono ?_
    rintro e w2 ⟨G2, g2, s2, f2, he⟩
    rw [if_pos h0] at he
    obtain ⟨q2, rfl, b1, b2, b3⟩ := he
    have K2 := Lib.hid (And.intro g2 (And.intro s2 f2))
    have A2 := Lib.hid (And.intro b1 (And.intro b2 b3))
    clear x0 y0 x1 y1 x2 y2 x3 y3
    obtain ⟨x0, y0, x1, y1, x2, y2, x3, y3⟩ := blk4 (HB1.out.keep f2 H.out.2.2.2.2.2.1)
    clear g2 s2 f2 b1 b2 b3 HR1
    go_wp2
    go_ret
    exact ⟨rfl, opened H.out.1 H.out.2.1 H.out.2.2.1 H.out.2.2.2.1 H.out.2.2.2.2.1 H.out.2.2.2.2.2.1 HB.out H.out.2.2.2.2.2.2.1 H.out.2.2.2.2.2.2.2 K1.out.1 K1.out.2.1 K1.out.2.2 K2.out.1 K2.out.2.1 K2.out.2.2
      (.inr ⟨h0, q1, q2, rfl, rfl, A1.out.1, A1.out.2.1, A1.out.2.2, A2.out.1, A2.out.2.1, A2.out.2.2⟩)⟩
  · rw [if_neg h0] at he
    subst he
    go_wp2_with fail
    refine HR1.out.mono ?_
    rintro e w2 ⟨G2, g2, s2, f2, he⟩
    rw [if_neg h0] at he
    subst he
    have K2 := Lib.hid (And.intro g2 (And.intro s2 f2))
    clear x0 y0 x1 y1 x2 y2 x3 y3
    obtain ⟨x0, y0, x1, y1, x2, y2, x3, y3⟩ := blk4 (HB1.out.keep f2 H.out.2.2.2.2.2.1)
    clear g2 s2 f2 HR1
    go_wp2
    go_ret
    exact ⟨rfl, opened H.out.1 H.out.2.1 H.out.2.2.1 H.out.2.2.2.1 H.out.2.2.2.2.1 H.out.2.2.2.2.2.1 HB.out H.out.2.2.2.2.2.2.1 H.out.2.2.2.2.2.2.2 K1.out.1 K1.out.2.1 K1.out.2.2 K2.out.1 K2.out.2.1 K2.out.2.2
      (.inl ⟨h0, rfl, rfl⟩)⟩
end Go.Proofs.Ytmdojgkgohmghaa.Wal
namespace Go.Proofs.Ytmdojgkgohmghaa.Wal
open Go.RowKit Go.Own Go.Blk Go.DevL Go.XdrL Go.WalL Go.OpsL Go.Maps Go.Sees Go.Proofs.Ytmdojgkgohmghaa.P04 Go.Proofs.Ytmdojgkgohmghaa.Xdr Go.Proofs.YtmdojgkgohmghaaW.PrintLast Go.Proofs.YtmdojgkgohmghaaW.PrintWords
open Go.Proofs.Ytmdojgkgohmghaa.Dev hiding stop_here execOp_build execOp_alloc execOp_store execOp_load execOp_buildSlice execOp_makeSlice execOp_box execOp_copy execOp_append wpList_val wpList_none Up RAt
set_option linter.unusedVariables false
set_option linter.unusedSimpArgs false
set_option maxRecDepth 100000
variable {F S S1 S2 : Nat → Prop} {w0 w w' wr wr' : World} {b p p1 p2 q1 q2 : Nat} {d d' e e' : Dv} {last c : Nat} {dead : Bool} {o o' o1 o2 : Option (Nat × Bool)} {v vl vx : Value}
/-- The program's side: its device, its log. -/
def Lef (S : Nat → Prop) (w : World) (p : Nat) (d : Dv) (v : Value) (o : Option (Nat × Bool)) : Prop :=
  ∃ F, Dev F w p d ∧ (∀ k, F k → S k) ∧ match o with
    | none => v = .pointer none
    | some (n, dd) => ∃ q, v = .pointer (some ⟨q, 0, none⟩) ∧ LAt w q p n dd ∧ ¬ F q ∧ S q
/-- The document's side. -/
def Rig (S : Nat → Prop) (w : World) (p : Nat) (d : Dv) (v : Value) (o : Option (Nat × Bool)) : Prop :=
  ∃ F, RDev F w p d ∧ (∀ k, F k → S k) ∧ match o with
    | none => v = .pointer none
    | some (n, dd) => ∃ q, v = .pointer (some ⟨q, 0, none⟩) ∧ RLAt w q p n dd ∧ ¬ F q ∧ S q
theorem Lef.keep {G : Nat → Prop} (h : Lef S w p d v o) (hF : Fr G w w') (hG : ∀ k, S k → ¬ G k) : Lef S w' p d v o := by
  obtain ⟨F, h1, h2, h3⟩ := h
  refine ⟨F, h1.keep hF (fun k hk => hG k (h2 k hk)), h2, ?_⟩
  match o, h3 with
  | none, h3 => exact h3
  | some (n, dd), ⟨q, a1, a2, a3, a4⟩ => exact ⟨q, a1, a2.keep hF (hG q a4), a3, a4⟩
theorem Rig.keep {G : Nat → Prop} (h : Rig S w p d v o) (hF : Fr G w w') (hG : ∀ k, S k → ¬ G k) : Rig S w' p d v o := by
  obtain ⟨F, h1, h2, h3⟩ := h
  refine ⟨F, h1.keep hF (fun k hk => hG k (h2 k hk)), h2, ?_⟩
  match o, h3 with
  | none, h3 => exact h3
  | some (n, dd), ⟨q, a1, a2, a3, a4⟩ => exact ⟨q, a1, a2.keep hF (hG q a4), a3, a4⟩
/-- Both sides, each at its own state; a block g that neither has. -/
structure PS2 (w0 w : World) (b p1 p2 g : Nat) (ob : Obj) (vl vx : Value) (d e : Dv) (o1 o2 : Option (Nat × Bool)) : Prop where
  bel : Below w0.heap.size w0 w
  ge : w0.heap.size ≤ b
  sets : ∃ S1 S2, Lef S1 w p1 d vl o1 ∧ Rig S2 w p2 e vx o2 ∧ (∀ k, S1 k → w0.heap.size ≤ k ∧ k < w.heap.size ∧ ¬ S2 k ∧ k ≠ b ∧ k ≠ g) ∧ (∀ k, S2 k → w0.heap.size ≤ k ∧ k < w.heap.size ∧ k ≠ b ∧ k ≠ g) ∧ bAt w b p1 p2 vl vx ∧ w.heap[g]? = some ob
variable {g : Nat} {ob : Obj}
theorem PSt.two (h : PSt w0 w b p1 p2 d o) (hbw : Below w.heap.size w w') (hg : w.heap.size ≤ g) (hgo : w'.heap[g]? = some ob) : ∃ vl vx, PS2 w0 w' b p1 p2 g ob vl vx d d o o := by
  obtain ⟨F1, F2, vl, vx, h1, h2, h12, h22, hb1, hb2, hb, hl⟩ := h.sets
  have z := hbw.size
  have fr : Fr (fun _ => False) w w' := Fr.of_below hbw
  refine ⟨vl, vx, h.bel.trans (hbw.mono h.bel.size), h.ge, ?_⟩
  match o, hl with
  | none, ⟨e1, e2⟩ =>
    exact ⟨F1, F2, ⟨F1, h1.below hbw, fun _ h => h, e1⟩, ⟨F2, h2.below hbw, fun _ h => h, e2⟩, fun k hk => ⟨(h12 k hk).1, by have := h1.lt k hk; omega, (h12 k hk).2, fun e => hb1 (e ▸ hk), by have := h1.lt k hk; omega⟩, fun k hk => ⟨h22 k hk, by have := h2.lt k hk; omega, fun e => hb2 (e ▸ hk), by have := h2.lt k hk; omega⟩, hb.keep fr id, hgo⟩
  | some (n, dd), ⟨q1, q2, e1, e2, l1, l2, ⟨a1, a2, a3, a4⟩, n1, n2, n3, g1, g2⟩ =>
    have y1 := l1.lt
    have y2 := l2.lt
    refine ⟨fun k => F1 k ∨ k = q1, fun k => F2 k ∨ k = q2, ⟨F1, h1.below hbw, fun _ h => .inl h, q1, e1, l1.below hbw, a1, .inr rfl⟩, ⟨F2, h2.below hbw, fun _ h => .inl h, q2, e2, l2.below hbw, a4, .inr rfl⟩, fun k hk => ?_, fun k hk => ?_, hb.keep fr id, hgo⟩
    · rcases hk with hk | rfl
      · exact ⟨(h12 k hk).1, by have := h1.lt k hk; omega, fun hf => hf.elim (h12 k hk).2 (fun e => a3 (e ▸ hk)), fun e => hb1 (e ▸ hk), by have := h1.lt k hk; omega⟩
      · exact ⟨g1, by omega, fun hf => hf.elim a2 n3, n1, by omega⟩
    · rcases hk with hk | rfl
      · exact ⟨h22 k hk, by have := h2.lt k hk; omega, fun e => hb2 (e ▸ hk), by have := h2.lt k hk; omega⟩
      · exact ⟨g2, by omega, n2, by omega⟩
theorem PS2.one (h : PS2 w0 w b p1 p2 g ob vl vx d d o o) : PSt w0 w b p1 p2 d o := by
  obtain ⟨S1, S2, ⟨F1, h1, s1, l1⟩, ⟨F2, h2, s2, l2⟩, h12, h22, hb, -⟩ := h.sets
  refine ⟨h.bel, h.ge, F1, F2, vl, vx, h1, h2, fun k hk => ⟨(h12 k (s1 k hk)).1, fun hf => (h12 k (s1 k hk)).2.2.1 (s2 k hf)⟩, fun k hk => (h22 k (s2 k hk)).1, fun hk => (h12 b (s1 b hk)).2.2.2.1 rfl, fun hk => (h22 b (s2 b hk)).2.2.1 rfl, hb, ?_⟩
  match o, l1, l2 with
  | none, e1, e2 => exact ⟨e1, e2⟩
  | some (n, dd), ⟨q1, e1, l1, a1, t1⟩, ⟨q2, e2, l2, a2, t2⟩ =>
    exact ⟨q1, q2, e1, e2, l1, l2, ⟨a1, fun hf => (h12 q1 t1).2.2.1 (s2 q1 hf), fun hf => (h12 q2 (s1 q2 hf)).2.2.1 t2, a2⟩, (h12 q1 t1).2.2.2.1, (h22 q2 t2).2.2.1, fun e => (h12 q1 t1).2.2.1 (e ▸ t2), (h12 q1 t1).1, (h22 q2 t2).1⟩
/-- The left side has moved. -/
theorem PS2.left (hbel : Below w0.heap.size w0 w) (hge : w0.heap.size ≤ b) (hr : Rig S2 w p2 e vx o2) (h1 : ∀ k, S1 k → w0.heap.size ≤ k ∧ k < w.heap.size ∧ ¬ S2 k ∧ k ≠ b ∧ k ≠ g) (h2 : ∀ k, S2 k → w0.heap.size ≤ k ∧ k < w.heap.size ∧ k ≠ b ∧ k ≠ g) (hb : bAt w b p1 p2 vl vx ∧ w.heap[g]? = some ob)
    (hf : Fr S1 w w') (hl : Lef (fun k => S1 k ∨ (w.heap.size ≤ k ∧ k < w'.heap.size)) w' p1 d' vl o') : PS2 w0 w' b p1 p2 g ob vl vx d' e o' o2 := by
  have z := hf.size
  have hbw := lt_of hb.1
  have hgw := lt_of hb.2
  have z0 := hbel.size
  refine ⟨hbel.trans (hf.below z0 (fun k hk => (h1 k hk).1)), hge, _, S2, hl, hr.keep hf (fun k hk hk1 => (h1 k hk1).2.2.1 hk), fun k hk => ?_, fun k hk => ⟨(h2 k hk).1, by have := (h2 k hk).2.1; omega, (h2 k hk).2.2⟩, hb.1.keep hf (fun hk => (h1 b hk).2.2.2.1 rfl), hf.at hb.2 (fun hk => (h1 g hk).2.2.2.2 rfl)⟩
  rcases hk with hk | hk
  · exact ⟨(h1 k hk).1, by have := (h1 k hk).2.1; omega, (h1 k hk).2.2⟩
  · exact ⟨by omega, hk.2, fun h => by have := (h2 k h).2.1; omega, by omega, by omega⟩
/-- The right side has moved. -/
theorem PS2.right (hbel : Below w0.heap.size w0 w) (hge : w0.heap.size ≤ b) (hl : Lef S1 w p1 d vl o1) (h1 : ∀ k, S1 k → w0.heap.size ≤ k ∧ k < w.heap.size ∧ ¬ S2 k ∧ k ≠ b ∧ k ≠ g) (h2 : ∀ k, S2 k → w0.heap.size ≤ k ∧ k < w.heap.size ∧ k ≠ b ∧ k ≠ g) (hb : bAt w b p1 p2 vl vx ∧ w.heap[g]? = some ob)
    (hf : Fr S2 w w') (hr : Rig (fun k => S2 k ∨ (w.heap.size ≤ k ∧ k < w'.heap.size)) w' p2 e' vx o') : PS2 w0 w' b p1 p2 g ob vl vx d e' o1 o' := by
  have z := hf.size
  have hbw := lt_of hb.1
  have hgw := lt_of hb.2
  have z0 := hbel.size
  refine ⟨hbel.trans (hf.below z0 (fun k hk => (h2 k hk).1)), hge, S1, _, hl.keep hf (fun k hk hk1 => (h1 k hk).2.2.1 hk1), hr, fun k hk => ⟨(h1 k hk).1, by have := (h1 k hk).2.1; omega, fun h => ?_, (h1 k hk).2.2.2⟩, fun k hk => ?_, hb.1.keep hf (fun hk => (h2 b hk).2.2.1 rfl), hf.at hb.2 (fun hk => (h2 g hk).2.2.2 rfl)⟩
  · rcases h with h | h
    · exact (h1 k hk).2.2.1 h
    · have := (h1 k hk).2.1; omega
  · rcases hk with hk | hk
    · exact ⟨(h2 k hk).1, by have := (h2 k hk).2.1; omega, (h2 k hk).2.2⟩
    · exact ⟨by omega, hk.2, by omega, by omega⟩
theorem PS2.below (h : PS2 w0 w b p1 p2 g ob vl vx d e o1 o2) (hb : Below w.heap.size w w') : PS2 w0 w' b p1 p2 g ob vl vx d e o1 o2 := by
  obtain ⟨S1, S2, hl, hr, h1, h2, hbb, hgg⟩ := h.sets
  have z := hb.size
  exact ⟨h.bel.trans (hb.mono h.bel.size), h.ge, S1, S2, hl.keep (G := fun _ => False) (Fr.of_below hb) (fun _ _ h => h), hr.keep (G := fun _ => False) (Fr.of_below hb) (fun _ _ h => h), fun k hk => ⟨(h1 k hk).1, by have := (h1 k hk).2.1; omega, (h1 k hk).2.2⟩, fun k hk => ⟨(h2 k hk).1, by have := (h2 k hk).2.1; omega, (h2 k hk).2.2⟩, hbb.keep (G := fun _ => False) (Fr.of_below hb) id, below_old hgg hb⟩
theorem PS2.cell (h : PS2 w0 w b p1 p2 g ob vl vx d e o1 o2) : bAt w b p1 p2 vl vx ∧ w.heap[g]? = some ob := by
  obtain ⟨S1, S2, hl, hr, h1, h2, hbb⟩ := h.sets
  exact hbb
/-- A step of the left device alone: its log, if any, stays. -/
theorem PS2.devL {Q : Ending → Prop} {f : Nat} {args : Array Value} (h : PS2 w0 w b p1 p2 g ob vl vx d e o1 o2)
    (hc : ∀ F, Dev F w p1 d → Calls Try.prog f args w fun r w' => Q r ∧ Dev (Dev.Up F w w') w' p1 d' ∧ Fr F w w') : Calls Try.prog f args w fun r w' => Q r ∧ PS2 w0 w' b p1 p2 g ob vl vx d' e o1 o2 := by
  obtain ⟨S1, S2, ⟨F1, a1, s1, l1⟩, hr, h1, h2, hb⟩ := h.sets
  refine (hc F1 a1).mono fun r w' ⟨hq, hd, hf⟩ => ⟨hq, PS2.left h.bel h.ge hr h1 h2 hb (hf.mono (fun k _ hk => s1 k hk)) ⟨_, hd, fun k hk => ?_, ?_⟩⟩
  · rcases hk with hk | hk
    · exact .inl (s1 k hk)
    · exact .inr hk
  · match o1, l1 with
    | none, l1 => exact l1
    | some (n, dd), ⟨q, b1, b2, b3, b4⟩ =>
      exact ⟨q, b1, b2.keep hf b3, fun hk => by
        rcases hk with hk | hk
        · exact b3 hk
        · have := b2.lt; omega, .inl b4⟩
theorem PS2.devR {Q : Ending → Prop} {f : Nat} {args : Array Value} (h : PS2 w0 w b p1 p2 g ob vl vx d e o1 o2)
    (hc : ∀ F, RDev F w p2 e → Calls Try.prog f args w fun r w' => Q r ∧ RDev (Dev.Up F w w') w' p2 e' ∧ Fr F w w') : Calls Try.prog f args w fun r w' => Q r ∧ PS2 w0 w' b p1 p2 g ob vl vx d e' o1 o2 := by
  obtain ⟨S1, S2, hl, ⟨F2, a1, s1, l1⟩, h1, h2, hb⟩ := h.sets
  refine (hc F2 a1).mono fun r w' ⟨hq, hd, hf⟩ => ⟨hq, PS2.right h.bel h.ge hl h1 h2 hb (hf.mono (fun k _ hk => s1 k hk)) ⟨_, hd, fun k hk => ?_, ?_⟩⟩
  · rcases hk with hk | hk
    · exact .inl (s1 k hk)
    · exact .inr hk
  · match o2, l1 with
    | none, l1 => exact l1
    | some (n, dd), ⟨q, b1, b2, b3, b4⟩ =>
      exact ⟨q, b1, b2.keep hf b3, fun hk => by
        rcases hk with hk | hk
        · exact b3 hk
        · have := b2.lt; omega, .inl b4⟩
end Go.Proofs.Ytmdojgkgohmghaa.Wal
namespace Go.Proofs.Ytmdojgkgohmghaa.Wal
open Go.RowKit Go.Own Go.Blk Go.DevL Go.XdrL Go.WalL Go.OpsL Go.Maps Go.Sees Go.Proofs.Ytmdojgkgohmghaa.P04 Go.Proofs.Ytmdojgkgohmghaa.Xdr Go.Proofs.YtmdojgkgohmghaaW.PrintLast Go.Proofs.YtmdojgkgohmghaaW.PrintWords
open Go.Proofs.Ytmdojgkgohmghaa.Dev hiding stop_here execOp_build execOp_alloc execOp_store execOp_load execOp_buildSlice execOp_makeSlice execOp_box execOp_copy execOp_append wpList_val wpList_none Up RAt
set_option linter.unusedVariables false
set_option linter.unusedSimpArgs false
set_option maxRecDepth 100000
variable {F S S1 S2 : Nat → Prop} {w0 w w' wr wr' : World} {b p p1 p2 q1 q2 : Nat} {d d' e e' : Dv} {last c : Nat} {dead : Bool} {o o' o1 o2 : Option (Nat × Bool)} {v vl vx : Value} {bl : List (Int × ByteArray)} {g : Nat} {ob : Obj}
theorem two_fuse (h : PS2 w0 w b p1 p2 g ob vl vx d e o1 o2) (n : Int) (hn : n ≤ 9223372036854775807) : Calls Try.prog 20 #[.pointer (some ⟨p1, 0, none⟩), .int .i64 n] w fun r w' => r = .returned (.tuple #[]) ∧ PS2 w0 w' b p1 p2 g ob vl vx (d.light n) e o1 o2 :=
  h.devL (fun F hF => fuse_any hF n hn)
theorem two_light (h : PS2 w0 w b p1 p2 g ob vl vx d e o1 o2) (n : Int) (hn0 : -9223372036854775808 ≤ n) (hn : n ≤ 9223372036854775807) : Calls Try.prog 41 #[.pointer (some ⟨p2, 0, none⟩), .int .i64 n] w fun r w' => r = .returned (.tuple #[]) ∧ PS2 w0 w' b p1 p2 g ob vl vx d (e.light n) o1 o2 :=
  h.devR (fun F hF => rlight_any hF n hn0 hn)
theorem two_crash (h : PS2 w0 w b p1 p2 g ob vl vx d e o1 o2) (keep : Int) (hk0 : 0 ≤ keep) (hk1 : keep < 18446744073709551616) (hl : d.late.length ≤ 1000000) : Calls Try.prog 21 #[.pointer (some ⟨p1, 0, none⟩), .int .u64 keep] w fun r w' => r = .returned (.tuple #[]) ∧ PS2 w0 w' b p1 p2 g ob vl vx (d.crash keep) e o1 o2 :=
  h.devL (fun F hF => crash_any hF keep hk0 hk1 hl)
theorem two_rcrash (h : PS2 w0 w b p1 p2 g ob vl vx d e o1 o2) (keep : Int) (hk0 : 0 ≤ keep) (hk1 : keep < 18446744073709551616) (hl : e.late.length ≤ 1000000) : Calls Try.prog 42 #[.pointer (some ⟨p2, 0, none⟩), .int .u64 keep] w fun r w' => r = .returned (.tuple #[]) ∧ PS2 w0 w' b p1 p2 g ob vl vx d (e.crash keep) o1 o2 :=
  h.devR (fun F hF => rcrash_any hF keep hk0 hk1 hl)
theorem two_write (h : PS2 w0 w b p1 p2 g ob vl vx d e o1 o2) (i : Int) (x : ByteArray) (hl : d.late.length ≤ 1000000) : Calls Try.prog 32 #[.pointer (some ⟨p1, 0, none⟩), .int .i64 i, .string x] w fun r w' => r = .returned (.int .i64 (d.write i x).1) ∧ PS2 w0 w' b p1 p2 g ob vl vx (d.write i x).2 e o1 o2 :=
  h.devL (fun F hF => write_any hF i x hl)
theorem two_rwrite (h : PS2 w0 w b p1 p2 g ob vl vx d e o1 o2) (i : Int) (x : ByteArray) (hl : e.late.length ≤ 1000000) : Calls Try.prog 44 #[.pointer (some ⟨p2, 0, none⟩), .int .i64 i, .string x] w fun r w' => r = .returned (.int .i64 (e.write i x).1) ∧ PS2 w0 w' b p1 p2 g ob vl vx d (e.write i x).2 o1 o2 :=
  h.devR (fun F hF => rwrite_any hF i x hl)
theorem two_commit {n : Nat} {dd : Bool} (h : PS2 w0 w b p1 p2 g ob vl vx d e (some (n, dd)) o2) : ∃ q, vl = .pointer (some ⟨q, 0, none⟩) ∧ ∀ (A : Option Addr) (cap : Nat), ArrAt w A ncells 2 bl → (0 < bl.length → ∀ a, A = some a → a.block < w0.heap.size) → bl.length ≤ 140737488355328 → d.late.length ≤ 900000 →
    Calls Try.prog 12 #[.pointer (some ⟨q, 0, none⟩), .slice A bl.length cap] w fun r w' => r = .returned (.int .i64 (commitL d n dd bl).1) ∧ PS2 w0 w' b p1 p2 g ob vl vx (commitL d n dd bl).2.1 e (some ((commitL d n dd bl).2.2.1, (commitL d n dd bl).2.2.2)) o2 := by
  obtain ⟨S1, S2, ⟨F1, a1, s1, q, e1, l1, n1, t1⟩, hr, h1, h2, hb⟩ := h.sets
  refine ⟨q, e1, fun A cap hA hAb hbl hl => ?_⟩
  refine (commit_calls l1 a1 n1 A cap hA (fun h0 a ha hf => by have := hAb h0 a ha; have := (h1 _ (s1 _ hf)).1; omega) hbl hl).mono fun r w' ⟨hq, ⟨G, g1, g2, g3⟩, hl', hf⟩ => ⟨hq, PS2.left h.bel h.ge hr h1 h2 hb (hf.mono (fun k _ hk => hk.elim (s1 k) (fun e => e ▸ t1))) ⟨G, g1, fun k hk => ?_, q, e1, hl', g3, .inl t1⟩⟩
  exact (g2 k hk).imp (s1 k) (fun a => a)
theorem two_rcommit {n : Nat} {dd : Bool} (h : PS2 w0 w b p1 p2 g ob vl vx d e o1 (some (n, dd))) : ∃ q, vx = .pointer (some ⟨q, 0, none⟩) ∧ ∀ (A : Option Addr) (cap : Nat), ArrAt w A ncells 2 bl → bl.length ≤ cap → (0 < bl.length → ∀ a, A = some a → a.block < w0.heap.size) → bl.length ≤ 140737488355328 → e.late.length ≤ 900000 → 41 < e.firm.length →
    Calls Try.prog 40 #[.pointer (some ⟨q, 0, none⟩), .slice A bl.length cap] w fun r w' => r = .returned (.int .i64 (commitL e n dd bl).1) ∧ PS2 w0 w' b p1 p2 g ob vl vx d (commitL e n dd bl).2.1 o1 (some ((commitL e n dd bl).2.2.1, (commitL e n dd bl).2.2.2)) := by
  obtain ⟨S1, S2, hl0, ⟨F2, a1, s1, q, e1, l1, n1, t1⟩, h1, h2, hb⟩ := h.sets
  refine ⟨q, e1, fun A cap hA hc hAb hbl hl h41 => ?_⟩
  refine (rcommit_calls l1 a1 n1 A cap hA hc (fun h0 a ha hf => by have := hAb h0 a ha; have := (h2 _ (s1 _ hf)).1; omega) hbl hl h41).mono fun r w' ⟨hq, ⟨G, g1, g2, g3⟩, hl', hf⟩ => ⟨hq, PS2.right h.bel h.ge hl0 h1 h2 hb (hf.mono (fun k _ hk => hk.elim (s1 k) (fun e => e ▸ t1))) ⟨G, g1, fun k hk => ?_, q, e1, hl', g3, .inl t1⟩⟩
  exact (g2 k hk).imp (s1 k) (fun a => a)
theorem two_rread {n : Nat} {dd : Bool} (h : PS2 w0 w b p1 p2 g ob vl vx d e o1 (some (n, dd))) : ∃ q, vx = .pointer (some ⟨q, 0, none⟩) ∧ ∀ (k : Int), e.late.length ≤ 1000000 → 41 < e.firm.length →
    Calls Try.prog 43 #[.pointer (some ⟨q, 0, none⟩), .int .i64 k] w fun r w' => r = .returned (.tuple #[.string (readL e dd k).1, .int .i64 (readL e dd k).2]) ∧ PS2 w0 w' b p1 p2 g ob vl vx d e o1 (some (n, dd)) := by
  obtain ⟨S1, S2, hl0, ⟨F2, a1, s1, q, e1, l1, n1, t1⟩, h1, h2, hb⟩ := h.sets
  exact ⟨q, e1, fun k hl h41 => (rread_calls l1 a1 hl h41 k).mono fun r w' ⟨hq, hbb⟩ => ⟨hq, h.below hbb⟩⟩
theorem two_read {n : Nat} {dd : Bool} (h : PS2 w0 w b p1 p2 g ob vl vx d e (some (n, dd)) o2) : ∃ q, vl = .pointer (some ⟨q, 0, none⟩) ∧ ∀ (k : Int),
    Calls Try.prog 16 #[.pointer (some ⟨q, 0, none⟩), .int .i64 k] w fun r w' => r = .returned (.tuple #[.string (readL d dd k).1, .int .i64 (readL d dd k).2]) ∧ PS2 w0 w' b p1 p2 g ob vl vx d e (some (n, dd)) o2 := by
  obtain ⟨S1, S2, ⟨F1, a1, s1, q, e1, l1, n1, t1⟩, hr, h1, h2, hb⟩ := h.sets
  exact ⟨q, e1, fun k => (lread_calls l1 a1 k).mono fun r w' ⟨hq, hw⟩ => ⟨hq, hw ▸ h⟩⟩
end Go.Proofs.Ytmdojgkgohmghaa.Wal
namespace Go.Proofs.Ytmdojgkgohmghaa.Wal
open Go.RowKit Go.Own Go.Blk Go.DevL Go.XdrL Go.WalL Go.OpsL Go.Maps Go.Sees Go.Proofs.Ytmdojgkgohmghaa.P04 Go.Proofs.Ytmdojgkgohmghaa.Xdr Go.Proofs.YtmdojgkgohmghaaW.PrintLast Go.Proofs.YtmdojgkgohmghaaW.PrintWords
open Go.Proofs.Ytmdojgkgohmghaa.Dev hiding stop_here execOp_build execOp_alloc execOp_store execOp_load execOp_buildSlice execOp_makeSlice execOp_box execOp_copy execOp_append wpList_val wpList_none Up RAt
set_option linter.unusedVariables false
set_option linter.unusedSimpArgs false
set_option maxRecDepth 100000
variable {F S S1 S2 : Nat → Prop} {w0 w w' wr wr' : World} {b p p1 p2 q1 q2 : Nat} {d d' e e' : Dv} {last c : Nat} {dead : Bool} {o o' o1 o2 : Option (Nat × Bool)} {v vl vx : Value} {bl : List (Int × ByteArray)}
/-- What an act does to a device and its log. -/
def actW (d : Dv) (o : Option (Nat × Bool)) (k n keep : Int) (s : ByteArray) (bl : List (Int × ByteArray)) : Dv × Option (Nat × Bool) :=
  if k.tmod 6 = 0 then match o with
    | none => (d, none)
    | some (m, dd) => ((commitL d m dd bl).2.1, some ((commitL d m dd bl).2.2.1, (commitL d m dd bl).2.2.2))
  else if k.tmod 6 = 1 then (d.light n, o)
  else if k.tmod 6 = 2 then ((openD (d.crash keep)).2.2, oOf (openD (d.crash keep)))
  else if k.tmod 6 = 4 then ((openD ((d.crash keep).light (n.tmod 8))).2.2, oOf (openD ((d.crash keep).light (n.tmod 8))))
  else if k.tmod 6 = 5 then ((d.write n (wholeR s)).2, o)
  else (d, o)
theorem box_act (w : World) (k n keep : Int) (s : ByteArray) (v : Value) : (Instr.box 63 (.agg #[.int .i64 k, .int .i64 n, .int .u64 keep, .string s, v])).run Try.prog w = .ok (.pointer (some ⟨w.heap.size, 0, none⟩)) (w.alloc (.cells #[.int .i64 k, .int .i64 n, .int .u64 keep, .string s, v] 63)) := by kernel_rfl
theorem PS2.none {g : Nat} {ob : Obj} (h : PS2 w0 w b p1 p2 g ob vl vx d e none none) : vl = .pointer none ∧ vx = .pointer none := by
  obtain ⟨S1, S2, ⟨F1, -, -, e1⟩, ⟨F2, -, -, e2⟩, -⟩ := h.sets
  exact ⟨e1, e2⟩
set_option maxHeartbeats 16000000 in
theorem bdo_calls (h : PSt w0 w b p1 p2 d o) (hl : d.late.length ≤ 800000) (k n keep : Int) (s : ByteArray) (A : Option Addr) (cap : Nat) (hA : ArrAt w0 A ncells 2 bl) (hc : bl.length ≤ cap) (hbl : bl.length ≤ 140737488355328) (h41 : o = none ∨ 41 < d.firm.length)
    (hn0 : -9223372036854775808 ≤ n) (hn : n ≤ 9223372036854775807) (hk0 : 0 ≤ keep) (hk1 : keep < 18446744073709551616) :
    Calls Try.prog 25 #[.pointer (some ⟨b, 0, none⟩), .agg #[.int .i64 k, .int .i64 n, .int .u64 keep, .string s, .slice A bl.length cap]] w fun r w' => r = .returned (.bool true) ∧ PSt w0 w' b p1 p2 (actW d o k n keep s bl).1 (actW d o k n keep s bl).2 := by
  have HBX := Lib.hid (box_act w k n keep s (.slice A bl.length cap))
  have hq1 := alloc_at w (.cells #[.int .i64 k, .int .i64 n, .int .u64 keep, .string s, .slice A bl.length cap] 63)
  have hb1 : Below w.heap.size w (w.alloc (.cells #[.int .i64 k, .int .i64 n, .int .u64 keep, .string s, .slice A bl.length cap] 63)) := (Below.refl _ _).alloc (Nat.le_refl _) _
  obtain ⟨vl, vx, h2⟩ := h.two hb1 (Nat.le_refl _) hq1
  have HAF := Lib.hid (arr_old hA)
  have HA := Lib.hid hA
  obtain ⟨g, hg⟩ : ∃ g, w.heap.size = g := ⟨_, rfl⟩
  rw [hg] at HBX hq1 h2
  have H1 := Lib.hid h2
  generalize w.alloc (.cells #[.int .i64 k, .int .i64 n, .int .u64 keep, .string s, .slice A bl.length cap] 63) = w1 at HBX hq1 H1
  have c0 : w1.cell? ⟨g, 0, none⟩ = some (.int .i64 k) := (cell_at hq1 0).trans rfl
  have c1 : w1.cell? ⟨g, 1, none⟩ = some (.int .i64 n) := (cell_at hq1 1).trans rfl
  have c2 : w1.cell? ⟨g, 2, none⟩ = some (.int .u64 keep) := (cell_at hq1 2).trans rfl
  have c3 : w1.cell? ⟨g, 3, none⟩ = some (.string s) := (cell_at hq1 3).trans rfl
  have c4 : w1.cell? ⟨g, 4, none⟩ = some (.slice A bl.length cap) := (cell_at hq1 4).trans rfl
  have HQ1 := Lib.hid hq1
  clear h h2 hA hb1 hq1 hg
  obtain ⟨kt, hkt⟩ : ∃ m, k.tmod 6 = m := ⟨_, rfl⟩
  have hkw : IntKind.i64.wrap kt = kt := by rw [IntKind.wrap_i64]; have := Int.tmod_lt_of_pos k (show (0 : Int) < 6 by decide); have := Int.lt_tmod_of_pos k (show (0 : Int) < 6 by decide); omega
  by_cases k0 : kt = 0
  · cases o with
    | none =>
      rw [show actW d none k n keep s bl = (d, none) by unfold actW; rw [hkt, k0]; rfl]
      obtain ⟨rfl, rfl⟩ := PS2.none H1.out
      have t0 : (kt == 0) = true := by rw [k0]; rfl
      have u0 : (kt = 0) = True := eq_true k0
      clear k0
      go_enter Try.func25, Try.ntmps25
      go_wp2_with (((with_reducible refine gate_dst (N := 3) rfl ?_); refine wpList_val rfl rfl (execOp_box rfl rfl HBX.out) ?_))
      refine start_ (n := 23) (S := fun w' => bAt w' b p1 p2 (.pointer none) (.pointer none) ∧ w'.heap[g]? = some (.cells #[.int .i64 k, .int .i64 n, .int .u64 keep, .string s, .slice A bl.length cap] 63 (0, 0))) (ds := []) #[false, false, false, false, false, false, false, false, false, false, false, false, false, false, false, false, false, false, false, false, false, false, false] (by kernel_rfl) rfl rfl ((H1.out.below (Below.refl _ _).drew).cell) (fun hHeld => ?_)
      have H2 := Lib.hid (H1.out.below (Below.refl w1.heap.size w1).drew)
      generalize w1.drew = w2 at H2 hHeld ⊢
      refine pure_ (i := 0) (N := some 15) (v := ?_) (a' := ?_) #[true, false, false, false, false, false, false, false, false, false, false, false, false, false, false, false, false, false, false, false, false, false, false] rfl rfl (by kernel_rfl) (fun _ _ _ h => h) (Or.inl ⟨by rfl, ?_⟩) ?_ ?_
      rotate_left
      · intro w'
        go_simp
        with_reducible rfl
      rotate_left
      · simp only [Act.put, List.setIfInBounds_toArray, List.set_cons_zero, List.set_cons_succ, i64_w, i32_w]
        rfl
      refine pure_ (i := 1) (N := some 16) (v := ?_) (a' := ?_) #[true, true, false, false, false, false, false, false, false, false, false, false, false, false, false, false, false, false, false, false, false, false, false] rfl rfl (by kernel_rfl) (fun _ _ _ h => h) (Or.inl ⟨by rfl, ?_⟩) ?_ ?_
      rotate_left
      · intro w'
        go_simp
        with_reducible rfl
      rotate_left
      · simp only [Act.put, List.setIfInBounds_toArray, List.set_cons_zero, List.set_cons_succ, i64_w, i32_w]
        rfl
      refine pure_ (i := 2) (N := some 17) (v := ?_) (a' := ?_) #[true, true, true, false, false, false, false, false, false, false, false, false, false, false, false, false, false, false, false, false, false, false, false] rfl rfl (by kernel_rfl) (fun _ _ _ h => h) (Or.inl ⟨by rfl, ?_⟩) ?_ ?_
      rotate_left
      · intro w'
        go_simp
        with_reducible rfl
      rotate_left
      · simp only [Act.put, List.setIfInBounds_toArray, List.set_cons_zero, List.set_cons_succ, i64_w, i32_w]
        rfl
      refine take_ (i := 3) (N := some 18) (v := ?_) (a' := ?_) #[true, true, true, true, false, false, false, false, false, false, false, false, false, false, false, false, false, false, false, false, false, false, false] rfl rfl (by kernel_rfl) (fun _ _ _ h => h) (Or.inl ⟨by rfl, ?_⟩) hHeld ?_ ?_
      rotate_left
      · intro w' hS
        obtain ⟨z0, _, z1, _, z2, _, z3, _⟩ := blk4 hS.1
        go_simp
        with_reducible rfl
      rotate_left
      · simp only [Act.put, List.setIfInBounds_toArray, List.set_cons_zero, List.set_cons_succ, i64_w, i32_w]
        rfl
      refine pure_ (i := 4) (N := some 19) (v := ?_) (a' := ?_) #[true, true, true, true, true, false, false, false, false, false, false, false, false, false, false, false, false, false, false, false, false, false, false] rfl rfl (by kernel_rfl) (fun _ _ _ h => h) (Or.inl ⟨by rfl, ?_⟩) ?_ ?_
      rotate_left
      · intro w'
        go_simp
        with_reducible rfl
      rotate_left
      · simp only [Act.put, List.setIfInBounds_toArray, List.set_cons_zero, List.set_cons_succ, i64_w, i32_w]
        rfl
      refine pure_ (i := 5) (N := some 20) (v := ?_) (a' := ?_) #[true, true, true, true, true, true, false, false, false, false, false, false, false, false, false, false, false, false, false, false, false, false, false] rfl rfl (by kernel_rfl) (fun _ _ _ h => h) (Or.inl ⟨by rfl, ?_⟩) ?_ ?_
      rotate_left
      · intro w'
        go_simp
        with_reducible rfl
      rotate_left
      · simp only [Act.put, List.setIfInBounds_toArray, List.set_cons_zero, List.set_cons_succ, i64_w, i32_w]
        rfl
      refine pure_ (i := 6) (N := some 21) (v := undef) (a' := ?_) #[true, true, true, true, true, true, true, false, false, false, false, false, false, false, false, false, false, false, false, false, false, false, false] rfl rfl (by kernel_rfl) (fun _ _ _ h => h) (Or.inr ⟨by rfl, rfl⟩) ?_ ?_
      rotate_left
      · simp only [Act.put, List.setIfInBounds_toArray, List.set_cons_zero, List.set_cons_succ, i64_w, i32_w]
        rfl
      refine pure_ (i := 7) (N := some 22) (v := undef) (a' := ?_) #[true, true, true, true, true, true, true, true, false, false, false, false, false, false, false, false, false, false, false, false, false, false, false] rfl rfl (by kernel_rfl) (fun _ _ _ h => h) (Or.inr ⟨by rfl, rfl⟩) ?_ ?_
      rotate_left
      · simp only [Act.put, List.setIfInBounds_toArray, List.set_cons_zero, List.set_cons_succ, i64_w, i32_w]
        rfl
      refine pure_ (i := 8) (N := some 23) (v := undef) (a' := ?_) #[true, true, true, true, true, true, true, true, true, false, false, false, false, false, false, false, false, false, false, false, false, false, false] rfl rfl (by kernel_rfl) (fun _ _ _ h => h) (Or.inr ⟨by rfl, rfl⟩) ?_ ?_
      rotate_left
      · simp only [Act.put, List.setIfInBounds_toArray, List.set_cons_zero, List.set_cons_succ, i64_w, i32_w]
        rfl
      refine pure_ (i := 9) (N := some 24) (v := undef) (a' := ?_) #[true, true, true, true, true, true, true, true, true, true, false, false, false, false, false, false, false, false, false, false, false, false, false] rfl rfl (by kernel_rfl) (fun _ _ _ h => h) (Or.inr ⟨by rfl, rfl⟩) ?_ ?_
      rotate_left
      · simp only [Act.put, List.setIfInBounds_toArray, List.set_cons_zero, List.set_cons_succ, i64_w, i32_w]
        rfl
      refine pure_ (i := 10) (N := some 25) (v := undef) (a' := ?_) #[true, true, true, true, true, true, true, true, true, true, true, false, false, false, false, false, false, false, false, false, false, false, false] rfl rfl (by kernel_rfl) (fun _ _ _ h => h) (Or.inr ⟨by rfl, rfl⟩) ?_ ?_
      rotate_left
      · simp only [Act.put, List.setIfInBounds_toArray, List.set_cons_zero, List.set_cons_succ, i64_w, i32_w]
        rfl
      refine pure_ (i := 11) (N := some 26) (v := undef) (a' := ?_) #[true, true, true, true, true, true, true, true, true, true, true, true, false, false, false, false, false, false, false, false, false, false, false] rfl rfl (by kernel_rfl) (fun _ _ _ h => h) (Or.inr ⟨by rfl, rfl⟩) ?_ ?_
      rotate_left
      · simp only [Act.put, List.setIfInBounds_toArray, List.set_cons_zero, List.set_cons_succ, i64_w, i32_w]
        rfl
      refine pure_ (i := 12) (N := some 27) (v := undef) (a' := ?_) #[true, true, true, true, true, true, true, true, true, true, true, true, true, false, false, false, false, false, false, false, false, false, false] rfl rfl (by kernel_rfl) (fun _ _ _ h => h) (Or.inr ⟨by rfl, rfl⟩) ?_ ?_
      rotate_left
      · simp only [Act.put, List.setIfInBounds_toArray, List.set_cons_zero, List.set_cons_succ, i64_w, i32_w]
        rfl
      refine pure_ (i := 13) (N := some 28) (v := undef) (a' := ?_) #[true, true, true, true, true, true, true, true, true, true, true, true, true, true, false, false, false, false, false, false, false, false, false] rfl rfl (by kernel_rfl) (fun _ _ _ h => h) (Or.inr ⟨by rfl, rfl⟩) ?_ ?_
      rotate_left
      · simp only [Act.put, List.setIfInBounds_toArray, List.set_cons_zero, List.set_cons_succ, i64_w, i32_w]
        rfl
      refine pure_ (i := 14) (N := some 29) (v := undef) (a' := ?_) #[true, true, true, true, true, true, true, true, true, true, true, true, true, true, true, false, false, false, false, false, false, false, false] rfl rfl (by kernel_rfl) (fun _ _ _ h => h) (Or.inr ⟨by rfl, rfl⟩) ?_ ?_
      rotate_left
      · simp only [Act.put, List.setIfInBounds_toArray, List.set_cons_zero, List.set_cons_succ, i64_w, i32_w]
        rfl
      refine pure_ (i := 15) (N := some 30) (v := undef) (a' := ?_) #[true, true, true, true, true, true, true, true, true, true, true, true, true, true, true, true, false, false, false, false, false, false, false] rfl rfl (by kernel_rfl) (fun _ _ _ h => h) (Or.inr ⟨by rfl, rfl⟩) ?_ ?_
      rotate_left
      · simp only [Act.put, List.setIfInBounds_toArray, List.set_cons_zero, List.set_cons_succ, i64_w, i32_w]
        rfl
      refine pure_ (i := 16) (N := some 31) (v := undef) (a' := ?_) #[true, true, true, true, true, true, true, true, true, true, true, true, true, true, true, true, true, false, false, false, false, false, false] rfl rfl (by kernel_rfl) (fun _ _ _ h => h) (Or.inr ⟨by rfl, rfl⟩) ?_ ?_
      rotate_left
      · simp only [Act.put, List.setIfInBounds_toArray, List.set_cons_zero, List.set_cons_succ, i64_w, i32_w]
        rfl
      refine pure_ (i := 17) (N := some 32) (v := undef) (a' := ?_) #[true, true, true, true, true, true, true, true, true, true, true, true, true, true, true, true, true, true, false, false, false, false, false] rfl rfl (by kernel_rfl) (fun _ _ _ h => h) (Or.inr ⟨by rfl, rfl⟩) ?_ ?_
      rotate_left
      · simp only [Act.put, List.setIfInBounds_toArray, List.set_cons_zero, List.set_cons_succ, i64_w, i32_w]
        rfl
      refine pure_ (i := 18) (N := some 33) (v := undef) (a' := ?_) #[true, true, true, true, true, true, true, true, true, true, true, true, true, true, true, true, true, true, true, false, false, false, false] rfl rfl (by kernel_rfl) (fun _ _ _ h => h) (Or.inr ⟨by rfl, rfl⟩) ?_ ?_
      rotate_left
      · simp only [Act.put, List.setIfInBounds_toArray, List.set_cons_zero, List.set_cons_succ, i64_w, i32_w]
        rfl
      refine pure_ (i := 19) (N := some 34) (v := undef) (a' := ?_) #[true, true, true, true, true, true, true, true, true, true, true, true, true, true, true, true, true, true, true, true, false, false, false] rfl rfl (by kernel_rfl) (fun _ _ _ h => h) (Or.inr ⟨by rfl, rfl⟩) ?_ ?_
      rotate_left
      · simp only [Act.put, List.setIfInBounds_toArray, List.set_cons_zero, List.set_cons_succ, i64_w, i32_w]
        rfl
      refine pure_ (i := 20) (N := some 35) (v := undef) (a' := ?_) #[true, true, true, true, true, true, true, true, true, true, true, true, true, true, true, true, true, true, true, true, true, false, false] rfl rfl (by kernel_rfl) (fun _ _ _ h => h) (Or.inr ⟨by rfl, rfl⟩) ?_ ?_
      rotate_left
      · simp only [Act.put, List.setIfInBounds_toArray, List.set_cons_zero, List.set_cons_succ, i64_w, i32_w]
        rfl
      refine pure_ (i := 21) (N := some 36) (v := ?_) (a' := ?_) #[true, true, true, true, true, true, true, true, true, true, true, true, true, true, true, true, true, true, true, true, true, true, false] rfl rfl (by kernel_rfl) (fun _ _ _ h => h) (Or.inl ⟨by rfl, ?_⟩) ?_ ?_
      rotate_left
      · intro w'
        go_simp
        with_reducible rfl
      rotate_left
      · simp only [Act.put, List.setIfInBounds_toArray, List.set_cons_zero, List.set_cons_succ, i64_w, i32_w]
        rfl
      refine pure_ (i := 22) (N := some 4) (v := ?_) (a' := ?_) #[true, true, true, true, true, true, true, true, true, true, true, true, true, true, true, true, true, true, true, true, true, true, true] rfl rfl (by kernel_rfl) (fun _ _ _ h => h) (Or.inl ⟨by rfl, ?_⟩) ?_ ?_
      rotate_left
      · intro w'
        go_simp
        with_reducible rfl
      rotate_left
      · simp only [Act.put, List.setIfInBounds_toArray, List.set_cons_zero, List.set_cons_succ, i64_w, i32_w]
        rfl
      refine done_ (by kernel_rfl) ?_
      go_wp2
      go_ret
      exact ⟨rfl, H2.out.one⟩
    | some md =>
      obtain ⟨m, dd⟩ := md
      obtain ⟨q1, rfl, -⟩ := two_read H1.out
      obtain ⟨q2, rfl, -⟩ := two_rread H1.out
      obtain ⟨⟨ce, cd, cn, cx⟩, hrr⟩ : ∃ r, commitL d m dd bl = r := ⟨_, rfl⟩
      rw [show actW d (some (m, dd)) k n keep s bl = (cd, some (cn, cx)) by unfold actW; rw [hkt, k0, if_pos rfl]; show ((commitL d m dd bl).2.1, some ((commitL d m dd bl).2.2.1, (commitL d m dd bl).2.2.2)) = _; rw [hrr]]
      have t0 : (kt == 0) = true := by rw [k0]; rfl
      have u0 : (kt = 0) = True := eq_true k0
      clear k0
      have hee : (ce == ce) = true := beq_self_eq_true _
      go_enter Try.func25, Try.ntmps25
      go_wp2_with (((with_reducible refine gate_dst (N := 3) rfl ?_); refine wpList_val rfl rfl (execOp_box rfl rfl HBX.out) ?_))
      refine start_ (n := 23) (S := fun w' => bAt w' b p1 p2 (.pointer (some ⟨q1, 0, none⟩)) (.pointer (some ⟨q2, 0, none⟩)) ∧ w'.heap[g]? = some (.cells #[.int .i64 k, .int .i64 n, .int .u64 keep, .string s, .slice A bl.length cap] 63 (0, 0))) (ds := []) #[false, false, false, false, false, false, false, false, false, false, false, false, false, false, false, false, false, false, false, false, false, false, false] (by kernel_rfl) rfl rfl ((H1.out.below (Below.refl _ _).drew).cell) (fun hHeld => ?_)
      have H2 := Lib.hid (H1.out.below (Below.refl w1.heap.size w1).drew)
      generalize w1.drew = w2 at H2 hHeld ⊢
      refine pure_ (i := 0) (N := some 15) (v := ?_) (a' := ?_) #[true, false, false, false, false, false, false, false, false, false, false, false, false, false, false, false, false, false, false, false, false, false, false] rfl rfl (by kernel_rfl) (fun _ _ _ h => h) (Or.inl ⟨by rfl, ?_⟩) ?_ ?_
      rotate_left
      · intro w'
        go_simp
        with_reducible rfl
      rotate_left
      · simp only [Act.put, List.setIfInBounds_toArray, List.set_cons_zero, List.set_cons_succ, i64_w, i32_w]
        rfl
      refine pure_ (i := 1) (N := some 16) (v := ?_) (a' := ?_) #[true, true, false, false, false, false, false, false, false, false, false, false, false, false, false, false, false, false, false, false, false, false, false] rfl rfl (by kernel_rfl) (fun _ _ _ h => h) (Or.inl ⟨by rfl, ?_⟩) ?_ ?_
      rotate_left
      · intro w'
        go_simp
        with_reducible rfl
      rotate_left
      · simp only [Act.put, List.setIfInBounds_toArray, List.set_cons_zero, List.set_cons_succ, i64_w, i32_w]
        rfl
      refine pure_ (i := 2) (N := some 17) (v := ?_) (a' := ?_) #[true, true, true, false, false, false, false, false, false, false, false, false, false, false, false, false, false, false, false, false, false, false, false] rfl rfl (by kernel_rfl) (fun _ _ _ h => h) (Or.inl ⟨by rfl, ?_⟩) ?_ ?_
      rotate_left
      · intro w'
        go_simp
        with_reducible rfl
      rotate_left
      · simp only [Act.put, List.setIfInBounds_toArray, List.set_cons_zero, List.set_cons_succ, i64_w, i32_w]
        rfl
      refine take_ (i := 3) (N := some 18) (v := ?_) (a' := ?_) #[true, true, true, true, false, false, false, false, false, false, false, false, false, false, false, false, false, false, false, false, false, false, false] rfl rfl (by kernel_rfl) (fun _ _ _ h => h) (Or.inl ⟨by rfl, ?_⟩) hHeld ?_ ?_
      rotate_left
      · intro w' hS
        obtain ⟨z0, _, z1, _, z2, _, z3, _⟩ := blk4 hS.1
        go_simp
        with_reducible rfl
      rotate_left
      · simp only [Act.put, List.setIfInBounds_toArray, List.set_cons_zero, List.set_cons_succ, i64_w, i32_w]
        rfl
      refine pure_ (i := 4) (N := some 19) (v := ?_) (a' := ?_) #[true, true, true, true, true, false, false, false, false, false, false, false, false, false, false, false, false, false, false, false, false, false, false] rfl rfl (by kernel_rfl) (fun _ _ _ h => h) (Or.inl ⟨by rfl, ?_⟩) ?_ ?_
      rotate_left
      · intro w'
        go_simp
        with_reducible rfl
      rotate_left
      · simp only [Act.put, List.setIfInBounds_toArray, List.set_cons_zero, List.set_cons_succ, i64_w, i32_w]
        rfl
      refine pure_ (i := 5) (N := some 20) (v := ?_) (a' := ?_) #[true, true, true, true, true, true, false, false, false, false, false, false, false, false, false, false, false, false, false, false, false, false, false] rfl rfl (by kernel_rfl) (fun _ _ _ h => h) (Or.inl ⟨by rfl, ?_⟩) ?_ ?_
      rotate_left
      · intro w'
        go_simp
        with_reducible rfl
      rotate_left
      · simp only [Act.put, List.setIfInBounds_toArray, List.set_cons_zero, List.set_cons_succ, i64_w, i32_w]
        rfl
      refine pure_ (i := 6) (N := some 21) (v := ?_) (a' := ?_) #[true, true, true, true, true, true, true, false, false, false, false, false, false, false, false, false, false, false, false, false, false, false, false] rfl rfl (by kernel_rfl) (fun _ _ _ h => h) (Or.inl ⟨by rfl, ?_⟩) ?_ ?_
      rotate_left
      · intro w'
        go_simp
        with_reducible rfl
      rotate_left
      · simp only [Act.put, List.setIfInBounds_toArray, List.set_cons_zero, List.set_cons_succ, i64_w, i32_w]
        rfl
      refine pure_ (i := 7) (N := some 22) (v := ?_) (a' := ?_) #[true, true, true, true, true, true, true, true, false, false, false, false, false, false, false, false, false, false, false, false, false, false, false] rfl rfl (by kernel_rfl) (fun _ _ _ h => h) (Or.inl ⟨by rfl, ?_⟩) ?_ ?_
      rotate_left
      · intro w'
        go_simp
        with_reducible rfl
      rotate_left
      · simp only [Act.put, List.setIfInBounds_toArray, List.set_cons_zero, List.set_cons_succ, i64_w, i32_w]
        rfl
      refine pure_ (i := 8) (N := some 23) (v := ?_) (a' := ?_) #[true, true, true, true, true, true, true, true, true, false, false, false, false, false, false, false, false, false, false, false, false, false, false] rfl rfl (by kernel_rfl) (fun _ _ _ h => h) (Or.inl ⟨by rfl, ?_⟩) ?_ ?_
      rotate_left
      · intro w'
        go_simp
        with_reducible rfl
      rotate_left
      · simp only [Act.put, List.setIfInBounds_toArray, List.set_cons_zero, List.set_cons_succ, i64_w, i32_w]
        rfl
      refine take_ (i := 9) (N := some 24) (v := ?_) (a' := ?_) #[true, true, true, true, true, true, true, true, true, true, false, false, false, false, false, false, false, false, false, false, false, false, false] rfl rfl (by kernel_rfl) (fun _ _ _ h => h) (Or.inl ⟨by rfl, ?_⟩) hHeld ?_ ?_
      rotate_left
      · intro w' hS
        obtain ⟨z0, _, z1, _, z2, _, z3, _⟩ := blk4 hS.1
        go_simp
        with_reducible rfl
      rotate_left
      · simp only [Act.put, List.setIfInBounds_toArray, List.set_cons_zero, List.set_cons_succ, i64_w, i32_w]
        rfl
      refine pure_ (i := 10) (N := some 25) (v := ?_) (a' := ?_) #[true, true, true, true, true, true, true, true, true, true, true, false, false, false, false, false, false, false, false, false, false, false, false] rfl rfl (by kernel_rfl) (fun _ _ _ h => h) (Or.inl ⟨by rfl, ?_⟩) ?_ ?_
      rotate_left
      · intro w'
        go_simp
        with_reducible rfl
      rotate_left
      · simp only [Act.put, List.setIfInBounds_toArray, List.set_cons_zero, List.set_cons_succ, i64_w, i32_w]
        rfl
      refine take_ (i := 11) (N := some 26) (v := ?_) (a' := ?_) #[true, true, true, true, true, true, true, true, true, true, true, true, false, false, false, false, false, false, false, false, false, false, false] rfl rfl (by kernel_rfl) (fun _ _ _ h => h) (Or.inl ⟨by rfl, ?_⟩) hHeld ?_ ?_
      rotate_left
      · intro w' hS
        have z0 : w'.cell? ⟨g, 4, none⟩ = some (.slice A bl.length cap) := (cell_at hS.2 4).trans rfl
        go_simp
        with_reducible rfl
      rotate_left
      · simp only [Act.put, List.setIfInBounds_toArray, List.set_cons_zero, List.set_cons_succ, i64_w, i32_w]
        rfl
      refine pure_ (i := 13) (N := some 28) (v := ?_) (a' := ?_) #[true, true, true, true, true, true, true, true, true, true, true, true, false, true, false, false, false, false, false, false, false, false, false] rfl rfl (by kernel_rfl) (fun _ _ _ h => h) (Or.inl ⟨by rfl, ?_⟩) ?_ ?_
      rotate_left
      · intro w'
        go_simp
        with_reducible rfl
      rotate_left
      · simp only [Act.put, List.setIfInBounds_toArray, List.set_cons_zero, List.set_cons_succ, i64_w, i32_w]
        rfl
      refine pure_ (i := 14) (N := some 29) (v := ?_) (a' := ?_) #[true, true, true, true, true, true, true, true, true, true, true, true, false, true, true, false, false, false, false, false, false, false, false] rfl rfl (by kernel_rfl) (fun _ _ _ h => h) (Or.inl ⟨by rfl, ?_⟩) ?_ ?_
      rotate_left
      · intro w'
        go_simp
        with_reducible rfl
      rotate_left
      · simp only [Act.put, List.setIfInBounds_toArray, List.set_cons_zero, List.set_cons_succ, i64_w, i32_w]
        rfl
      refine pure_ (i := 15) (N := some 30) (v := ?_) (a' := ?_) #[true, true, true, true, true, true, true, true, true, true, true, true, false, true, true, true, false, false, false, false, false, false, false] rfl rfl (by kernel_rfl) (fun _ _ _ h => h) (Or.inl ⟨by rfl, ?_⟩) ?_ ?_
      rotate_left
      · intro w'
        go_simp
        with_reducible rfl
      rotate_left
      · simp only [Act.put, List.setIfInBounds_toArray, List.set_cons_zero, List.set_cons_succ, i64_w, i32_w]
        rfl
      refine take_ (i := 16) (N := some 31) (v := ?_) (a' := ?_) #[true, true, true, true, true, true, true, true, true, true, true, true, false, true, true, true, true, false, false, false, false, false, false] rfl rfl (by kernel_rfl) (fun _ _ _ h => h) (Or.inl ⟨by rfl, ?_⟩) hHeld ?_ ?_
      rotate_left
      · intro w' hS
        obtain ⟨z0, _, z1, _, z2, _, z3, _⟩ := blk4 hS.1
        go_simp
        with_reducible rfl
      rotate_left
      · simp only [Act.put, List.setIfInBounds_toArray, List.set_cons_zero, List.set_cons_succ, i64_w, i32_w]
        rfl
      refine pure_ (i := 17) (N := some 32) (v := ?_) (a' := ?_) #[true, true, true, true, true, true, true, true, true, true, true, true, false, true, true, true, true, true, false, false, false, false, false] rfl rfl (by kernel_rfl) (fun _ _ _ h => h) (Or.inl ⟨by rfl, ?_⟩) ?_ ?_
      rotate_left
      · intro w'
        go_simp
        with_reducible rfl
      rotate_left
      · simp only [Act.put, List.setIfInBounds_toArray, List.set_cons_zero, List.set_cons_succ, i64_w, i32_w]
        rfl
      refine take_ (i := 18) (N := some 33) (v := ?_) (a' := ?_) #[true, true, true, true, true, true, true, true, true, true, true, true, false, true, true, true, true, true, true, false, false, false, false] rfl rfl (by kernel_rfl) (fun _ _ _ h => h) (Or.inl ⟨by rfl, ?_⟩) hHeld ?_ ?_
      rotate_left
      · intro w' hS
        have z0 : w'.cell? ⟨g, 4, none⟩ = some (.slice A bl.length cap) := (cell_at hS.2 4).trans rfl
        go_simp
        with_reducible rfl
      rotate_left
      · simp only [Act.put, List.setIfInBounds_toArray, List.set_cons_zero, List.set_cons_succ, i64_w, i32_w]
        rfl
      obtain ⟨qx, hqx, hcm⟩ := two_commit H2.out
      cases hqx
      have HCM := Lib.hid (hcm A cap (HA.out.below H2.out.bel) HAF.out (by omega) (by omega))
      rw [hrr] at HCM
      clear hcm
      refine one_ (i := 12) (N := some 27) #[true, true, true, true, true, true, true, true, true, true, true, true, true, true, true, true, true, true, true, false, false, false, false] rfl rfl (by kernel_rfl) (by decide) (fun K hK => ?_)
      refine goes_ Try.func12 (by kernel_rfl) rfl #[.pointer (some ⟨q1, 0, none⟩), .slice A bl.length cap] (by rfl) rfl rfl (by (try simp only [List.map_toArray, List.map_cons, List.map_nil]); first | done | rfl) ?_
      refine (HCM.out).mono ?_
      rintro e w3 ⟨rfl, h⟩
      have H3 := Lib.hid h
      clear h
      refine ⟨_, rfl, ?_⟩
      refine hK.out _ _ H3.out.cell (fun hHeld => ?_)
      clear hK K
      refine norm_ (a' := ?_) ?_ ?_
      rotate_left
      · show Act.put _ (some 27) _ = _
        simp only [Act.put, List.setIfInBounds_toArray, List.set_cons_zero, List.set_cons_succ, i64_w, i32_w]
        rfl
      obtain ⟨qx, hqx, hcm⟩ := two_rcommit H3.out
      cases hqx
      have HCM2 := Lib.hid (hcm A cap (HA.out.below H3.out.bel) hc HAF.out (by omega) (by omega) (h41.resolve_left (by simp)))
      rw [hrr] at HCM2
      clear hcm
      refine one_ (i := 19) (N := some 34) #[true, true, true, true, true, true, true, true, true, true, true, true, true, true, true, true, true, true, true, true, false, false, false] rfl rfl (by kernel_rfl) (by decide) (fun K hK => ?_)
      refine goes_ Try.func40 (by kernel_rfl) rfl #[.pointer (some ⟨q2, 0, none⟩), .slice A bl.length cap] (by rfl) rfl rfl (by (try simp only [List.map_toArray, List.map_cons, List.map_nil]); first | done | rfl) ?_
      refine (HCM2.out).mono ?_
      rintro e w4 ⟨rfl, h⟩
      have H4 := Lib.hid h
      clear h
      refine ⟨_, rfl, ?_⟩
      refine hK.out _ _ H4.out.cell (fun hHeld => ?_)
      clear hK K
      refine norm_ (a' := ?_) ?_ ?_
      rotate_left
      · show Act.put _ (some 34) _ = _
        simp only [Act.put, List.setIfInBounds_toArray, List.set_cons_zero, List.set_cons_succ, i64_w, i32_w]
        rfl
      refine pure_ (i := 20) (N := some 35) (v := ?_) (a' := ?_) #[true, true, true, true, true, true, true, true, true, true, true, true, true, true, true, true, true, true, true, true, true, false, false] rfl rfl (by kernel_rfl) (fun _ _ _ h => h) (Or.inl ⟨by rfl, ?_⟩) ?_ ?_
      rotate_left
      · intro w'
        go_simp
        with_reducible rfl
      rotate_left
      · simp only [Act.put, List.setIfInBounds_toArray, List.set_cons_zero, List.set_cons_succ, i64_w, i32_w]
        rfl
      refine pure_ (i := 21) (N := some 36) (v := ?_) (a' := ?_) #[true, true, true, true, true, true, true, true, true, true, true, true, true, true, true, true, true, true, true, true, true, true, false] rfl rfl (by kernel_rfl) (fun _ _ _ h => h) (Or.inl ⟨by rfl, ?_⟩) ?_ ?_
      rotate_left
      · intro w'
        go_simp
        with_reducible rfl
      rotate_left
      · simp only [Act.put, List.setIfInBounds_toArray, List.set_cons_zero, List.set_cons_succ, i64_w, i32_w]
        rfl
      refine pure_ (i := 22) (N := some 4) (v := ?_) (a' := ?_) #[true, true, true, true, true, true, true, true, true, true, true, true, true, true, true, true, true, true, true, true, true, true, true] rfl rfl (by kernel_rfl) (fun _ _ _ h => h) (Or.inl ⟨by rfl, ?_⟩) ?_ ?_
      rotate_left
      · intro w'
        go_simp
        with_reducible rfl
      rotate_left
      · simp only [Act.put, List.setIfInBounds_toArray, List.set_cons_zero, List.set_cons_succ, i64_w, i32_w]
        rfl
      refine done_ (by kernel_rfl) ?_
      go_wp2
      go_ret
      exact ⟨rfl, H4.out.one⟩
  by_cases k1 : kt = 1
  · rw [show actW d o k n keep s bl = (d.light n, o) by unfold actW; rw [hkt, k1]; rfl]
    have t0 : (kt == 0) = false := by rw [k1]; rfl
    have u0 : (kt = 0) = False := eq_false (by omega)
    have t1 : (kt == 1) = true := by rw [k1]; rfl
    have u1 : (kt = 1) = True := eq_true (by omega)
    clear k1
    go_enter Try.func25, Try.ntmps25
    go_wp2_with (((with_reducible refine gate_dst (N := 3) rfl ?_); refine wpList_val rfl rfl (execOp_box rfl rfl HBX.out) ?_))
    refine start_ (n := 7) (S := fun w' => bAt w' b p1 p2 vl vx ∧ w'.heap[g]? = some (.cells #[.int .i64 k, .int .i64 n, .int .u64 keep, .string s, .slice A bl.length cap] 63 (0, 0))) (ds := []) #[false, false, false, false, false, false, false] (by kernel_rfl) rfl rfl ((H1.out.below (Below.refl _ _).drew).cell) (fun hHeld => ?_)
    have H2 := Lib.hid (H1.out.below (Below.refl w1.heap.size w1).drew)
    generalize w1.drew = w2 at H2 hHeld ⊢
    refine pure_ (i := 0) (N := some 39) (v := ?_) (a' := ?_) #[true, false, false, false, false, false, false] rfl rfl (by kernel_rfl) (fun _ _ _ h => h) (Or.inl ⟨by rfl, ?_⟩) ?_ ?_
    rotate_left
    · intro w'
      go_simp
      with_reducible rfl
    rotate_left
    · simp only [Act.put, List.setIfInBounds_toArray, List.set_cons_zero, List.set_cons_succ, i64_w, i32_w]
      rfl
    refine pure_ (i := 1) (N := some 40) (v := ?_) (a' := ?_) #[true, true, false, false, false, false, false] rfl rfl (by kernel_rfl) (fun _ _ _ h => h) (Or.inl ⟨by rfl, ?_⟩) ?_ ?_
    rotate_left
    · intro w'
      go_simp
      with_reducible rfl
    rotate_left
    · simp only [Act.put, List.setIfInBounds_toArray, List.set_cons_zero, List.set_cons_succ, i64_w, i32_w]
      rfl
    refine pure_ (i := 2) (N := some 41) (v := ?_) (a' := ?_) #[true, true, true, false, false, false, false] rfl rfl (by kernel_rfl) (fun _ _ _ h => h) (Or.inl ⟨by rfl, ?_⟩) ?_ ?_
    rotate_left
    · intro w'
      go_simp
      with_reducible rfl
    rotate_left
    · simp only [Act.put, List.setIfInBounds_toArray, List.set_cons_zero, List.set_cons_succ, i64_w, i32_w]
      rfl
    refine take_ (i := 3) (N := some 42) (v := ?_) (a' := ?_) #[true, true, true, true, false, false, false] rfl rfl (by kernel_rfl) (fun _ _ _ h => h) (Or.inl ⟨by rfl, ?_⟩) hHeld ?_ ?_
    rotate_left
    · intro w' hS
      obtain ⟨z0, _, z1, _, z2, _, z3, _⟩ := blk4 hS.1
      go_simp
      with_reducible rfl
    rotate_left
    · simp only [Act.put, List.setIfInBounds_toArray, List.set_cons_zero, List.set_cons_succ, i64_w, i32_w]
      rfl
    refine pure_ (i := 4) (N := some 43) (v := ?_) (a' := ?_) #[true, true, true, true, true, false, false] rfl rfl (by kernel_rfl) (fun _ _ _ h => h) (Or.inl ⟨by rfl, ?_⟩) ?_ ?_
    rotate_left
    · intro w'
      go_simp
      with_reducible rfl
    rotate_left
    · simp only [Act.put, List.setIfInBounds_toArray, List.set_cons_zero, List.set_cons_succ, i64_w, i32_w]
      rfl
    refine take_ (i := 5) (N := some 44) (v := ?_) (a' := ?_) #[true, true, true, true, true, true, false] rfl rfl (by kernel_rfl) (fun _ _ _ h => h) (Or.inl ⟨by rfl, ?_⟩) hHeld ?_ ?_
    rotate_left
    · intro w' hS
      have z0 : w'.cell? ⟨g, 1, none⟩ = some (.int .i64 n) := (cell_at hS.2 1).trans rfl
      go_simp
      with_reducible rfl
    rotate_left
    · simp only [Act.put, List.setIfInBounds_toArray, List.set_cons_zero, List.set_cons_succ, i64_w, i32_w]
      rfl
    refine one_ (i := 6) (N := some 45) #[true, true, true, true, true, true, true] rfl rfl (by kernel_rfl) (by decide) (fun K hK => ?_)
    refine goes_ Try.func20 (by kernel_rfl) rfl #[.pointer (some ⟨p1, 0, none⟩), .int .i64 n] (by rfl) rfl rfl (by (try simp only [List.map_toArray, List.map_cons, List.map_nil]); first | done | rfl) ?_
    refine (two_fuse H2.out n hn).mono ?_
    rintro e w3 ⟨rfl, h⟩
    have H3 := Lib.hid h
    clear h
    refine ⟨_, rfl, ?_⟩
    refine hK.out _ _ H3.out.cell (fun hHeld => ?_)
    clear hK K
    refine norm_ (a' := ?_) ?_ ?_
    rotate_left
    · show Act.put _ (some 45) _ = _
      simp only [Act.put, List.setIfInBounds_toArray, List.set_cons_zero, List.set_cons_succ, i64_w, i32_w]
      rfl
    refine done_ (by kernel_rfl) ?_
    go_wp2_with fail
    refine start_ (n := 7) (S := fun w' => bAt w' b p1 p2 vl vx ∧ w'.heap[g]? = some (.cells #[.int .i64 k, .int .i64 n, .int .u64 keep, .string s, .slice A bl.length cap] 63 (0, 0))) (ds := []) #[false, false, false, false, false, false, false] (by kernel_rfl) rfl rfl ((H3.out.below (Below.refl _ _).drew).cell) (fun hHeld => ?_)
    have H4 := Lib.hid (H3.out.below (Below.refl w3.heap.size w3).drew)
    generalize w3.drew = w4 at H4 hHeld ⊢
    refine pure_ (i := 0) (N := some 46) (v := ?_) (a' := ?_) #[true, false, false, false, false, false, false] rfl rfl (by kernel_rfl) (fun _ _ _ h => h) (Or.inl ⟨by rfl, ?_⟩) ?_ ?_
    rotate_left
    · intro w'
      go_simp
      with_reducible rfl
    rotate_left
    · simp only [Act.put, List.setIfInBounds_toArray, List.set_cons_zero, List.set_cons_succ, i64_w, i32_w]
      rfl
    refine pure_ (i := 1) (N := some 47) (v := ?_) (a' := ?_) #[true, true, false, false, false, false, false] rfl rfl (by kernel_rfl) (fun _ _ _ h => h) (Or.inl ⟨by rfl, ?_⟩) ?_ ?_
    rotate_left
    · intro w'
      go_simp
      with_reducible rfl
    rotate_left
    · simp only [Act.put, List.setIfInBounds_toArray, List.set_cons_zero, List.set_cons_succ, i64_w, i32_w]
      rfl
    refine pure_ (i := 2) (N := some 48) (v := ?_) (a' := ?_) #[true, true, true, false, false, false, false] rfl rfl (by kernel_rfl) (fun _ _ _ h => h) (Or.inl ⟨by rfl, ?_⟩) ?_ ?_
    rotate_left
    · intro w'
      go_simp
      with_reducible rfl
    rotate_left
    · simp only [Act.put, List.setIfInBounds_toArray, List.set_cons_zero, List.set_cons_succ, i64_w, i32_w]
      rfl
    refine take_ (i := 3) (N := some 49) (v := ?_) (a' := ?_) #[true, true, true, true, false, false, false] rfl rfl (by kernel_rfl) (fun _ _ _ h => h) (Or.inl ⟨by rfl, ?_⟩) hHeld ?_ ?_
    rotate_left
    · intro w' hS
      obtain ⟨z0, _, z1, _, z2, _, z3, _⟩ := blk4 hS.1
      go_simp
      with_reducible rfl
    rotate_left
    · simp only [Act.put, List.setIfInBounds_toArray, List.set_cons_zero, List.set_cons_succ, i64_w, i32_w]
      rfl
    refine pure_ (i := 4) (N := some 50) (v := ?_) (a' := ?_) #[true, true, true, true, true, false, false] rfl rfl (by kernel_rfl) (fun _ _ _ h => h) (Or.inl ⟨by rfl, ?_⟩) ?_ ?_
    rotate_left
    · intro w'
      go_simp
      with_reducible rfl
    rotate_left
    · simp only [Act.put, List.setIfInBounds_toArray, List.set_cons_zero, List.set_cons_succ, i64_w, i32_w]
      rfl
    refine take_ (i := 5) (N := some 51) (v := ?_) (a' := ?_) #[true, true, true, true, true, true, false] rfl rfl (by kernel_rfl) (fun _ _ _ h => h) (Or.inl ⟨by rfl, ?_⟩) hHeld ?_ ?_
    rotate_left
    · intro w' hS
      have z0 : w'.cell? ⟨g, 1, none⟩ = some (.int .i64 n) := (cell_at hS.2 1).trans rfl
      go_simp
      with_reducible rfl
    rotate_left
    · simp only [Act.put, List.setIfInBounds_toArray, List.set_cons_zero, List.set_cons_succ, i64_w, i32_w]
      rfl
    refine one_ (i := 6) (N := some 52) #[true, true, true, true, true, true, true] rfl rfl (by kernel_rfl) (by decide) (fun K hK => ?_)
    refine goes_ Try.func41 (by kernel_rfl) rfl #[.pointer (some ⟨p2, 0, none⟩), .int .i64 n] (by rfl) rfl rfl (by (try simp only [List.map_toArray, List.map_cons, List.map_nil]); first | done | rfl) ?_
    refine (two_light H4.out n hn0 hn).mono ?_
    rintro e w5 ⟨rfl, h⟩
    have H5 := Lib.hid h
    clear h
    refine ⟨_, rfl, ?_⟩
    refine hK.out _ _ H5.out.cell (fun hHeld => ?_)
    clear hK K
    refine norm_ (a' := ?_) ?_ ?_
    rotate_left
    · show Act.put _ (some 52) _ = _
      simp only [Act.put, List.setIfInBounds_toArray, List.set_cons_zero, List.set_cons_succ, i64_w, i32_w]
      rfl
    refine done_ (by kernel_rfl) ?_
    go_wp2
    go_ret
    exact ⟨rfl, H5.out.one⟩
  by_cases k2 : kt = 2
  · rw [show actW d o k n keep s bl = ((openD (d.crash keep)).2.2, oOf (openD (d.crash keep))) by unfold actW; rw [hkt, k2]; rfl]
    have t0 : (kt == 0) = false := by rw [k2]; rfl
    have u0 : (kt = 0) = False := eq_false (by omega)
    have t1 : (kt == 1) = false := by rw [k2]; rfl
    have u1 : (kt = 1) = False := eq_false (by omega)
    have t2 : (kt == 2) = true := by rw [k2]; rfl
    have u2 : (kt = 2) = True := eq_true (by omega)
    clear k2
    go_enter Try.func25, Try.ntmps25
    go_wp2_with (((with_reducible refine gate_dst (N := 3) rfl ?_); refine wpList_val rfl rfl (execOp_box rfl rfl HBX.out) ?_))
    refine start_ (n := 7) (S := fun w' => bAt w' b p1 p2 vl vx ∧ w'.heap[g]? = some (.cells #[.int .i64 k, .int .i64 n, .int .u64 keep, .string s, .slice A bl.length cap] 63 (0, 0))) (ds := []) #[false, false, false, false, false, false, false] (by kernel_rfl) rfl rfl ((H1.out.below (Below.refl _ _).drew).cell) (fun hHeld => ?_)
    have H2 := Lib.hid (H1.out.below (Below.refl w1.heap.size w1).drew)
    generalize w1.drew = w2 at H2 hHeld ⊢
    refine pure_ (i := 0) (N := some 55) (v := ?_) (a' := ?_) #[true, false, false, false, false, false, false] rfl rfl (by kernel_rfl) (fun _ _ _ h => h) (Or.inl ⟨by rfl, ?_⟩) ?_ ?_
    rotate_left
    · intro w'
      go_simp
      with_reducible rfl
    rotate_left
    · simp only [Act.put, List.setIfInBounds_toArray, List.set_cons_zero, List.set_cons_succ, i64_w, i32_w]
      rfl
    refine pure_ (i := 1) (N := some 56) (v := ?_) (a' := ?_) #[true, true, false, false, false, false, false] rfl rfl (by kernel_rfl) (fun _ _ _ h => h) (Or.inl ⟨by rfl, ?_⟩) ?_ ?_
    rotate_left
    · intro w'
      go_simp
      with_reducible rfl
    rotate_left
    · simp only [Act.put, List.setIfInBounds_toArray, List.set_cons_zero, List.set_cons_succ, i64_w, i32_w]
      rfl
    refine pure_ (i := 2) (N := some 57) (v := ?_) (a' := ?_) #[true, true, true, false, false, false, false] rfl rfl (by kernel_rfl) (fun _ _ _ h => h) (Or.inl ⟨by rfl, ?_⟩) ?_ ?_
    rotate_left
    · intro w'
      go_simp
      with_reducible rfl
    rotate_left
    · simp only [Act.put, List.setIfInBounds_toArray, List.set_cons_zero, List.set_cons_succ, i64_w, i32_w]
      rfl
    refine take_ (i := 3) (N := some 58) (v := ?_) (a' := ?_) #[true, true, true, true, false, false, false] rfl rfl (by kernel_rfl) (fun _ _ _ h => h) (Or.inl ⟨by rfl, ?_⟩) hHeld ?_ ?_
    rotate_left
    · intro w' hS
      obtain ⟨z0, _, z1, _, z2, _, z3, _⟩ := blk4 hS.1
      go_simp
      with_reducible rfl
    rotate_left
    · simp only [Act.put, List.setIfInBounds_toArray, List.set_cons_zero, List.set_cons_succ, i64_w, i32_w]
      rfl
    refine pure_ (i := 4) (N := some 59) (v := ?_) (a' := ?_) #[true, true, true, true, true, false, false] rfl rfl (by kernel_rfl) (fun _ _ _ h => h) (Or.inl ⟨by rfl, ?_⟩) ?_ ?_
    rotate_left
    · intro w'
      go_simp
      with_reducible rfl
    rotate_left
    · simp only [Act.put, List.setIfInBounds_toArray, List.set_cons_zero, List.set_cons_succ, i64_w, i32_w]
      rfl
    refine take_ (i := 5) (N := some 60) (v := ?_) (a' := ?_) #[true, true, true, true, true, true, false] rfl rfl (by kernel_rfl) (fun _ _ _ h => h) (Or.inl ⟨by rfl, ?_⟩) hHeld ?_ ?_
    rotate_left
    · intro w' hS
      have z0 : w'.cell? ⟨g, 2, none⟩ = some (.int .u64 keep) := (cell_at hS.2 2).trans rfl
      go_simp
      with_reducible rfl
    rotate_left
    · simp only [Act.put, List.setIfInBounds_toArray, List.set_cons_zero, List.set_cons_succ, i64_w, i32_w]
      rfl
    refine one_ (i := 6) (N := some 61) #[true, true, true, true, true, true, true] rfl rfl (by kernel_rfl) (by decide) (fun K hK => ?_)
    refine goes_ Try.func21 (by kernel_rfl) rfl #[.pointer (some ⟨p1, 0, none⟩), .int .u64 keep] (by rfl) rfl rfl (by (try simp only [List.map_toArray, List.map_cons, List.map_nil]); first | done | rfl) ?_
    refine (two_crash H2.out keep hk0 hk1 (by omega)).mono ?_
    rintro e w3 ⟨rfl, h⟩
    have H3 := Lib.hid h
    clear h
    refine ⟨_, rfl, ?_⟩
    refine hK.out _ _ H3.out.cell (fun hHeld => ?_)
    clear hK K
    refine norm_ (a' := ?_) ?_ ?_
    rotate_left
    · show Act.put _ (some 61) _ = _
      simp only [Act.put, List.setIfInBounds_toArray, List.set_cons_zero, List.set_cons_succ, i64_w, i32_w]
      rfl
    refine done_ (by kernel_rfl) ?_
    go_wp2_with fail
    refine start_ (n := 7) (S := fun w' => bAt w' b p1 p2 vl vx ∧ w'.heap[g]? = some (.cells #[.int .i64 k, .int .i64 n, .int .u64 keep, .string s, .slice A bl.length cap] 63 (0, 0))) (ds := []) #[false, false, false, false, false, false, false] (by kernel_rfl) rfl rfl ((H3.out.below (Below.refl _ _).drew).cell) (fun hHeld => ?_)
    have H4 := Lib.hid (H3.out.below (Below.refl w3.heap.size w3).drew)
    generalize w3.drew = w4 at H4 hHeld ⊢
    refine pure_ (i := 0) (N := some 62) (v := ?_) (a' := ?_) #[true, false, false, false, false, false, false] rfl rfl (by kernel_rfl) (fun _ _ _ h => h) (Or.inl ⟨by rfl, ?_⟩) ?_ ?_
    rotate_left
    · intro w'
      go_simp
      with_reducible rfl
    rotate_left
    · simp only [Act.put, List.setIfInBounds_toArray, List.set_cons_zero, List.set_cons_succ, i64_w, i32_w]
      rfl
    refine pure_ (i := 1) (N := some 63) (v := ?_) (a' := ?_) #[true, true, false, false, false, false, false] rfl rfl (by kernel_rfl) (fun _ _ _ h => h) (Or.inl ⟨by rfl, ?_⟩) ?_ ?_
    rotate_left
    · intro w'
      go_simp
      with_reducible rfl
    rotate_left
    · simp only [Act.put, List.setIfInBounds_toArray, List.set_cons_zero, List.set_cons_succ, i64_w, i32_w]
      rfl
    refine pure_ (i := 2) (N := some 64) (v := ?_) (a' := ?_) #[true, true, true, false, false, false, false] rfl rfl (by kernel_rfl) (fun _ _ _ h => h) (Or.inl ⟨by rfl, ?_⟩) ?_ ?_
    rotate_left
    · intro w'
      go_simp
      with_reducible rfl
    rotate_left
    · simp only [Act.put, List.setIfInBounds_toArray, List.set_cons_zero, List.set_cons_succ, i64_w, i32_w]
      rfl
    refine take_ (i := 3) (N := some 65) (v := ?_) (a' := ?_) #[true, true, true, true, false, false, false] rfl rfl (by kernel_rfl) (fun _ _ _ h => h) (Or.inl ⟨by rfl, ?_⟩) hHeld ?_ ?_
    rotate_left
    · intro w' hS
      obtain ⟨z0, _, z1, _, z2, _, z3, _⟩ := blk4 hS.1
      go_simp
      with_reducible rfl
    rotate_left
    · simp only [Act.put, List.setIfInBounds_toArray, List.set_cons_zero, List.set_cons_succ, i64_w, i32_w]
      rfl
    refine pure_ (i := 4) (N := some 66) (v := ?_) (a' := ?_) #[true, true, true, true, true, false, false] rfl rfl (by kernel_rfl) (fun _ _ _ h => h) (Or.inl ⟨by rfl, ?_⟩) ?_ ?_
    rotate_left
    · intro w'
      go_simp
      with_reducible rfl
    rotate_left
    · simp only [Act.put, List.setIfInBounds_toArray, List.set_cons_zero, List.set_cons_succ, i64_w, i32_w]
      rfl
    refine take_ (i := 5) (N := some 67) (v := ?_) (a' := ?_) #[true, true, true, true, true, true, false] rfl rfl (by kernel_rfl) (fun _ _ _ h => h) (Or.inl ⟨by rfl, ?_⟩) hHeld ?_ ?_
    rotate_left
    · intro w' hS
      have z0 : w'.cell? ⟨g, 2, none⟩ = some (.int .u64 keep) := (cell_at hS.2 2).trans rfl
      go_simp
      with_reducible rfl
    rotate_left
    · simp only [Act.put, List.setIfInBounds_toArray, List.set_cons_zero, List.set_cons_succ, i64_w, i32_w]
      rfl
    refine one_ (i := 6) (N := some 68) #[true, true, true, true, true, true, true] rfl rfl (by kernel_rfl) (by decide) (fun K hK => ?_)
    refine goes_ Try.func42 (by kernel_rfl) rfl #[.pointer (some ⟨p2, 0, none⟩), .int .u64 keep] (by rfl) rfl rfl (by (try simp only [List.map_toArray, List.map_cons, List.map_nil]); first | done | rfl) ?_
    refine (two_rcrash H4.out keep hk0 hk1 (by omega)).mono ?_
    rintro e w5 ⟨rfl, h⟩
    have H5 := Lib.hid h
    clear h
    refine ⟨_, rfl, ?_⟩
    refine hK.out _ _ H5.out.cell (fun hHeld => ?_)
    clear hK K
    refine norm_ (a' := ?_) ?_ ?_
    rotate_left
    · show Act.put _ (some 68) _ = _
      simp only [Act.put, List.setIfInBounds_toArray, List.set_cons_zero, List.set_cons_succ, i64_w, i32_w]
      rfl
    refine done_ (by kernel_rfl) ?_
    go_wp2_with fail
    refine (bopen_calls H5.out.one (by simp [Dv.crash, Dv.light])).mono ?_
    rintro e w6 ⟨rfl, h⟩
    have HE := Lib.hid h
    clear h
    go_wp2
    go_ret
    exact ⟨rfl, HE.out⟩
  by_cases k4 : kt = 4
  · rw [show actW d o k n keep s bl = ((openD ((d.crash keep).light (n.tmod 8))).2.2, oOf (openD ((d.crash keep).light (n.tmod 8)))) by unfold actW; rw [hkt, k4]; rfl]
    obtain ⟨n8, hn8⟩ : ∃ m, n.tmod 8 = m := ⟨_, rfl⟩
    have hb8 : -8 < n8 ∧ n8 < 8 := by rw [← hn8]; exact ⟨Int.lt_tmod_of_pos n (by decide), Int.tmod_lt_of_pos n (by decide)⟩
    have hw8 : IntKind.i64.wrap n8 = n8 := by rw [IntKind.wrap_i64]; omega
    rw [hn8]
    have t0 : (kt == 0) = false := by rw [k4]; rfl
    have u0 : (kt = 0) = False := eq_false (by omega)
    have t1 : (kt == 1) = false := by rw [k4]; rfl
    have u1 : (kt = 1) = False := eq_false (by omega)
    have t2 : (kt == 2) = false := by rw [k4]; rfl
    have u2 : (kt = 2) = False := eq_false (by omega)
    have t3 : (kt == 3) = false := by rw [k4]; rfl
    have u3 : (kt = 3) = False := eq_false (by omega)
    have t4 : (kt == 4) = true := by rw [k4]; rfl
    have u4 : (kt = 4) = True := eq_true (by omega)
    clear k4
    go_enter Try.func25, Try.ntmps25
    go_wp2_with (((with_reducible refine gate_dst (N := 3) rfl ?_); refine wpList_val rfl rfl (execOp_box rfl rfl HBX.out) ?_))
    refine start_ (n := 7) (S := fun w' => bAt w' b p1 p2 vl vx ∧ w'.heap[g]? = some (.cells #[.int .i64 k, .int .i64 n, .int .u64 keep, .string s, .slice A bl.length cap] 63 (0, 0))) (ds := []) #[false, false, false, false, false, false, false] (by kernel_rfl) rfl rfl ((H1.out.below (Below.refl _ _).drew).cell) (fun hHeld => ?_)
    have H2 := Lib.hid (H1.out.below (Below.refl w1.heap.size w1).drew)
    generalize w1.drew = w2 at H2 hHeld ⊢
    refine pure_ (i := 0) (N := some 108) (v := ?_) (a' := ?_) #[true, false, false, false, false, false, false] rfl rfl (by kernel_rfl) (fun _ _ _ h => h) (Or.inl ⟨by rfl, ?_⟩) ?_ ?_
    rotate_left
    · intro w'
      go_simp
      with_reducible rfl
    rotate_left
    · simp only [Act.put, List.setIfInBounds_toArray, List.set_cons_zero, List.set_cons_succ, i64_w, i32_w]
      rfl
    refine pure_ (i := 1) (N := some 109) (v := ?_) (a' := ?_) #[true, true, false, false, false, false, false] rfl rfl (by kernel_rfl) (fun _ _ _ h => h) (Or.inl ⟨by rfl, ?_⟩) ?_ ?_
    rotate_left
    · intro w'
      go_simp
      with_reducible rfl
    rotate_left
    · simp only [Act.put, List.setIfInBounds_toArray, List.set_cons_zero, List.set_cons_succ, i64_w, i32_w]
      rfl
    refine pure_ (i := 2) (N := some 110) (v := ?_) (a' := ?_) #[true, true, true, false, false, false, false] rfl rfl (by kernel_rfl) (fun _ _ _ h => h) (Or.inl ⟨by rfl, ?_⟩) ?_ ?_
    rotate_left
    · intro w'
      go_simp
      with_reducible rfl
    rotate_left
    · simp only [Act.put, List.setIfInBounds_toArray, List.set_cons_zero, List.set_cons_succ, i64_w, i32_w]
      rfl
    refine take_ (i := 3) (N := some 111) (v := ?_) (a' := ?_) #[true, true, true, true, false, false, false] rfl rfl (by kernel_rfl) (fun _ _ _ h => h) (Or.inl ⟨by rfl, ?_⟩) hHeld ?_ ?_
    rotate_left
    · intro w' hS
      obtain ⟨z0, _, z1, _, z2, _, z3, _⟩ := blk4 hS.1
      go_simp
      with_reducible rfl
    rotate_left
    · simp only [Act.put, List.setIfInBounds_toArray, List.set_cons_zero, List.set_cons_succ, i64_w, i32_w]
      rfl
    refine pure_ (i := 4) (N := some 112) (v := ?_) (a' := ?_) #[true, true, true, true, true, false, false] rfl rfl (by kernel_rfl) (fun _ _ _ h => h) (Or.inl ⟨by rfl, ?_⟩) ?_ ?_
    rotate_left
    · intro w'
      go_simp
      with_reducible rfl
    rotate_left
    · simp only [Act.put, List.setIfInBounds_toArray, List.set_cons_zero, List.set_cons_succ, i64_w, i32_w]
      rfl
    refine take_ (i := 5) (N := some 113) (v := ?_) (a' := ?_) #[true, true, true, true, true, true, false] rfl rfl (by kernel_rfl) (fun _ _ _ h => h) (Or.inl ⟨by rfl, ?_⟩) hHeld ?_ ?_
    rotate_left
    · intro w' hS
      have z0 : w'.cell? ⟨g, 2, none⟩ = some (.int .u64 keep) := (cell_at hS.2 2).trans rfl
      go_simp
      with_reducible rfl
    rotate_left
    · simp only [Act.put, List.setIfInBounds_toArray, List.set_cons_zero, List.set_cons_succ, i64_w, i32_w]
      rfl
    refine one_ (i := 6) (N := some 114) #[true, true, true, true, true, true, true] rfl rfl (by kernel_rfl) (by decide) (fun K hK => ?_)
    refine goes_ Try.func21 (by kernel_rfl) rfl #[.pointer (some ⟨p1, 0, none⟩), .int .u64 keep] (by rfl) rfl rfl (by (try simp only [List.map_toArray, List.map_cons, List.map_nil]); first | done | rfl) ?_
    refine (two_crash H2.out keep hk0 hk1 (by omega)).mono ?_
    rintro e w3 ⟨rfl, h⟩
    have H3 := Lib.hid h
    clear h
    refine ⟨_, rfl, ?_⟩
    refine hK.out _ _ H3.out.cell (fun hHeld => ?_)
    clear hK K
    refine norm_ (a' := ?_) ?_ ?_
    rotate_left
    · show Act.put _ (some 114) _ = _
      simp only [Act.put, List.setIfInBounds_toArray, List.set_cons_zero, List.set_cons_succ, i64_w, i32_w]
      rfl
    refine done_ (by kernel_rfl) ?_
    go_wp2_with fail
    refine start_ (n := 7) (S := fun w' => bAt w' b p1 p2 vl vx ∧ w'.heap[g]? = some (.cells #[.int .i64 k, .int .i64 n, .int .u64 keep, .string s, .slice A bl.length cap] 63 (0, 0))) (ds := []) #[false, false, false, false, false, false, false] (by kernel_rfl) rfl rfl ((H3.out.below (Below.refl _ _).drew).cell) (fun hHeld => ?_)
    have H4 := Lib.hid (H3.out.below (Below.refl w3.heap.size w3).drew)
    generalize w3.drew = w4 at H4 hHeld ⊢
    refine pure_ (i := 0) (N := some 115) (v := ?_) (a' := ?_) #[true, false, false, false, false, false, false] rfl rfl (by kernel_rfl) (fun _ _ _ h => h) (Or.inl ⟨by rfl, ?_⟩) ?_ ?_
    rotate_left
    · intro w'
      go_simp
      with_reducible rfl
    rotate_left
    · simp only [Act.put, List.setIfInBounds_toArray, List.set_cons_zero, List.set_cons_succ, i64_w, i32_w]
      rfl
    refine pure_ (i := 1) (N := some 116) (v := ?_) (a' := ?_) #[true, true, false, false, false, false, false] rfl rfl (by kernel_rfl) (fun _ _ _ h => h) (Or.inl ⟨by rfl, ?_⟩) ?_ ?_
    rotate_left
    · intro w'
      go_simp
      with_reducible rfl
    rotate_left
    · simp only [Act.put, List.setIfInBounds_toArray, List.set_cons_zero, List.set_cons_succ, i64_w, i32_w]
      rfl
    refine pure_ (i := 2) (N := some 117) (v := ?_) (a' := ?_) #[true, true, true, false, false, false, false] rfl rfl (by kernel_rfl) (fun _ _ _ h => h) (Or.inl ⟨by rfl, ?_⟩) ?_ ?_
    rotate_left
    · intro w'
      go_simp
      with_reducible rfl
    rotate_left
    · simp only [Act.put, List.setIfInBounds_toArray, List.set_cons_zero, List.set_cons_succ, i64_w, i32_w]
      rfl
    refine take_ (i := 3) (N := some 118) (v := ?_) (a' := ?_) #[true, true, true, true, false, false, false] rfl rfl (by kernel_rfl) (fun _ _ _ h => h) (Or.inl ⟨by rfl, ?_⟩) hHeld ?_ ?_
    rotate_left
    · intro w' hS
      obtain ⟨z0, _, z1, _, z2, _, z3, _⟩ := blk4 hS.1
      go_simp
      with_reducible rfl
    rotate_left
    · simp only [Act.put, List.setIfInBounds_toArray, List.set_cons_zero, List.set_cons_succ, i64_w, i32_w]
      rfl
    refine pure_ (i := 4) (N := some 119) (v := ?_) (a' := ?_) #[true, true, true, true, true, false, false] rfl rfl (by kernel_rfl) (fun _ _ _ h => h) (Or.inl ⟨by rfl, ?_⟩) ?_ ?_
    rotate_left
    · intro w'
      go_simp
      with_reducible rfl
    rotate_left
    · simp only [Act.put, List.setIfInBounds_toArray, List.set_cons_zero, List.set_cons_succ, i64_w, i32_w]
      rfl
    refine take_ (i := 5) (N := some 120) (v := ?_) (a' := ?_) #[true, true, true, true, true, true, false] rfl rfl (by kernel_rfl) (fun _ _ _ h => h) (Or.inl ⟨by rfl, ?_⟩) hHeld ?_ ?_
    rotate_left
    · intro w' hS
      have z0 : w'.cell? ⟨g, 2, none⟩ = some (.int .u64 keep) := (cell_at hS.2 2).trans rfl
      go_simp
      with_reducible rfl
    rotate_left
    · simp only [Act.put, List.setIfInBounds_toArray, List.set_cons_zero, List.set_cons_succ, i64_w, i32_w]
      rfl
    refine one_ (i := 6) (N := some 121) #[true, true, true, true, true, true, true] rfl rfl (by kernel_rfl) (by decide) (fun K hK => ?_)
    refine goes_ Try.func42 (by kernel_rfl) rfl #[.pointer (some ⟨p2, 0, none⟩), .int .u64 keep] (by rfl) rfl rfl (by (try simp only [List.map_toArray, List.map_cons, List.map_nil]); first | done | rfl) ?_
    refine (two_rcrash H4.out keep hk0 hk1 (by omega)).mono ?_
    rintro e w5 ⟨rfl, h⟩
    have H5 := Lib.hid h
    clear h
    refine ⟨_, rfl, ?_⟩
    refine hK.out _ _ H5.out.cell (fun hHeld => ?_)
    clear hK K
    refine norm_ (a' := ?_) ?_ ?_
    rotate_left
    · show Act.put _ (some 121) _ = _
      simp only [Act.put, List.setIfInBounds_toArray, List.set_cons_zero, List.set_cons_succ, i64_w, i32_w]
      rfl
    refine done_ (by kernel_rfl) ?_
    go_wp2_with fail
    refine start_ (n := 8) (S := fun w' => bAt w' b p1 p2 vl vx ∧ w'.heap[g]? = some (.cells #[.int .i64 k, .int .i64 n, .int .u64 keep, .string s, .slice A bl.length cap] 63 (0, 0))) (ds := []) #[false, false, false, false, false, false, false, false] (by kernel_rfl) rfl rfl ((H5.out.below (Below.refl _ _).drew).cell) (fun hHeld => ?_)
    have H6 := Lib.hid (H5.out.below (Below.refl w5.heap.size w5).drew)
    generalize w5.drew = w6 at H6 hHeld ⊢
    refine pure_ (i := 0) (N := some 122) (v := ?_) (a' := ?_) #[true, false, false, false, false, false, false, false] rfl rfl (by kernel_rfl) (fun _ _ _ h => h) (Or.inl ⟨by rfl, ?_⟩) ?_ ?_
    rotate_left
    · intro w'
      go_simp
      with_reducible rfl
    rotate_left
    · simp only [Act.put, List.setIfInBounds_toArray, List.set_cons_zero, List.set_cons_succ, i64_w, i32_w]
      rfl
    refine pure_ (i := 1) (N := some 123) (v := ?_) (a' := ?_) #[true, true, false, false, false, false, false, false] rfl rfl (by kernel_rfl) (fun _ _ _ h => h) (Or.inl ⟨by rfl, ?_⟩) ?_ ?_
    rotate_left
    · intro w'
      go_simp
      with_reducible rfl
    rotate_left
    · simp only [Act.put, List.setIfInBounds_toArray, List.set_cons_zero, List.set_cons_succ, i64_w, i32_w]
      rfl
    refine pure_ (i := 2) (N := some 124) (v := ?_) (a' := ?_) #[true, true, true, false, false, false, false, false] rfl rfl (by kernel_rfl) (fun _ _ _ h => h) (Or.inl ⟨by rfl, ?_⟩) ?_ ?_
    rotate_left
    · intro w'
      go_simp
      with_reducible rfl
    rotate_left
    · simp only [Act.put, List.setIfInBounds_toArray, List.set_cons_zero, List.set_cons_succ, i64_w, i32_w]
      rfl
    refine take_ (i := 3) (N := some 125) (v := ?_) (a' := ?_) #[true, true, true, true, false, false, false, false] rfl rfl (by kernel_rfl) (fun _ _ _ h => h) (Or.inl ⟨by rfl, ?_⟩) hHeld ?_ ?_
    rotate_left
    · intro w' hS
      obtain ⟨z0, _, z1, _, z2, _, z3, _⟩ := blk4 hS.1
      go_simp
      with_reducible rfl
    rotate_left
    · simp only [Act.put, List.setIfInBounds_toArray, List.set_cons_zero, List.set_cons_succ, i64_w, i32_w]
      rfl
    refine pure_ (i := 4) (N := some 126) (v := ?_) (a' := ?_) #[true, true, true, true, true, false, false, false] rfl rfl (by kernel_rfl) (fun _ _ _ h => h) (Or.inl ⟨by rfl, ?_⟩) ?_ ?_
    rotate_left
    · intro w'
      go_simp
      with_reducible rfl
    rotate_left
    · simp only [Act.put, List.setIfInBounds_toArray, List.set_cons_zero, List.set_cons_succ, i64_w, i32_w]
      rfl
    refine take_ (i := 5) (N := some 127) (v := ?_) (a' := ?_) #[true, true, true, true, true, true, false, false] rfl rfl (by kernel_rfl) (fun _ _ _ h => h) (Or.inl ⟨by rfl, ?_⟩) hHeld ?_ ?_
    rotate_left
    · intro w' hS
      have z0 : w'.cell? ⟨g, 1, none⟩ = some (.int .i64 n) := (cell_at hS.2 1).trans rfl
      go_simp
      with_reducible rfl
    rotate_left
    · simp only [Act.put, List.setIfInBounds_toArray, List.set_cons_zero, List.set_cons_succ, i64_w, i32_w]
      rfl
    refine pure_ (i := 6) (N := some 128) (v := ?_) (a' := ?_) #[true, true, true, true, true, true, true, false] rfl rfl (by kernel_rfl) (fun _ _ _ h => h) (Or.inl ⟨by rfl, ?_⟩) ?_ ?_
    rotate_left
    · intro w'
      go_simp
      with_reducible rfl
    rotate_left
    · simp only [Act.put, List.setIfInBounds_toArray, List.set_cons_zero, List.set_cons_succ, i64_w, i32_w]
      rfl
    refine one_ (i := 7) (N := some 129) #[true, true, true, true, true, true, true, true] rfl rfl (by kernel_rfl) (by decide) (fun K hK => ?_)
    refine goes_ Try.func20 (by kernel_rfl) rfl #[.pointer (some ⟨p1, 0, none⟩), .int .i64 n8] (by rfl) rfl rfl (by (try simp only [List.map_toArray, List.map_cons, List.map_nil]); first | done | rfl) ?_
    refine (two_fuse H6.out n8 (by omega)).mono ?_
    rintro e w7 ⟨rfl, h⟩
    have H7 := Lib.hid h
    clear h
    refine ⟨_, rfl, ?_⟩
    refine hK.out _ _ H7.out.cell (fun hHeld => ?_)
    clear hK K
    refine norm_ (a' := ?_) ?_ ?_
    rotate_left
    · show Act.put _ (some 129) _ = _
      simp only [Act.put, List.setIfInBounds_toArray, List.set_cons_zero, List.set_cons_succ, i64_w, i32_w]
      rfl
    refine done_ (by kernel_rfl) ?_
    go_wp2_with fail
    refine start_ (n := 8) (S := fun w' => bAt w' b p1 p2 vl vx ∧ w'.heap[g]? = some (.cells #[.int .i64 k, .int .i64 n, .int .u64 keep, .string s, .slice A bl.length cap] 63 (0, 0))) (ds := []) #[false, false, false, false, false, false, false, false] (by kernel_rfl) rfl rfl ((H7.out.below (Below.refl _ _).drew).cell) (fun hHeld => ?_)
    have H8 := Lib.hid (H7.out.below (Below.refl w7.heap.size w7).drew)
    generalize w7.drew = w8 at H8 hHeld ⊢
    refine pure_ (i := 0) (N := some 130) (v := ?_) (a' := ?_) #[true, false, false, false, false, false, false, false] rfl rfl (by kernel_rfl) (fun _ _ _ h => h) (Or.inl ⟨by rfl, ?_⟩) ?_ ?_
    rotate_left
    · intro w'
      go_simp
      with_reducible rfl
    rotate_left
    · simp only [Act.put, List.setIfInBounds_toArray, List.set_cons_zero, List.set_cons_succ, i64_w, i32_w]
      rfl
    refine pure_ (i := 1) (N := some 131) (v := ?_) (a' := ?_) #[true, true, false, false, false, false, false, false] rfl rfl (by kernel_rfl) (fun _ _ _ h => h) (Or.inl ⟨by rfl, ?_⟩) ?_ ?_
    rotate_left
    · intro w'
      go_simp
      with_reducible rfl
    rotate_left
    · simp only [Act.put, List.setIfInBounds_toArray, List.set_cons_zero, List.set_cons_succ, i64_w, i32_w]
      rfl
    refine pure_ (i := 2) (N := some 132) (v := ?_) (a' := ?_) #[true, true, true, false, false, false, false, false] rfl rfl (by kernel_rfl) (fun _ _ _ h => h) (Or.inl ⟨by rfl, ?_⟩) ?_ ?_
    rotate_left
    · intro w'
      go_simp
      with_reducible rfl
    rotate_left
    · simp only [Act.put, List.setIfInBounds_toArray, List.set_cons_zero, List.set_cons_succ, i64_w, i32_w]
      rfl
    refine take_ (i := 3) (N := some 133) (v := ?_) (a' := ?_) #[true, true, true, true, false, false, false, false] rfl rfl (by kernel_rfl) (fun _ _ _ h => h) (Or.inl ⟨by rfl, ?_⟩) hHeld ?_ ?_
    rotate_left
    · intro w' hS
      obtain ⟨z0, _, z1, _, z2, _, z3, _⟩ := blk4 hS.1
      go_simp
      with_reducible rfl
    rotate_left
    · simp only [Act.put, List.setIfInBounds_toArray, List.set_cons_zero, List.set_cons_succ, i64_w, i32_w]
      rfl
    refine pure_ (i := 4) (N := some 134) (v := ?_) (a' := ?_) #[true, true, true, true, true, false, false, false] rfl rfl (by kernel_rfl) (fun _ _ _ h => h) (Or.inl ⟨by rfl, ?_⟩) ?_ ?_
    rotate_left
    · intro w'
      go_simp
      with_reducible rfl
    rotate_left
    · simp only [Act.put, List.setIfInBounds_toArray, List.set_cons_zero, List.set_cons_succ, i64_w, i32_w]
      rfl
    refine take_ (i := 5) (N := some 135) (v := ?_) (a' := ?_) #[true, true, true, true, true, true, false, false] rfl rfl (by kernel_rfl) (fun _ _ _ h => h) (Or.inl ⟨by rfl, ?_⟩) hHeld ?_ ?_
    rotate_left
    · intro w' hS
      have z0 : w'.cell? ⟨g, 1, none⟩ = some (.int .i64 n) := (cell_at hS.2 1).trans rfl
      go_simp
      with_reducible rfl
    rotate_left
    · simp only [Act.put, List.setIfInBounds_toArray, List.set_cons_zero, List.set_cons_succ, i64_w, i32_w]
      rfl
    refine pure_ (i := 6) (N := some 136) (v := ?_) (a' := ?_) #[true, true, true, true, true, true, true, false] rfl rfl (by kernel_rfl) (fun _ _ _ h => h) (Or.inl ⟨by rfl, ?_⟩) ?_ ?_
    rotate_left
    · intro w'
      go_simp
      with_reducible rfl
    rotate_left
    · simp only [Act.put, List.setIfInBounds_toArray, List.set_cons_zero, List.set_cons_succ, i64_w, i32_w]
      rfl
    refine one_ (i := 7) (N := some 137) #[true, true, true, true, true, true, true, true] rfl rfl (by kernel_rfl) (by decide) (fun K hK => ?_)
    refine goes_ Try.func41 (by kernel_rfl) rfl #[.pointer (some ⟨p2, 0, none⟩), .int .i64 n8] (by rfl) rfl rfl (by (try simp only [List.map_toArray, List.map_cons, List.map_nil]); first | done | rfl) ?_
    refine (two_light H8.out n8 (by omega) (by omega)).mono ?_
    rintro e w9 ⟨rfl, h⟩
    have H9 := Lib.hid h
    clear h
    refine ⟨_, rfl, ?_⟩
    refine hK.out _ _ H9.out.cell (fun hHeld => ?_)
    clear hK K
    refine norm_ (a' := ?_) ?_ ?_
    rotate_left
    · show Act.put _ (some 137) _ = _
      simp only [Act.put, List.setIfInBounds_toArray, List.set_cons_zero, List.set_cons_succ, i64_w, i32_w]
      rfl
    refine done_ (by kernel_rfl) ?_
    go_wp2_with fail
    refine (bopen_calls H9.out.one (by simp [Dv.crash, Dv.light])).mono ?_
    rintro e w10 ⟨rfl, h⟩
    have HE := Lib.hid h
    clear h
    go_wp2
    go_ret
    exact ⟨rfl, HE.out⟩
  by_cases k3 : kt = 3
  · rw [show actW d o k n keep s bl = (d, o) by unfold actW; rw [hkt, k3]; rfl]
    have t0 : (kt == 0) = false := by rw [k3]; rfl
    have u0 : (kt = 0) = False := eq_false (by omega)
    have t1 : (kt == 1) = false := by rw [k3]; rfl
    have u1 : (kt = 1) = False := eq_false (by omega)
    have t2 : (kt == 2) = false := by rw [k3]; rfl
    have u2 : (kt = 2) = False := eq_false (by omega)
    have t3 : (kt == 3) = true := by rw [k3]; rfl
    have u3 : (kt = 3) = True := eq_true (by omega)
    clear k3
    cases o with
    | none =>
      obtain ⟨rfl, rfl⟩ := PS2.none H1.out
      obtain ⟨x0, y0, x1, y1, x2, y2, x3, y3⟩ := blk4 H1.out.cell.1
      go_enter Try.func25, Try.ntmps25
      go_wp2_with (((with_reducible refine gate_dst (N := 3) rfl ?_); refine wpList_val rfl rfl (execOp_box rfl rfl HBX.out) ?_))
      go_ret
      exact ⟨rfl, H1.out.one⟩
    | some md =>
      obtain ⟨m, dd⟩ := md
      obtain ⟨q1, rfl, -⟩ := two_read H1.out
      obtain ⟨q2, rfl, -⟩ := two_rread H1.out
      obtain ⟨⟨rs, re⟩, hrr⟩ : ∃ r, readL d dd n = r := ⟨_, rfl⟩
      have hee : (re == re) = true := beq_self_eq_true _
      have hst : (rs.toList == rs.toList) = true := beq_self_eq_true _
      obtain ⟨x0, y0, x1, y1, x2, y2, x3, y3⟩ := blk4 H1.out.cell.1
      go_enter Try.func25, Try.ntmps25
      go_wp2_with (((with_reducible refine gate_dst (N := 3) rfl ?_); refine wpList_val rfl rfl (execOp_box rfl rfl HBX.out) ?_))
      clear x0 y0 x1 y1 x2 y2 x3 y3
      refine start_ (n := 12) (S := fun w' => bAt w' b p1 p2 (.pointer (some ⟨q1, 0, none⟩)) (.pointer (some ⟨q2, 0, none⟩)) ∧ w'.heap[g]? = some (.cells #[.int .i64 k, .int .i64 n, .int .u64 keep, .string s, .slice A bl.length cap] 63 (0, 0))) (ds := []) #[false, false, false, false, false, false, false, false, false, false, false, false] (by kernel_rfl) rfl rfl ((H1.out.below (Below.refl _ _).drew).cell) (fun hHeld => ?_)
      have H2 := Lib.hid (H1.out.below (Below.refl w1.heap.size w1).drew)
      generalize w1.drew = w2 at H2 hHeld ⊢
      obtain ⟨qx, hqx, hrd⟩ := two_read H2.out
      cases hqx
      have HRD := Lib.hid (hrd n)
      rw [hrr] at HRD
      clear hrd
      refine pure_ (i := 0) (N := some 79) (v := ?_) (a' := ?_) #[true, false, false, false, false, false, false, false, false, false, false, false] rfl rfl (by kernel_rfl) (fun _ _ _ h => h) (Or.inl ⟨by rfl, ?_⟩) ?_ ?_
      rotate_left
      · intro w'
        go_simp
        with_reducible rfl
      rotate_left
      · simp only [Act.put, List.setIfInBounds_toArray, List.set_cons_zero, List.set_cons_succ, i64_w, i32_w]
        rfl
      refine pure_ (i := 1) (N := some 80) (v := ?_) (a' := ?_) #[true, true, false, false, false, false, false, false, false, false, false, false] rfl rfl (by kernel_rfl) (fun _ _ _ h => h) (Or.inl ⟨by rfl, ?_⟩) ?_ ?_
      rotate_left
      · intro w'
        go_simp
        with_reducible rfl
      rotate_left
      · simp only [Act.put, List.setIfInBounds_toArray, List.set_cons_zero, List.set_cons_succ, i64_w, i32_w]
        rfl
      refine pure_ (i := 2) (N := some 81) (v := ?_) (a' := ?_) #[true, true, true, false, false, false, false, false, false, false, false, false] rfl rfl (by kernel_rfl) (fun _ _ _ h => h) (Or.inl ⟨by rfl, ?_⟩) ?_ ?_
      rotate_left
      · intro w'
        go_simp
        with_reducible rfl
      rotate_left
      · simp only [Act.put, List.setIfInBounds_toArray, List.set_cons_zero, List.set_cons_succ, i64_w, i32_w]
        rfl
      refine take_ (i := 3) (N := some 82) (v := ?_) (a' := ?_) #[true, true, true, true, false, false, false, false, false, false, false, false] rfl rfl (by kernel_rfl) (fun _ _ _ h => h) (Or.inl ⟨by rfl, ?_⟩) hHeld ?_ ?_
      rotate_left
      · intro w' hS
        obtain ⟨z0, _, z1, _, z2, _, z3, _⟩ := blk4 hS.1
        go_simp
        with_reducible rfl
      rotate_left
      · simp only [Act.put, List.setIfInBounds_toArray, List.set_cons_zero, List.set_cons_succ, i64_w, i32_w]
        rfl
      refine pure_ (i := 4) (N := some 83) (v := ?_) (a' := ?_) #[true, true, true, true, true, false, false, false, false, false, false, false] rfl rfl (by kernel_rfl) (fun _ _ _ h => h) (Or.inl ⟨by rfl, ?_⟩) ?_ ?_
      rotate_left
      · intro w'
        go_simp
        with_reducible rfl
      rotate_left
      · simp only [Act.put, List.setIfInBounds_toArray, List.set_cons_zero, List.set_cons_succ, i64_w, i32_w]
        rfl
      refine take_ (i := 5) (N := some 84) (v := ?_) (a' := ?_) #[true, true, true, true, true, true, false, false, false, false, false, false] rfl rfl (by kernel_rfl) (fun _ _ _ h => h) (Or.inl ⟨by rfl, ?_⟩) hHeld ?_ ?_
      rotate_left
      · intro w' hS
        have z0 : w'.cell? ⟨g, 1, none⟩ = some (.int .i64 n) := (cell_at hS.2 1).trans rfl
        go_simp
        with_reducible rfl
      rotate_left
      · simp only [Act.put, List.setIfInBounds_toArray, List.set_cons_zero, List.set_cons_succ, i64_w, i32_w]
        rfl
      refine one_ (i := 6) (N := some 85) #[true, true, true, true, true, true, true, false, false, false, false, false] rfl rfl (by kernel_rfl) (by decide) (fun K hK => ?_)
      refine goes_ Try.func16 (by kernel_rfl) rfl #[.pointer (some ⟨q1, 0, none⟩), .int .i64 n] (by rfl) rfl rfl (by (try simp only [List.map_toArray, List.map_cons, List.map_nil]); first | done | rfl) ?_
      refine (HRD.out).mono ?_
      rintro e w3 ⟨rfl, h⟩
      have H3 := Lib.hid h
      clear h
      refine ⟨_, rfl, ?_⟩
      refine hK.out _ _ H3.out.cell (fun hHeld => ?_)
      clear hK K
      refine norm_ (a' := ?_) ?_ ?_
      rotate_left
      · show Act.put _ (some 85) _ = _
        simp only [Act.put, List.setIfInBounds_toArray, List.set_cons_zero, List.set_cons_succ, i64_w, i32_w]
        rfl
      refine pure_ (i := 7) (N := some 78) (v := ?_) (a' := ?_) #[true, true, true, true, true, true, true, true, false, false, false, false] rfl rfl (by kernel_rfl) (fun _ _ _ h => h) (Or.inl ⟨by rfl, ?_⟩) ?_ ?_
      rotate_left
      · intro w'
        go_simp
        with_reducible rfl
      rotate_left
      · simp only [Act.put, List.setIfInBounds_toArray, List.set_cons_zero, List.set_cons_succ, i64_w, i32_w]
        rfl
      refine pure_ (i := 8) (N := some 86) (v := ?_) (a' := ?_) #[true, true, true, true, true, true, true, true, true, false, false, false] rfl rfl (by kernel_rfl) (fun _ _ _ h => h) (Or.inl ⟨by rfl, ?_⟩) ?_ ?_
      rotate_left
      · intro w'
        go_simp
        with_reducible rfl
      rotate_left
      · simp only [Act.put, List.setIfInBounds_toArray, List.set_cons_zero, List.set_cons_succ, i64_w, i32_w]
        rfl
      refine pure_ (i := 10) (N := some 5) (v := ?_) (a' := ?_) #[true, true, true, true, true, true, true, true, true, false, true, false] rfl rfl (by kernel_rfl) (fun _ _ _ h => h) (Or.inl ⟨by rfl, ?_⟩) ?_ ?_
      rotate_left
      · intro w'
        go_simp
        with_reducible rfl
      rotate_left
      · simp only [Act.put, List.setIfInBounds_toArray, List.set_cons_zero, List.set_cons_succ, i64_w, i32_w]
        rfl
      refine pure_ (i := 9) (N := some 87) (v := ?_) (a' := ?_) #[true, true, true, true, true, true, true, true, true, true, true, false] rfl rfl (by kernel_rfl) (fun _ _ _ h => h) (Or.inl ⟨by rfl, ?_⟩) ?_ ?_
      rotate_left
      · intro w'
        go_simp
        with_reducible rfl
      rotate_left
      · simp only [Act.put, List.setIfInBounds_toArray, List.set_cons_zero, List.set_cons_succ, i64_w, i32_w]
        rfl
      refine pure_ (i := 11) (N := some 6) (v := ?_) (a' := ?_) #[true, true, true, true, true, true, true, true, true, true, true, true] rfl rfl (by kernel_rfl) (fun _ _ _ h => h) (Or.inl ⟨by rfl, ?_⟩) ?_ ?_
      rotate_left
      · intro w'
        go_simp
        with_reducible rfl
      rotate_left
      · simp only [Act.put, List.setIfInBounds_toArray, List.set_cons_zero, List.set_cons_succ, i64_w, i32_w]
        rfl
      refine done_ (by kernel_rfl) ?_
      go_wp2_with fail
      refine start_ (n := 12) (S := fun w' => bAt w' b p1 p2 (.pointer (some ⟨q1, 0, none⟩)) (.pointer (some ⟨q2, 0, none⟩)) ∧ w'.heap[g]? = some (.cells #[.int .i64 k, .int .i64 n, .int .u64 keep, .string s, .slice A bl.length cap] 63 (0, 0))) (ds := []) #[false, false, false, false, false, false, false, false, false, false, false, false] (by kernel_rfl) rfl rfl ((H3.out.below (Below.refl _ _).drew).cell) (fun hHeld => ?_)
      have H4 := Lib.hid (H3.out.below (Below.refl w3.heap.size w3).drew)
      generalize w3.drew = w4 at H4 hHeld ⊢
      obtain ⟨qx, hqx, hrd⟩ := two_rread H4.out
      cases hqx
      have HRD2 := Lib.hid (hrd n (by omega) (h41.resolve_left (by simp)))
      rw [hrr] at HRD2
      clear hrd
      refine pure_ (i := 0) (N := some 89) (v := ?_) (a' := ?_) #[true, false, false, false, false, false, false, false, false, false, false, false] rfl rfl (by kernel_rfl) (fun _ _ _ h => h) (Or.inl ⟨by rfl, ?_⟩) ?_ ?_
      rotate_left
      · intro w'
        go_simp
        with_reducible rfl
      rotate_left
      · simp only [Act.put, List.setIfInBounds_toArray, List.set_cons_zero, List.set_cons_succ, i64_w, i32_w]
        rfl
      refine pure_ (i := 1) (N := some 90) (v := ?_) (a' := ?_) #[true, true, false, false, false, false, false, false, false, false, false, false] rfl rfl (by kernel_rfl) (fun _ _ _ h => h) (Or.inl ⟨by rfl, ?_⟩) ?_ ?_
      rotate_left
      · intro w'
        go_simp
        with_reducible rfl
      rotate_left
      · simp only [Act.put, List.setIfInBounds_toArray, List.set_cons_zero, List.set_cons_succ, i64_w, i32_w]
        rfl
      refine pure_ (i := 2) (N := some 91) (v := ?_) (a' := ?_) #[true, true, true, false, false, false, false, false, false, false, false, false] rfl rfl (by kernel_rfl) (fun _ _ _ h => h) (Or.inl ⟨by rfl, ?_⟩) ?_ ?_
      rotate_left
      · intro w'
        go_simp
        with_reducible rfl
      rotate_left
      · simp only [Act.put, List.setIfInBounds_toArray, List.set_cons_zero, List.set_cons_succ, i64_w, i32_w]
        rfl
      refine take_ (i := 3) (N := some 92) (v := ?_) (a' := ?_) #[true, true, true, true, false, false, false, false, false, false, false, false] rfl rfl (by kernel_rfl) (fun _ _ _ h => h) (Or.inl ⟨by rfl, ?_⟩) hHeld ?_ ?_
      rotate_left
      · intro w' hS
        obtain ⟨z0, _, z1, _, z2, _, z3, _⟩ := blk4 hS.1
        go_simp
        with_reducible rfl
      rotate_left
      · simp only [Act.put, List.setIfInBounds_toArray, List.set_cons_zero, List.set_cons_succ, i64_w, i32_w]
        rfl
      refine pure_ (i := 4) (N := some 93) (v := ?_) (a' := ?_) #[true, true, true, true, true, false, false, false, false, false, false, false] rfl rfl (by kernel_rfl) (fun _ _ _ h => h) (Or.inl ⟨by rfl, ?_⟩) ?_ ?_
      rotate_left
      · intro w'
        go_simp
        with_reducible rfl
      rotate_left
      · simp only [Act.put, List.setIfInBounds_toArray, List.set_cons_zero, List.set_cons_succ, i64_w, i32_w]
        rfl
      refine take_ (i := 5) (N := some 94) (v := ?_) (a' := ?_) #[true, true, true, true, true, true, false, false, false, false, false, false] rfl rfl (by kernel_rfl) (fun _ _ _ h => h) (Or.inl ⟨by rfl, ?_⟩) hHeld ?_ ?_
      rotate_left
      · intro w' hS
        have z0 : w'.cell? ⟨g, 1, none⟩ = some (.int .i64 n) := (cell_at hS.2 1).trans rfl
        go_simp
        with_reducible rfl
      rotate_left
      · simp only [Act.put, List.setIfInBounds_toArray, List.set_cons_zero, List.set_cons_succ, i64_w, i32_w]
        rfl
      refine one_ (i := 6) (N := some 95) #[true, true, true, true, true, true, true, false, false, false, false, false] rfl rfl (by kernel_rfl) (by decide) (fun K hK => ?_)
      refine goes_ Try.func43 (by kernel_rfl) rfl #[.pointer (some ⟨q2, 0, none⟩), .int .i64 n] (by rfl) rfl rfl (by (try simp only [List.map_toArray, List.map_cons, List.map_nil]); first | done | rfl) ?_
      refine (HRD2.out).mono ?_
      rintro e w5 ⟨rfl, h⟩
      have H5 := Lib.hid h
      clear h
      refine ⟨_, rfl, ?_⟩
      refine hK.out _ _ H5.out.cell (fun hHeld => ?_)
      clear hK K
      refine norm_ (a' := ?_) ?_ ?_
      rotate_left
      · show Act.put _ (some 95) _ = _
        simp only [Act.put, List.setIfInBounds_toArray, List.set_cons_zero, List.set_cons_succ, i64_w, i32_w]
        rfl
      refine pure_ (i := 7) (N := some 88) (v := ?_) (a' := ?_) #[true, true, true, true, true, true, true, true, false, false, false, false] rfl rfl (by kernel_rfl) (fun _ _ _ h => h) (Or.inl ⟨by rfl, ?_⟩) ?_ ?_
      rotate_left
      · intro w'
        go_simp
        with_reducible rfl
      rotate_left
      · simp only [Act.put, List.setIfInBounds_toArray, List.set_cons_zero, List.set_cons_succ, i64_w, i32_w]
        rfl
      refine pure_ (i := 8) (N := some 96) (v := ?_) (a' := ?_) #[true, true, true, true, true, true, true, true, true, false, false, false] rfl rfl (by kernel_rfl) (fun _ _ _ h => h) (Or.inl ⟨by rfl, ?_⟩) ?_ ?_
      rotate_left
      · intro w'
        go_simp
        with_reducible rfl
      rotate_left
      · simp only [Act.put, List.setIfInBounds_toArray, List.set_cons_zero, List.set_cons_succ, i64_w, i32_w]
        rfl
      refine pure_ (i := 10) (N := some 7) (v := ?_) (a' := ?_) #[true, true, true, true, true, true, true, true, true, false, true, false] rfl rfl (by kernel_rfl) (fun _ _ _ h => h) (Or.inl ⟨by rfl, ?_⟩) ?_ ?_
      rotate_left
      · intro w'
        go_simp
        with_reducible rfl
      rotate_left
      · simp only [Act.put, List.setIfInBounds_toArray, List.set_cons_zero, List.set_cons_succ, i64_w, i32_w]
        rfl
      refine pure_ (i := 9) (N := some 97) (v := ?_) (a' := ?_) #[true, true, true, true, true, true, true, true, true, true, true, false] rfl rfl (by kernel_rfl) (fun _ _ _ h => h) (Or.inl ⟨by rfl, ?_⟩) ?_ ?_
      rotate_left
      · intro w'
        go_simp
        with_reducible rfl
      rotate_left
      · simp only [Act.put, List.setIfInBounds_toArray, List.set_cons_zero, List.set_cons_succ, i64_w, i32_w]
        rfl
      refine pure_ (i := 11) (N := some 8) (v := ?_) (a' := ?_) #[true, true, true, true, true, true, true, true, true, true, true, true] rfl rfl (by kernel_rfl) (fun _ _ _ h => h) (Or.inl ⟨by rfl, ?_⟩) ?_ ?_
      rotate_left
      · intro w'
        go_simp
        with_reducible rfl
      rotate_left
      · simp only [Act.put, List.setIfInBounds_toArray, List.set_cons_zero, List.set_cons_succ, i64_w, i32_w]
        rfl
      refine done_ (by kernel_rfl) ?_
      go_wp2
      go_ret
      exact ⟨rfl, H5.out.one⟩
  by_cases k5 : kt = 5
  · rw [show actW d o k n keep s bl = ((d.write n (wholeR s)).2, o) by unfold actW; rw [hkt, k5]; rfl]
    obtain ⟨ki, hki⟩ := whole_any s
    have HWH := Lib.hid (fun W => (lamellalaw04_whole.calls ki s (wholeR s) W hki).mono fun e w' ⟨he, hd⟩ => (And.intro he hd.below : _ ∧ Below W.heap.size W w'))
    obtain ⟨ws, hws⟩ : ∃ m, wholeR s = m := ⟨_, rfl⟩
    rw [hws] at HWH ⊢
    obtain ⟨⟨ew, dw⟩, hdw⟩ : ∃ r, d.write n ws = r := ⟨_, rfl⟩
    rw [hdw]
    have hee : (ew == ew) = true := by simp
    have t0 : (kt == 0) = false := by rw [k5]; rfl
    have u0 : (kt = 0) = False := eq_false (by omega)
    have t1 : (kt == 1) = false := by rw [k5]; rfl
    have u1 : (kt = 1) = False := eq_false (by omega)
    have t2 : (kt == 2) = false := by rw [k5]; rfl
    have u2 : (kt = 2) = False := eq_false (by omega)
    have t3 : (kt == 3) = false := by rw [k5]; rfl
    have u3 : (kt = 3) = False := eq_false (by omega)
    have t4 : (kt == 4) = false := by rw [k5]; rfl
    have u4 : (kt = 4) = False := eq_false (by omega)
    have t5 : (kt == 5) = true := by rw [k5]; rfl
    have u5 : (kt = 5) = True := eq_true (by omega)
    clear k5
    go_enter Try.func25, Try.ntmps25
    go_wp2_with (((with_reducible refine gate_dst (N := 3) rfl ?_); refine wpList_val rfl rfl (execOp_box rfl rfl HBX.out) ?_))
    refine start_ (n := 11) (S := fun w' => bAt w' b p1 p2 vl vx ∧ w'.heap[g]? = some (.cells #[.int .i64 k, .int .i64 n, .int .u64 keep, .string s, .slice A bl.length cap] 63 (0, 0))) (ds := []) #[false, false, false, false, false, false, false, false, false, false, false] (by kernel_rfl) rfl rfl ((H1.out.below (Below.refl _ _).drew).cell) (fun hHeld => ?_)
    have H2 := Lib.hid (H1.out.below (Below.refl w1.heap.size w1).drew)
    generalize w1.drew = w2 at H2 hHeld ⊢
    refine pure_ (i := 0) (N := some 142) (v := ?_) (a' := ?_) #[true, false, false, false, false, false, false, false, false, false, false] rfl rfl (by kernel_rfl) (fun _ _ _ h => h) (Or.inl ⟨by rfl, ?_⟩) ?_ ?_
    rotate_left
    · intro w'
      go_simp
      with_reducible rfl
    rotate_left
    · simp only [Act.put, List.setIfInBounds_toArray, List.set_cons_zero, List.set_cons_succ, i64_w, i32_w]
      rfl
    refine pure_ (i := 1) (N := some 143) (v := ?_) (a' := ?_) #[true, true, false, false, false, false, false, false, false, false, false] rfl rfl (by kernel_rfl) (fun _ _ _ h => h) (Or.inl ⟨by rfl, ?_⟩) ?_ ?_
    rotate_left
    · intro w'
      go_simp
      with_reducible rfl
    rotate_left
    · simp only [Act.put, List.setIfInBounds_toArray, List.set_cons_zero, List.set_cons_succ, i64_w, i32_w]
      rfl
    refine pure_ (i := 2) (N := some 144) (v := ?_) (a' := ?_) #[true, true, true, false, false, false, false, false, false, false, false] rfl rfl (by kernel_rfl) (fun _ _ _ h => h) (Or.inl ⟨by rfl, ?_⟩) ?_ ?_
    rotate_left
    · intro w'
      go_simp
      with_reducible rfl
    rotate_left
    · simp only [Act.put, List.setIfInBounds_toArray, List.set_cons_zero, List.set_cons_succ, i64_w, i32_w]
      rfl
    refine take_ (i := 3) (N := some 145) (v := ?_) (a' := ?_) #[true, true, true, true, false, false, false, false, false, false, false] rfl rfl (by kernel_rfl) (fun _ _ _ h => h) (Or.inl ⟨by rfl, ?_⟩) hHeld ?_ ?_
    rotate_left
    · intro w' hS
      obtain ⟨z0, _, z1, _, z2, _, z3, _⟩ := blk4 hS.1
      go_simp
      with_reducible rfl
    rotate_left
    · simp only [Act.put, List.setIfInBounds_toArray, List.set_cons_zero, List.set_cons_succ, i64_w, i32_w]
      rfl
    refine pure_ (i := 4) (N := some 146) (v := ?_) (a' := ?_) #[true, true, true, true, true, false, false, false, false, false, false] rfl rfl (by kernel_rfl) (fun _ _ _ h => h) (Or.inl ⟨by rfl, ?_⟩) ?_ ?_
    rotate_left
    · intro w'
      go_simp
      with_reducible rfl
    rotate_left
    · simp only [Act.put, List.setIfInBounds_toArray, List.set_cons_zero, List.set_cons_succ, i64_w, i32_w]
      rfl
    refine take_ (i := 5) (N := some 147) (v := ?_) (a' := ?_) #[true, true, true, true, true, true, false, false, false, false, false] rfl rfl (by kernel_rfl) (fun _ _ _ h => h) (Or.inl ⟨by rfl, ?_⟩) hHeld ?_ ?_
    rotate_left
    · intro w' hS
      have z0 : w'.cell? ⟨g, 1, none⟩ = some (.int .i64 n) := (cell_at hS.2 1).trans rfl
      go_simp
      with_reducible rfl
    rotate_left
    · simp only [Act.put, List.setIfInBounds_toArray, List.set_cons_zero, List.set_cons_succ, i64_w, i32_w]
      rfl
    refine pure_ (i := 6) (N := some 148) (v := ?_) (a' := ?_) #[true, true, true, true, true, true, true, false, false, false, false] rfl rfl (by kernel_rfl) (fun _ _ _ h => h) (Or.inl ⟨by rfl, ?_⟩) ?_ ?_
    rotate_left
    · intro w'
      go_simp
      with_reducible rfl
    rotate_left
    · simp only [Act.put, List.setIfInBounds_toArray, List.set_cons_zero, List.set_cons_succ, i64_w, i32_w]
      rfl
    refine take_ (i := 7) (N := some 149) (v := ?_) (a' := ?_) #[true, true, true, true, true, true, true, true, false, false, false] rfl rfl (by kernel_rfl) (fun _ _ _ h => h) (Or.inl ⟨by rfl, ?_⟩) hHeld ?_ ?_
    rotate_left
    · intro w' hS
      have z0 : w'.cell? ⟨g, 3, none⟩ = some (.string s) := (cell_at hS.2 3).trans rfl
      go_simp
      with_reducible rfl
    rotate_left
    · simp only [Act.put, List.setIfInBounds_toArray, List.set_cons_zero, List.set_cons_succ, i64_w, i32_w]
      rfl
    refine one_ (i := 8) (N := some 150) #[true, true, true, true, true, true, true, true, true, false, false] rfl rfl (by kernel_rfl) (by decide) (fun K hK => ?_)
    refine goes_ Try.func19 (by kernel_rfl) rfl #[.string s] (by rfl) rfl rfl (by (try simp only [List.map_toArray, List.map_cons, List.map_nil]); first | done | rfl) ?_
    refine (HWH.out _).mono ?_
    rintro e w3 ⟨rfl, hb⟩
    have H3 := Lib.hid (H2.out.below hb)
    clear hb
    refine ⟨_, rfl, ?_⟩
    refine hK.out _ _ H3.out.cell (fun hHeld => ?_)
    clear hK K
    refine norm_ (a' := ?_) ?_ ?_
    rotate_left
    · show Act.put _ (some 150) _ = _
      simp only [Act.put, List.setIfInBounds_toArray, List.set_cons_zero, List.set_cons_succ, i64_w, i32_w]
      rfl
    have HWR := Lib.hid (two_write H3.out n ws (by omega))
    rw [hdw] at HWR
    refine one_ (i := 9) (N := some 151) #[true, true, true, true, true, true, true, true, true, true, false] rfl rfl (by kernel_rfl) (by decide) (fun K hK => ?_)
    refine goes_ Try.func32 (by kernel_rfl) rfl #[.pointer (some ⟨p1, 0, none⟩), .int .i64 n, .string ws] (by rfl) rfl rfl (by (try simp only [List.map_toArray, List.map_cons, List.map_nil]); first | done | rfl) ?_
    refine (HWR.out).mono ?_
    rintro e w4 ⟨rfl, h⟩
    have H4 := Lib.hid h
    clear h
    refine ⟨_, rfl, ?_⟩
    refine hK.out _ _ H4.out.cell (fun hHeld => ?_)
    clear hK K
    refine norm_ (a' := ?_) ?_ ?_
    rotate_left
    · show Act.put _ (some 151) _ = _
      simp only [Act.put, List.setIfInBounds_toArray, List.set_cons_zero, List.set_cons_succ, i64_w, i32_w]
      rfl
    refine pure_ (i := 10) (N := some 9) (v := ?_) (a' := ?_) #[true, true, true, true, true, true, true, true, true, true, true] rfl rfl (by kernel_rfl) (fun _ _ _ h => h) (Or.inl ⟨by rfl, ?_⟩) ?_ ?_
    rotate_left
    · intro w'
      go_simp
      with_reducible rfl
    rotate_left
    · simp only [Act.put, List.setIfInBounds_toArray, List.set_cons_zero, List.set_cons_succ, i64_w, i32_w]
      rfl
    refine done_ (by kernel_rfl) ?_
    go_wp2_with fail
    refine start_ (n := 13) (S := fun w' => bAt w' b p1 p2 vl vx ∧ w'.heap[g]? = some (.cells #[.int .i64 k, .int .i64 n, .int .u64 keep, .string s, .slice A bl.length cap] 63 (0, 0))) (ds := []) #[false, false, false, false, false, false, false, false, false, false, false, false, false] (by kernel_rfl) rfl rfl ((H4.out.below (Below.refl _ _).drew).cell) (fun hHeld => ?_)
    have H5 := Lib.hid (H4.out.below (Below.refl w4.heap.size w4).drew)
    generalize w4.drew = w5 at H5 hHeld ⊢
    refine pure_ (i := 0) (N := some 152) (v := ?_) (a' := ?_) #[true, false, false, false, false, false, false, false, false, false, false, false, false] rfl rfl (by kernel_rfl) (fun _ _ _ h => h) (Or.inl ⟨by rfl, ?_⟩) ?_ ?_
    rotate_left
    · intro w'
      go_simp
      with_reducible rfl
    rotate_left
    · simp only [Act.put, List.setIfInBounds_toArray, List.set_cons_zero, List.set_cons_succ, i64_w, i32_w]
      rfl
    refine pure_ (i := 1) (N := some 153) (v := ?_) (a' := ?_) #[true, true, false, false, false, false, false, false, false, false, false, false, false] rfl rfl (by kernel_rfl) (fun _ _ _ h => h) (Or.inl ⟨by rfl, ?_⟩) ?_ ?_
    rotate_left
    · intro w'
      go_simp
      with_reducible rfl
    rotate_left
    · simp only [Act.put, List.setIfInBounds_toArray, List.set_cons_zero, List.set_cons_succ, i64_w, i32_w]
      rfl
    refine pure_ (i := 2) (N := some 154) (v := ?_) (a' := ?_) #[true, true, true, false, false, false, false, false, false, false, false, false, false] rfl rfl (by kernel_rfl) (fun _ _ _ h => h) (Or.inl ⟨by rfl, ?_⟩) ?_ ?_
    rotate_left
    · intro w'
      go_simp
      with_reducible rfl
    rotate_left
    · simp only [Act.put, List.setIfInBounds_toArray, List.set_cons_zero, List.set_cons_succ, i64_w, i32_w]
      rfl
    refine pure_ (i := 3) (N := some 155) (v := ?_) (a' := ?_) #[true, true, true, true, false, false, false, false, false, false, false, false, false] rfl rfl (by kernel_rfl) (fun _ _ _ h => h) (Or.inl ⟨by rfl, ?_⟩) ?_ ?_
    rotate_left
    · intro w'
      go_simp
      with_reducible rfl
    rotate_left
    · simp only [Act.put, List.setIfInBounds_toArray, List.set_cons_zero, List.set_cons_succ, i64_w, i32_w]
      rfl
    refine take_ (i := 4) (N := some 156) (v := ?_) (a' := ?_) #[true, true, true, true, true, false, false, false, false, false, false, false, false] rfl rfl (by kernel_rfl) (fun _ _ _ h => h) (Or.inl ⟨by rfl, ?_⟩) hHeld ?_ ?_
    rotate_left
    · intro w' hS
      obtain ⟨z0, _, z1, _, z2, _, z3, _⟩ := blk4 hS.1
      go_simp
      with_reducible rfl
    rotate_left
    · simp only [Act.put, List.setIfInBounds_toArray, List.set_cons_zero, List.set_cons_succ, i64_w, i32_w]
      rfl
    refine pure_ (i := 5) (N := some 157) (v := ?_) (a' := ?_) #[true, true, true, true, true, true, false, false, false, false, false, false, false] rfl rfl (by kernel_rfl) (fun _ _ _ h => h) (Or.inl ⟨by rfl, ?_⟩) ?_ ?_
    rotate_left
    · intro w'
      go_simp
      with_reducible rfl
    rotate_left
    · simp only [Act.put, List.setIfInBounds_toArray, List.set_cons_zero, List.set_cons_succ, i64_w, i32_w]
      rfl
    refine take_ (i := 6) (N := some 158) (v := ?_) (a' := ?_) #[true, true, true, true, true, true, true, false, false, false, false, false, false] rfl rfl (by kernel_rfl) (fun _ _ _ h => h) (Or.inl ⟨by rfl, ?_⟩) hHeld ?_ ?_
    rotate_left
    · intro w' hS
      have z0 : w'.cell? ⟨g, 1, none⟩ = some (.int .i64 n) := (cell_at hS.2 1).trans rfl
      go_simp
      with_reducible rfl
    rotate_left
    · simp only [Act.put, List.setIfInBounds_toArray, List.set_cons_zero, List.set_cons_succ, i64_w, i32_w]
      rfl
    refine pure_ (i := 7) (N := some 159) (v := ?_) (a' := ?_) #[true, true, true, true, true, true, true, true, false, false, false, false, false] rfl rfl (by kernel_rfl) (fun _ _ _ h => h) (Or.inl ⟨by rfl, ?_⟩) ?_ ?_
    rotate_left
    · intro w'
      go_simp
      with_reducible rfl
    rotate_left
    · simp only [Act.put, List.setIfInBounds_toArray, List.set_cons_zero, List.set_cons_succ, i64_w, i32_w]
      rfl
    refine take_ (i := 8) (N := some 160) (v := ?_) (a' := ?_) #[true, true, true, true, true, true, true, true, true, false, false, false, false] rfl rfl (by kernel_rfl) (fun _ _ _ h => h) (Or.inl ⟨by rfl, ?_⟩) hHeld ?_ ?_
    rotate_left
    · intro w' hS
      have z0 : w'.cell? ⟨g, 3, none⟩ = some (.string s) := (cell_at hS.2 3).trans rfl
      go_simp
      with_reducible rfl
    rotate_left
    · simp only [Act.put, List.setIfInBounds_toArray, List.set_cons_zero, List.set_cons_succ, i64_w, i32_w]
      rfl
    refine one_ (i := 9) (N := some 161) #[true, true, true, true, true, true, true, true, true, true, false, false, false] rfl rfl (by kernel_rfl) (by decide) (fun K hK => ?_)
    refine goes_ Try.func19 (by kernel_rfl) rfl #[.string s] (by rfl) rfl rfl (by (try simp only [List.map_toArray, List.map_cons, List.map_nil]); first | done | rfl) ?_
    refine (HWH.out _).mono ?_
    rintro e w6 ⟨rfl, hb⟩
    have H6 := Lib.hid (H5.out.below hb)
    clear hb
    refine ⟨_, rfl, ?_⟩
    refine hK.out _ _ H6.out.cell (fun hHeld => ?_)
    clear hK K
    refine norm_ (a' := ?_) ?_ ?_
    rotate_left
    · show Act.put _ (some 161) _ = _
      simp only [Act.put, List.setIfInBounds_toArray, List.set_cons_zero, List.set_cons_succ, i64_w, i32_w]
      rfl
    have HWR2 := Lib.hid (two_rwrite H6.out n ws (by omega))
    rw [hdw] at HWR2
    refine one_ (i := 10) (N := some 162) #[true, true, true, true, true, true, true, true, true, true, true, false, false] rfl rfl (by kernel_rfl) (by decide) (fun K hK => ?_)
    refine goes_ Try.func44 (by kernel_rfl) rfl #[.pointer (some ⟨p2, 0, none⟩), .int .i64 n, .string ws] (by rfl) rfl rfl (by (try simp only [List.map_toArray, List.map_cons, List.map_nil]); first | done | rfl) ?_
    refine (HWR2.out).mono ?_
    rintro e w7 ⟨rfl, h⟩
    have H7 := Lib.hid h
    clear h
    refine ⟨_, rfl, ?_⟩
    refine hK.out _ _ H7.out.cell (fun hHeld => ?_)
    clear hK K
    refine norm_ (a' := ?_) ?_ ?_
    rotate_left
    · show Act.put _ (some 162) _ = _
      simp only [Act.put, List.setIfInBounds_toArray, List.set_cons_zero, List.set_cons_succ, i64_w, i32_w]
      rfl
    refine pure_ (i := 11) (N := some 163) (v := ?_) (a' := ?_) #[true, true, true, true, true, true, true, true, true, true, true, true, false] rfl rfl (by kernel_rfl) (fun _ _ _ h => h) (Or.inl ⟨by rfl, ?_⟩) ?_ ?_
    rotate_left
    · intro w'
      go_simp
      with_reducible rfl
    rotate_left
    · simp only [Act.put, List.setIfInBounds_toArray, List.set_cons_zero, List.set_cons_succ, i64_w, i32_w]
      rfl
    refine pure_ (i := 12) (N := some 4) (v := ?_) (a' := ?_) #[true, true, true, true, true, true, true, true, true, true, true, true, true] rfl rfl (by kernel_rfl) (fun _ _ _ h => h) (Or.inl ⟨by rfl, ?_⟩) ?_ ?_
    rotate_left
    · intro w'
      go_simp
      with_reducible rfl
    rotate_left
    · simp only [Act.put, List.setIfInBounds_toArray, List.set_cons_zero, List.set_cons_succ, i64_w, i32_w]
      rfl
    refine done_ (by kernel_rfl) ?_
    go_wp2
    go_ret
    exact ⟨rfl, H7.out.one⟩
  rw [show actW d o k n keep s bl = (d, o) by unfold actW; rw [hkt, if_neg k0, if_neg k1, if_neg k2, if_neg k4, if_neg k5]]
  have t0 : (kt == 0) = false := beq_eq_false_iff_ne.mpr k0
  have u0 : (kt = 0) = False := eq_false k0
  have t1 : (kt == 1) = false := beq_eq_false_iff_ne.mpr k1
  have u1 : (kt = 1) = False := eq_false k1
  have t2 : (kt == 2) = false := beq_eq_false_iff_ne.mpr k2
  have u2 : (kt = 2) = False := eq_false k2
  have t3 : (kt == 3) = false := beq_eq_false_iff_ne.mpr k3
  have u3 : (kt = 3) = False := eq_false k3
  have t4 : (kt == 4) = false := beq_eq_false_iff_ne.mpr k4
  have u4 : (kt = 4) = False := eq_false k4
  have t5 : (kt == 5) = false := beq_eq_false_iff_ne.mpr k5
  have u5 : (kt = 5) = False := eq_false k5
  clear k0 k1 k2 k3 k4 k5
  go_enter Try.func25, Try.ntmps25
  go_wp2_with (((with_reducible refine gate_dst (N := 3) rfl ?_); refine wpList_val rfl rfl (execOp_box rfl rfl HBX.out) ?_))
  go_ret
  exact ⟨rfl, H1.out.one⟩
end Go.Proofs.Ytmdojgkgohmghaa.Wal
namespace Go.Proofs.Ytmdojgkgohmghaa.Wal
open Go.RowKit Go.Own Go.Blk Go.DevL Go.XdrL Go.WalL Go.OpsL Go.Maps Go.Sees Go.Proofs.Ytmdojgkgohmghaa.P04 Go.Proofs.Ytmdojgkgohmghaa.Xdr Go.Proofs.YtmdojgkgohmghaaW.PrintLast Go.Proofs.YtmdojgkgohmghaaW.PrintWords
open Go.Proofs.Ytmdojgkgohmghaa.Dev hiding stop_here execOp_build execOp_alloc execOp_store execOp_load execOp_buildSlice execOp_makeSlice execOp_box execOp_copy execOp_append wpList_val wpList_none Up RAt
set_option linter.unusedVariables false
set_option linter.unusedSimpArgs false
set_option maxRecDepth 100000
theorem then_inv {P : Dv → Prop} {r : Int × Dv} {f : Dv → Int × Dv} (h : P r.2) (hf : ∀ d, P d → P (f d).2) : P (andThen r f).2 := by
  unfold andThen
  split
  · exact hf _ h
  · exact h
theorem wrs_inv {P : Dv → Prop} (hw : ∀ d i x, P d → P (d.write i x).2) : ∀ (l : List (Int × ByteArray)) (d : Dv), P d → P (WalL.wrs d l).2
  | [], d, h => h
  | x :: l, d, h => by
    simp only [WalL.wrs]
    split
    · exact wrs_inv hw l _ (hw _ _ _ h)
    · exact hw _ _ _ h
theorem commit_inv {P : Dv → Prop} (hw : ∀ d i x, P d → P (d.write i x).2) (hb : ∀ d, P d → P d.barrier.2) {d : Dv} (h : P d) (n : Nat) (b : List (Int × ByteArray)) : P (commitD d n b).2 := by
  unfold commitD
  exact then_inv (wrs_inv hw _ _ h) fun d h => then_inv (hb _ h) fun d h => then_inv (hw _ _ _ h) fun d h => then_inv (hb _ h) fun d h => then_inv (wrs_inv hw _ _ h) fun d h => hb _ h
def OkN (N : Nat) (d : Dv) : Prop := d.OK ∧ d.firm.length = N
theorem okn_write {N : Nat} (d : Dv) (i : Int) (x : ByteArray) (h : OkN N d) : OkN N (d.write i x).2 := by
  refine ⟨h.1.write i x, ?_⟩
  unfold Dv.write
  split
  · exact h.2
  · split
    · exact h.2
    · exact h.2
theorem okn_barrier {N : Nat} (d : Dv) (h : OkN N d) : OkN N d.barrier.2 := by
  refine ⟨h.1.barrier, ?_⟩
  unfold Dv.barrier
  split
  · exact h.2
  · exact h.1.now_length.trans h.2
theorem okn_crash {N : Nat} {d : Dv} (h : OkN N d) (keep : Int) : OkN N (d.crash keep) := ⟨h.1.crash keep, (kept_length keep _ _ _).trans h.2⟩
theorem okn_light {N : Nat} {d : Dv} (h : OkN N d) {n : Int} (hn : n ≤ 9223372036854775807) : OkN N (d.light n) := ⟨h.1.light hn, h.2⟩
theorem okn_open {N : Nat} {d : Dv} (h : OkN N d) : OkN N (openD d).2.2 := by
  unfold openD
  split
  · exact h
  · split
    · exact h
    · split
      · exact h
      · split
        · exact h
        · exact then_inv (wrs_inv okn_write _ _ h) fun d h => okn_barrier d h
theorem okn_commitL {N : Nat} {d : Dv} (h : OkN N d) (m : Nat) (dd : Bool) (b : List (Int × ByteArray)) : OkN N (commitL d m dd b).2.1 := by
  unfold commitL
  split
  · exact h
  · split
    · exact h
    · split
      · exact h
      · split
        · exact commit_inv okn_write okn_barrier h _ _
        · exact commit_inv okn_write okn_barrier h _ _
theorem okn_act {N : Nat} {d : Dv} (h : OkN N d) (o : Option (Nat × Bool)) (k n keep : Int) (s : ByteArray) (b : List (Int × ByteArray)) (hn : n ≤ 9223372036854775807) : OkN N (actW d o k n keep s b).1 := by
  unfold actW
  split
  · split
    · exact h
    · exact okn_commitL h _ _ _
  · split
    · exact okn_light h hn
    · split
      · exact okn_open (okn_crash h _)
      · split
        · exact okn_open (okn_light (okn_crash h _) (by have := Int.tmod_lt_of_pos n (show (0 : Int) < 8 by decide); omega))
        · split
          · exact okn_write _ _ _ h
          · exact h
theorem open_late (d : Dv) : (openD d).2.2.late.length ≤ d.late.length + 40 := by
  unfold openD
  split
  · exact Nat.le_add_right _ _
  · split
    · exact Nat.le_add_right _ _
    · split
      · exact Nat.le_add_right _ _
      · split
        · exact Nat.le_add_right _ _
        · rename_i l hl
          have h40 : l.length ≤ 40 := by
            unfold entsOf at hl
            split at hl
            · cases hl
            · split at hl
              · simp only [Option.some.injEq] at hl
                subst hl
                simp only [List.length_map, List.length_range]
                omega
              · cases hl
          have h1 := wrs_late l d
          exact Nat.le_trans (then_late 0 h1 (fun e he => Nat.le_trans (barrier_late2 e) he)) (by omega)
theorem commitL_late (d : Dv) (m : Nat) (dd : Bool) (b : List (Int × ByteArray)) : (commitL d m dd b).2.1.late.length ≤ d.late.length + 81 := by
  unfold commitL
  split
  · exact Nat.le_add_right _ _
  · rename_i hf
    have h40 := (Decidable.not_not.1 hf).2.1
    split
    · exact Nat.le_add_right _ _
    · split
      · exact Nat.le_add_right _ _
      · have := commit_late d (m + 1) b
        split <;> (show (commitD d (m + 1) b).2.late.length ≤ _; omega)
theorem act_late (d : Dv) (o : Option (Nat × Bool)) (k n keep : Int) (s : ByteArray) (b : List (Int × ByteArray)) : (actW d o k n keep s b).1.late.length ≤ d.late.length + 81 := by
  unfold actW
  split
  · split
    · exact Nat.le_add_right _ _
    · exact commitL_late _ _ _ _
  · split
    · exact Nat.le_add_right _ _
    · split
      · have := open_late (d.crash keep)
        have e : (d.crash keep).late.length = 0 := rfl
        show (openD (d.crash keep)).2.2.late.length ≤ _
        omega
      · split
        · have := open_late ((d.crash keep).light (n.tmod 8))
          have e : ((d.crash keep).light (n.tmod 8)).late.length = 0 := rfl
          show (openD ((d.crash keep).light (n.tmod 8))).2.2.late.length ≤ _
          omega
        · split
          · have := write_late d n (wholeR s)
            show (d.write n (wholeR s)).2.late.length ≤ _
            omega
          · exact Nat.le_add_right _ _
theorem open_none {d : Dv} (h : d.firm.length ≤ 41) : oOf (openD d) = none := by
  unfold openD
  rw [if_pos h]
  rfl
theorem act_none {N : Nat} {d : Dv} (h : OkN N d) (hN : N ≤ 41) (k n keep : Int) (s : ByteArray) (b : List (Int × ByteArray)) : (actW d none k n keep s b).2 = none := by
  unfold actW
  split
  · rfl
  · split
    · rfl
    · split
      · exact open_none (by rw [(okn_crash h keep).2]; exact hN)
      · split
        · exact open_none (by have := (okn_crash h keep).2; show (d.crash keep).firm.length ≤ 41; omega)
        · split
          · rfl
          · rfl
/-- An act of a script. -/
structure WAct where
  k : Int
  n : Int
  keep : Int
  s : ByteArray
  A : Option Addr
  cap : Nat
  bl : List (Int × ByteArray)
def wcells (x : WAct) : List Value := [.int .i64 x.k, .int .i64 x.n, .int .u64 x.keep, .string x.s, .slice x.A x.bl.length x.cap]
structure WAct.OK (w : World) (x : WAct) : Prop where
  n0 : -9223372036854775808 ≤ x.n
  n1 : x.n ≤ 9223372036854775807
  k0 : 0 ≤ x.keep
  k1 : x.keep < 18446744073709551616
  arr : ArrAt w x.A ncells 2 x.bl
  le : x.bl.length ≤ x.cap
  most : x.bl.length ≤ 140737488355328
theorem sees_wacts {w : World} {len cap : Nat} {A : Option Addr} (h : Sees Try.prog w 140737488351232 5 53 [.slice A len cap]) :
    ∃ l : List WAct, l.length = len ∧ len ≤ cap ∧ len ≤ maxLen ∧ ArrAt w A wcells 5 l ∧ ∀ x ∈ l, x.OK w := by
  obtain ⟨l, h1, h2, h3, _, h5, h6⟩ := arr_of (Q := WAct.OK w) (f := wcells) (s := 5) (by kernel_rfl) (by decide) (fun _ => rfl) Try.underlying53 (fun cs hc => by
    obtain ⟨x0, x1, x2, x3, v, rfl, f0, f1, f2, f3, f4⟩ := Opens.open63 (k := 2) hc
    obtain ⟨a, ln, cp, rfl⟩ := f4.isSlice Try.underlying22
    obtain ⟨b, rfl, l1, _, m1, hA, _⟩ := sees_blocks (k := 0) f4
    have b1 := bounds_i64 f1
    have b2 := bounds_u64 f2
    exact ⟨⟨x0, x1, x2, x3, a, cp, b⟩, ⟨b1.1, b1.2, b2.1, by have := b2.2; show x2 < _; omega, hA, l1, by show b.length ≤ _; omega⟩, rfl⟩) h
  exact ⟨l, h1, h2, h3, h5, h6⟩
end Go.Proofs.Ytmdojgkgohmghaa.Wal
namespace Go.Proofs.Ytmdojgkgohmghaa.Wal
open Go.RowKit Go.Own Go.Blk Go.DevL Go.XdrL Go.WalL Go.OpsL Go.Maps Go.Sees Go.Proofs.Ytmdojgkgohmghaa.P04 Go.Proofs.Ytmdojgkgohmghaa.Xdr Go.Proofs.YtmdojgkgohmghaaW.PrintLast Go.Proofs.YtmdojgkgohmghaaW.PrintWords
open Go.Proofs.Ytmdojgkgohmghaa.Dev hiding stop_here execOp_build execOp_alloc execOp_store execOp_load execOp_buildSlice execOp_makeSlice execOp_box execOp_copy execOp_append wpList_val wpList_none Up RAt
set_option linter.unusedVariables false
set_option linter.unusedSimpArgs false
set_option maxRecDepth 100000
set_option maxHeartbeats 16000000 in
theorem few_calls (A : Option Addr) (ca : Nat) (l : List WAct) (w : World) (hA : ArrAt w A wcells 5 l) (hl : ∀ x ∈ l, x.OK w) (ll : l.length ≤ 9223372036854775807) :
    Calls Try.prog 22 #[.slice A l.length ca] w fun e w' => ∃ r, e = .returned (.bool r) ∧ Below w.heap.size w w' := by
  have HA := Lib.hid hA
  have HOl := Lib.hid hl
  clear hA hl
  go_enter Try.func22, Try.ntmps22
  go_wp2_with fail
  go_loopw [3] (fun s3 wq => ∃ j : Nat, s3 = .int .i64 j ∧ j ≤ l.length ∧ j ≤ 40 ∧ Hid (Below w.heap.size w wq)) (fun s3 _ => (40 - intOf s3).toNat)
  case atStart => exact ⟨0, by simp, Nat.zero_le _, by omega, Lib.hid (by repeat (first | exact Below.refl _ _ | apply Below.drew))⟩
  case round =>
    obtain ⟨wq, rfl⟩ : ∃ wq : World, wq = wr := ⟨_, rfl⟩
    obtain ⟨j, rfl, hj1, hj2, HB⟩ := hrel
    by_cases hc2 : j < l.length ∧ j < 40
    · obtain ⟨hd1, hd2⟩ := hc2
      obtain ⟨blk, off, rfl, hbw, hcs0⟩ := HA.out j hd1
      obtain ⟨x, hx⟩ : ∃ x, l[j] = x := ⟨_, rfl⟩
      rw [hx] at hcs0
      have HX := Lib.hid (HOl.out x (hx ▸ List.getElem_mem hd1))
      have HCS : Hid (∀ W, Below w.heap.size w W → ∀ i u, (wcells x)[i]? = some u → W.cell? ⟨blk, off + j * 5 + i, none⟩ = some u) := Lib.hid fun W hb i u hu => (hb.cell (p := ⟨blk, _, none⟩) hbw).trans (hcs0 i u hu)
      clear hcs0 hx
      have c3 := HCS.out _ HB.out 3 _ rfl
      have c4 := HCS.out _ HB.out 4 _ rfl
      go_wp2_with fail
      any_goals (first | (go_ret; first | exact ⟨_, rfl, HB.out⟩ | exact ⟨.inl rfl, HB.out⟩ | exact ⟨.inr rfl, HB.out⟩) | skip)
      go_loopw [4] (fun s4 wz => ∃ k : Nat, s4 = .int .i64 k ∧ k ≤ x.bl.length ∧ Hid (wz = wq)) (fun s4 _ => (x.bl.length - intOf s4).toNat)
      case atStart => exact ⟨0, by simp, Nat.zero_le _, Lib.hid rfl⟩
      case round =>
        obtain ⟨k, rfl, hk1, hw⟩ := hrel
        obtain rfl := hw.out
        clear hw
        by_cases hk : k < x.bl.length
        · obtain ⟨blk2, off2, eA, hb2, hc⟩ := HX.out.arr k hk
          obtain ⟨y, hy⟩ : ∃ y, x.bl[k] = y := ⟨_, rfl⟩
          rw [hy] at hc
          rw [eA] at c4
          have d1 := (HB.out.cell (p := ⟨blk2, off2 + k * 2 + 1, none⟩) hb2).trans (hc 1 (.string y.2) rfl)
          clear hc hy eA hb2
          have hm := HX.out.most
          go_wp2_with fail
          any_goals (first | (go_ret; first | exact ⟨_, rfl, HB.out⟩ | exact ⟨.inl rfl, HB.out⟩ | exact ⟨.inr rfl, HB.out⟩) | skip)
          go_roundw
          case rel => exact ⟨k + 1, by go_num, by omega, by first | exact Lib.hid rfl | exact Lib.hid trivial⟩
          case measure => simp [intOf]; omega
        · have hm := HX.out.most
          go_wp2_with fail
          go_roundw
          case rel => exact ⟨j + 1, by go_num, by omega, by omega, HB⟩
          case measure => simp [intOf]; omega
    · have hc' : ¬ j < l.length ∨ (j < l.length ∧ ¬ j < 40) := by omega
      clear hc2
      rcases hc' with he | ⟨he, he2⟩
      all_goals
        go_wp2_with fail
        go_ret
        exact ⟨_, rfl, HB.out⟩
theorem settled_nth {d : Dv} {i : Nat} (h : i < d.firm.length) : d.settled (i : Int) = d.firm[i] := by
  have hb : d.bad (i : Int) = false := by
    unfold Dv.bad
    simp only [Bool.or_eq_false_iff, decide_eq_false_iff_not]
    omega
  unfold Dv.settled
  rw [if_neg (by simp [hb]), Int.toNat_natCast, List.getD_eq_getElem?_getD, List.getElem?_eq_getElem h]
  rfl
variable {w0 w w' : World} {b p1 p2 : Nat} {d : Dv} {o : Option (Nat × Bool)}
theorem PSt.settled (h : PSt w0 w b p1 p2 d o) (i : Int) : Calls Try.prog 26 #[.pointer (some ⟨p1, 0, none⟩), .int .i64 i] w fun r w' => r = .returned (.string (d.settled i)) ∧ w = w' := by
  obtain ⟨F1, F2, vl, vx, h1, h2, _⟩ := h.sets
  exact settled_any h1 i
theorem PSt.firm (h : PSt w0 w b p1 p2 d o) (i : Nat) (hi : i < d.firm.length) : ∃ vl vx, bAt w b p1 p2 vl vx ∧ ∃ g c v, w.heap[p2]? = some (.cells #[.slice (some ⟨g, 0, none⟩) d.firm.length c, v, .int .i64 d.fuse, .bool d.dead] 67 (0, 0)) ∧ w.cell? ⟨g, i, none⟩ = some (.string d.firm[i]) := by
  obtain ⟨F1, F2, vl, vx, h1, ⟨vf, vl2, h2⟩, _, _, _, _, hb, _⟩ := h.sets
  obtain ⟨g, c, e1, hc, _⟩ := cell_firm h2.hf i hi
  subst e1
  exact ⟨vl, vx, hb, g, c, vl2, h2.hq, hc⟩
theorem PSt.logs (h : PSt w0 w b p1 p2 d o) : ∃ vl vx, bAt w b p1 p2 vl vx ∧ match o with
    | none => vl = .pointer none ∧ vx = .pointer none
    | some (n, dd) => ∃ q1 q2, vl = .pointer (some ⟨q1, 0, none⟩) ∧ vx = .pointer (some ⟨q2, 0, none⟩) ∧ RLAt w q2 p2 n dd ∧
      (Calls Try.prog 15 #[.pointer (some ⟨q1, 0, none⟩)] w fun e w' => e = .returned (.int .u32 (n : Int)) ∧ w = w') ∧
      (Calls Try.prog 17 #[.pointer (some ⟨q1, 0, none⟩)] w fun e w' => e = .returned (.int .i64 ((d.firm.length : Int) - 41)) ∧ w = w') := by
  obtain ⟨F1, F2, vl, vx, h1, h2, _, _, _, _, hb, hl⟩ := h.sets
  refine ⟨vl, vx, hb, ?_⟩
  match o, hl with
  | none, hl => exact hl
  | some (n, dd), ⟨q1, q2, e1, e2, l1, l2, _⟩ => exact ⟨q1, q2, e1, e2, l2, last_calls l1, size_calls l1 h1⟩
theorem PSt.below (h : PSt w0 w b p1 p2 d o) (hb : Below w.heap.size w w') : PSt w0 w' b p1 p2 d o := by
  obtain ⟨F1, F2, vl, vx, h1, h2, h12, h22, hb1, hb2, hbb, hl⟩ := h.sets
  have z := hb.size
  refine ⟨h.bel.trans (hb.mono h.bel.size), h.ge, F1, F2, vl, vx, h1.below hb, h2.below hb, h12, h22, hb1, hb2, hbb.keep (G := fun _ => False) (Fr.of_below hb) id, ?_⟩
  match o, hl with
  | none, hl => exact hl
  | some (n, dd), ⟨q1, q2, e1, e2, l1, l2, rest⟩ => exact ⟨q1, q2, e1, e2, l1.below hb, l2.below hb, rest⟩
theorem PSt.drew (h : PSt w0 w b p1 p2 d o) : PSt w0 w.drew b p1 p2 d o := h.below (Below.refl _ _).drew
theorem pst_new {n : Int} {w2 w3 w4 : World} {p q : Nat} (hb2 : Below w.heap.size w w2) (h3 : Dev (fun k => w2.heap.size ≤ k ∧ k < w3.heap.size) w3 p (fresh n)) (hb3 : Below w2.heap.size w2 w3) (h4 : RDev (fun k => w3.heap.size ≤ k ∧ k < w4.heap.size) w4 q (fresh n)) (hb4 : Below w3.heap.size w3 w4) :
    PSt w (w4.alloc (.cells #[.pointer (some ⟨p, 0, none⟩), .pointer (some ⟨q, 0, none⟩), .pointer none, .pointer none] 60)) w4.heap.size p q (fresh n) none := by
  have s2 := hb2.size
  have s3 := hb3.size
  have s4 := hb4.size
  have hb5 : Below w4.heap.size w4 (w4.alloc (.cells #[.pointer (some ⟨p, 0, none⟩), .pointer (some ⟨q, 0, none⟩), .pointer none, .pointer none] 60)) := (Below.refl _ _).alloc (Nat.le_refl _) _
  refine ⟨((hb2.trans (hb3.mono s2)).trans (hb4.mono (by omega))).trans (hb5.mono (by omega)), by omega, _, _, .pointer none, .pointer none, (h3.below hb4).below hb5, h4.below hb5, fun k hk => ⟨by omega, fun hg => by omega⟩, fun k hk => by omega, fun hk => by omega, fun hk => by omega, alloc_at w4 _, rfl, rfl⟩
set_option maxHeartbeats 16000000 in
theorem plays_law (n : Int) (A : Option Addr) (ca : Nat) (l : List WAct) (w : World) (hA : ArrAt w A wcells 5 l) (hl : ∀ x ∈ l, x.OK w) (ll : l.length ≤ 9223372036854775807) :
    Calls Try.prog 7 #[.int .i64 n, .slice A l.length ca] w fun e w' => e = .returned (.bool true) ∧ Below w.heap.size w w' := by
  have HFW := Lib.hid (fun W (hb : Below w.heap.size w W) => few_calls A ca l W (hA.below hb) (fun x hx => let h := hl x hx; ⟨h.n0, h.n1, h.k0, h.k1, h.arr.below hb, h.le, h.most⟩) ll)
  have HA := Lib.hid hA
  have HOl := Lib.hid hl
  clear hA hl
  go_enter Try.func7, Try.ntmps7
  go_wp2_with fail
  refine (alive_calls w).mono ?_
  rintro e w1 ⟨rfl, hb⟩
  have HB1 := Lib.hid hb
  clear hb
  go_wp2_with fail
  refine (HFW.out w1 HB1.out).mono ?_
  rintro e w2 ⟨r, rfl, hb⟩
  have HB2 := Lib.hid (HB1.out.trans (hb.mono HB1.out.size))
  clear hb HB1 HFW
  cases r with
  | false =>
    go_wp2_with fail
    refine (alive_calls _).mono ?_
    rintro e w3 ⟨rfl, hb⟩
    have HB3 := Lib.hid (HB2.out.trans (hb.mono HB2.out.size))
    clear hb
    go_wp2
    go_ret
    exact ⟨rfl, HB3.out⟩
  | true =>
    go_wp2_with fail
    obtain ⟨c, hc, hc1, hc2⟩ : ∃ c : Nat, wrap64 (41 + wrap64 ((IntKind.u64.wrap n).tmod 6)) = (c : Int) ∧ 41 ≤ c ∧ c ≤ 46 := by
      have h0 : 0 ≤ IntKind.u64.wrap n := by rw [IntKind.wrap_u64]; omega
      rw [Int.tmod_eq_emod_of_nonneg h0]
      refine ⟨41 + (IntKind.u64.wrap n % 6).toNat, ?_, by omega, by omega⟩
      unfold wrap64
      omega
    rw [hc]
    clear hc
    have HCC := Lib.hid (show 41 ≤ c ∧ c ≤ 46 from ⟨hc1, hc2⟩)
    have hF0 : OkN c (fresh (c : Int)) := ⟨fresh_ok _, by show (List.replicate _ _).length = _; rw [List.length_replicate]; unfold clamp; omega⟩
    have HF0 := Lib.hid (show OkN c (openD (fresh (c : Int))).2.2 ∧ (openD (fresh (c : Int))).2.2.late.length ≤ 100 * 0 + 100 ∧ (c ≤ 41 → oOf (openD (fresh (c : Int))) = none) from
      ⟨okn_open hF0, Nat.le_trans (open_late _) (by simp [fresh]), fun hh => open_none (by rw [hF0.2]; exact hh)⟩)
    clear hF0
    refine (new_any (c : Int) w2).mono ?_
    rintro e w3 ⟨⟨p, rfl, h3⟩, hb3⟩
    have H3 := Lib.hid (And.intro h3 hb3)
    clear h3 hb3
    go_wp2_with fail
    refine (rnew_any (c : Int) w3).mono ?_
    rintro e w4 ⟨⟨q, rfl, h4⟩, hb4⟩
    have HP := Lib.hid (pst_new HB2.out H3.out.1 H3.out.2 h4 hb4)
    clear h4 hb4 H3 HB2
    go_wp2_with fail
    change Calls _ _ #[.pointer (some ⟨w4.heap.size, 0, none⟩)] (w4.alloc (.cells #[.pointer (some ⟨p, 0, none⟩), .pointer (some ⟨q, 0, none⟩), .pointer none, .pointer none] 60)) _
    generalize w4.heap.size = b at HP ⊢
    refine (bopen_calls HP.out (by simp [fresh])).mono ?_
    rintro e w5 ⟨rfl, h⟩
    have HP0 := Lib.hid h
    clear h HP
    generalize (openD (fresh (c : Int))).2.2 = d0 at HP0 HF0
    generalize oOf (openD (fresh (c : Int))) = o0 at HP0 HF0
    go_wp2_with fail
    go_loopw [7] (fun s7 wq => ∃ (j : Nat) (d : Dv) (o : Option (Nat × Bool)), s7 = .int .i64 j ∧ j ≤ l.length ∧ j ≤ 40 ∧ Hid (PSt w wq b p q d o) ∧ Hid (OkN c d ∧ d.late.length ≤ 100 * j + 100 ∧ (c ≤ 41 → o = none))) (fun s7 _ => (40 - intOf s7).toNat)
    case atStart => exact ⟨0, d0, o0, by simp, Nat.zero_le _, by omega, HP0, HF0⟩
    case round =>
      clear HP0 HF0
      obtain ⟨wq, rfl⟩ : ∃ wq : World, wq = wr := ⟨_, rfl⟩
      obtain ⟨j, d, o, rfl, hj1, hj2, HB, HLA⟩ := hrel
      by_cases hc2 : j < l.length ∧ j < 40
      · obtain ⟨hd1, hd2⟩ := hc2
        obtain ⟨blk, off, rfl, hbw, hcs0⟩ := HA.out j hd1
        obtain ⟨x, hx⟩ : ∃ x, l[j] = x := ⟨_, rfl⟩
        rw [hx] at hcs0
        have hxo := HOl.out x (hx ▸ List.getElem_mem hd1)
        have hcs : ∀ i u, (wcells x)[i]? = some u → wq.cell? ⟨blk, off + j * 5 + i, none⟩ = some u := fun i u hu => (HB.out.bel.cell (p := ⟨blk, _, none⟩) hbw).trans (hcs0 i u hu)
        have c0 := hcs 0 _ rfl
        have c1 := hcs 1 _ rfl
        have c2 := hcs 2 _ rfl
        have c3 := hcs 3 _ rfl
        have c4 := hcs 4 _ rfl
        simp only [Nat.add_zero] at c0
        have HDO := Lib.hid (bdo_calls HB.out (by have := HLA.out.2.1; omega) x.k x.n x.keep x.s x.A x.cap hxo.arr hxo.le hxo.most (if hh : c ≤ 41 then .inl (HLA.out.2.2 hh) else .inr (by rw [HLA.out.1.2]; omega)) hxo.n0 hxo.n1 hxo.k0 hxo.k1)
        have HL2 := Lib.hid (show OkN c (actW d o x.k x.n x.keep x.s x.bl).1 ∧ (actW d o x.k x.n x.keep x.s x.bl).1.late.length ≤ 100 * (j + 1) + 100 ∧ (c ≤ 41 → (actW d o x.k x.n x.keep x.s x.bl).2 = none) from
          ⟨okn_act HLA.out.1 o x.k x.n x.keep x.s x.bl hxo.n1, by have := act_late d o x.k x.n x.keep x.s x.bl; have := HLA.out.2.1; omega, fun hh => by rw [HLA.out.2.2 hh]; exact act_none HLA.out.1 hh _ _ _ _ _⟩)
        clear hxo hcs hcs0 hx
        go_wp2_with fail
        refine HDO.out.mono ?_
        rintro e w6 ⟨rfl, h⟩
        have HB6 := Lib.hid h
        clear h HDO HB HLA c0 c1 c2 c3 c4
        generalize (actW d o x.k x.n x.keep x.s x.bl).1 = d6 at HB6 HL2
        generalize (actW d o x.k x.n x.keep x.s x.bl).2 = o6 at HB6 HL2
        go_wp2_with fail
        go_loopw [8] (fun s8 wz => ∃ k : Nat, s8 = .int .i64 k ∧ k ≤ c ∧ Hid (PSt w wz b p q d6 o6)) (fun s8 _ => (c - intOf s8).toNat)
        case atStart => exact ⟨0, by simp, Nat.zero_le _, HB6⟩
        case round =>
          clear HB6
          obtain ⟨wz, rfl⟩ : ∃ wz : World, wz = wr := ⟨_, rfl⟩
          obtain ⟨k, rfl, hk1, HB6⟩ := hrel
          by_cases hk : k < c
          · have hic : k < d6.firm.length := by rw [HL2.out.1.2]; exact hk
            have HB7 := Lib.hid HB6.out.drew
            obtain ⟨vl, vx, hbA, g, cg, v, hq2, hcell⟩ := HB7.out.firm k hic
            have HSE := Lib.hid (show d6.settled (k : Int) = d6.firm[k] from settled_nth hic)
            generalize d6.firm[k] = fk at HSE hcell
            have hdl : (d6.firm.length : Int) = c := by rw [HL2.out.1.2]
            have hst : (fk.toList != fk.toList) = false := by simp
            have HS0 := Lib.hid (And.intro hbA (And.intro hq2 hcell))
            clear hbA hq2 hcell
            go_wp2
            refine start_ (n := 17) (S := fun w' => bAt w' b p q vl vx ∧ w'.heap[q]? = some (.cells #[.slice (some ⟨g, 0, none⟩) d6.firm.length cg, v, .int .i64 d6.fuse, .bool d6.dead] 67 (0, 0)) ∧ w'.cell? ⟨g, k, none⟩ = some (.string fk)) (ds := []) #[false, false, false, false, false, false, false, false, false, false, false, false, false, false, false, false, false] (by kernel_rfl) rfl rfl (HS0.out) (fun hHeld => ?_)
            generalize wz.drew = w7 at HB7 HS0 hHeld ⊢
            refine pure_ (i := 0) (N := some 51) (v := ?_) (a' := ?_) #[true, false, false, false, false, false, false, false, false, false, false, false, false, false, false, false, false] rfl rfl (by kernel_rfl) (fun _ _ _ h => h) (Or.inl ⟨by rfl, ?_⟩) ?_ ?_
            rotate_left
            · intro w'
              go_simp
              with_reducible rfl
            rotate_left
            · simp only [Act.put, List.setIfInBounds_toArray, List.set_cons_zero, List.set_cons_succ, i64_w, i32_w]
              rfl
            refine pure_ (i := 1) (N := some 52) (v := ?_) (a' := ?_) #[true, true, false, false, false, false, false, false, false, false, false, false, false, false, false, false, false] rfl rfl (by kernel_rfl) (fun _ _ _ h => h) (Or.inl ⟨by rfl, ?_⟩) ?_ ?_
            rotate_left
            · intro w'
              go_simp
              with_reducible rfl
            rotate_left
            · simp only [Act.put, List.setIfInBounds_toArray, List.set_cons_zero, List.set_cons_succ, i64_w, i32_w]
              rfl
            refine pure_ (i := 2) (N := some 53) (v := ?_) (a' := ?_) #[true, true, true, false, false, false, false, false, false, false, false, false, false, false, false, false, false] rfl rfl (by kernel_rfl) (fun _ _ _ h => h) (Or.inl ⟨by rfl, ?_⟩) ?_ ?_
            rotate_left
            · intro w'
              go_simp
              with_reducible rfl
            rotate_left
            · simp only [Act.put, List.setIfInBounds_toArray, List.set_cons_zero, List.set_cons_succ, i64_w, i32_w]
              rfl
            refine take_ (i := 3) (N := some 54) (v := ?_) (a' := ?_) #[true, true, true, true, false, false, false, false, false, false, false, false, false, false, false, false, false] rfl rfl (by kernel_rfl) (fun _ _ _ h => h) (Or.inl ⟨by rfl, ?_⟩) hHeld ?_ ?_
            rotate_left
            · intro w' hS
              obtain ⟨z0, _, z1, _, z2, _, z3, _⟩ := blk4 hS.1
              go_simp
              with_reducible rfl
            rotate_left
            · simp only [Act.put, List.setIfInBounds_toArray, List.set_cons_zero, List.set_cons_succ, i64_w, i32_w]
              rfl
            refine pure_ (i := 4) (N := some 55) (v := ?_) (a' := ?_) #[true, true, true, true, true, false, false, false, false, false, false, false, false, false, false, false, false] rfl rfl (by kernel_rfl) (fun _ _ _ h => h) (Or.inl ⟨by rfl, ?_⟩) ?_ ?_
            rotate_left
            · intro w'
              go_simp
              with_reducible rfl
            rotate_left
            · simp only [Act.put, List.setIfInBounds_toArray, List.set_cons_zero, List.set_cons_succ, i64_w, i32_w]
              rfl
            refine pure_ (i := 6) (N := some 57) (v := ?_) (a' := ?_) #[true, true, true, true, true, false, true, false, false, false, false, false, false, false, false, false, false] rfl rfl (by kernel_rfl) (fun _ _ _ h => h) (Or.inl ⟨by rfl, ?_⟩) ?_ ?_
            rotate_left
            · intro w'
              go_simp
              with_reducible rfl
            rotate_left
            · simp only [Act.put, List.setIfInBounds_toArray, List.set_cons_zero, List.set_cons_succ, i64_w, i32_w]
              rfl
            refine pure_ (i := 7) (N := some 58) (v := ?_) (a' := ?_) #[true, true, true, true, true, false, true, true, false, false, false, false, false, false, false, false, false] rfl rfl (by kernel_rfl) (fun _ _ _ h => h) (Or.inl ⟨by rfl, ?_⟩) ?_ ?_
            rotate_left
            · intro w'
              go_simp
              with_reducible rfl
            rotate_left
            · simp only [Act.put, List.setIfInBounds_toArray, List.set_cons_zero, List.set_cons_succ, i64_w, i32_w]
              rfl
            refine pure_ (i := 8) (N := some 59) (v := ?_) (a' := ?_) #[true, true, true, true, true, false, true, true, true, false, false, false, false, false, false, false, false] rfl rfl (by kernel_rfl) (fun _ _ _ h => h) (Or.inl ⟨by rfl, ?_⟩) ?_ ?_
            rotate_left
            · intro w'
              go_simp
              with_reducible rfl
            rotate_left
            · simp only [Act.put, List.setIfInBounds_toArray, List.set_cons_zero, List.set_cons_succ, i64_w, i32_w]
              rfl
            refine take_ (i := 9) (N := some 60) (v := ?_) (a' := ?_) #[true, true, true, true, true, false, true, true, true, true, false, false, false, false, false, false, false] rfl rfl (by kernel_rfl) (fun _ _ _ h => h) (Or.inl ⟨by rfl, ?_⟩) hHeld ?_ ?_
            rotate_left
            · intro w' hS
              obtain ⟨z0, _, z1, _, z2, _, z3, _⟩ := blk4 hS.1
              go_simp
              with_reducible rfl
            rotate_left
            · simp only [Act.put, List.setIfInBounds_toArray, List.set_cons_zero, List.set_cons_succ, i64_w, i32_w]
              rfl
            refine pure_ (i := 10) (N := some 61) (v := ?_) (a' := ?_) #[true, true, true, true, true, false, true, true, true, true, true, false, false, false, false, false, false] rfl rfl (by kernel_rfl) (fun _ _ _ h => h) (Or.inl ⟨by rfl, ?_⟩) ?_ ?_
            rotate_left
            · intro w'
              go_simp
              with_reducible rfl
            rotate_left
            · simp only [Act.put, List.setIfInBounds_toArray, List.set_cons_zero, List.set_cons_succ, i64_w, i32_w]
              rfl
            refine pure_ (i := 11) (N := some 62) (v := ?_) (a' := ?_) #[true, true, true, true, true, false, true, true, true, true, true, true, false, false, false, false, false] rfl rfl (by kernel_rfl) (fun _ _ _ h => h) (Or.inl ⟨by rfl, ?_⟩) ?_ ?_
            rotate_left
            · intro w'
              go_simp
              with_reducible rfl
            rotate_left
            · simp only [Act.put, List.setIfInBounds_toArray, List.set_cons_zero, List.set_cons_succ, i64_w, i32_w]
              rfl
            refine take_ (i := 12) (N := some 63) (v := ?_) (a' := ?_) #[true, true, true, true, true, false, true, true, true, true, true, true, true, false, false, false, false] rfl rfl (by kernel_rfl) (fun _ _ _ h => h) (Or.inl ⟨by rfl, ?_⟩) hHeld ?_ ?_
            rotate_left
            · intro w' hS
              obtain ⟨z0, _, z1, _, z2, _, z3, _⟩ := blk4 hS.2.1
              go_simp
              with_reducible rfl
            rotate_left
            · simp only [Act.put, List.setIfInBounds_toArray, List.set_cons_zero, List.set_cons_succ, i64_w, i32_w]
              rfl
            refine pure_ (i := 13) (N := some 64) (v := ?_) (a' := ?_) #[true, true, true, true, true, false, true, true, true, true, true, true, true, true, false, false, false] rfl rfl (by kernel_rfl) (fun _ _ _ h => h) (Or.inl ⟨by rfl, ?_⟩) ?_ ?_
            rotate_left
            · intro w'
              go_simp
              with_reducible rfl
            rotate_left
            · simp only [Act.put, List.setIfInBounds_toArray, List.set_cons_zero, List.set_cons_succ, i64_w, i32_w]
              rfl
            refine pure_ (i := 14) (N := some 65) (v := ?_) (a' := ?_) #[true, true, true, true, true, false, true, true, true, true, true, true, true, true, true, false, false] rfl rfl (by kernel_rfl) (fun _ _ _ h => h) (Or.inl ⟨by rfl, ?_⟩) ?_ ?_
            rotate_left
            · intro w'
              go_simp
              with_reducible rfl
            rotate_left
            · simp only [Act.put, List.setIfInBounds_toArray, List.set_cons_zero, List.set_cons_succ, i64_w, i32_w]
              rfl
            refine take_ (i := 15) (N := some 66) (v := ?_) (a' := ?_) #[true, true, true, true, true, false, true, true, true, true, true, true, true, true, true, true, false] rfl rfl (by kernel_rfl) (fun _ _ _ h => h) (Or.inl ⟨by rfl, ?_⟩) hHeld ?_ ?_
            rotate_left
            · intro w' hS
              have z0 := hS.2.2
              go_simp
              with_reducible rfl
            rotate_left
            · simp only [Act.put, List.setIfInBounds_toArray, List.set_cons_zero, List.set_cons_succ, i64_w, i32_w]
              rfl
            have HST := Lib.hid (HB7.out.settled (k : Int))
            rw [HSE.out] at HST
            refine one_ (i := 5) (N := some 56) #[true, true, true, true, true, true, true, true, true, true, true, true, true, true, true, true, false] rfl rfl (by kernel_rfl) (by decide) (fun K hK => ?_)
            refine goes_ Try.func26 (by kernel_rfl) rfl #[.pointer (some ⟨p, 0, none⟩), .int .i64 (k : Int)] (by rfl) rfl rfl (by (try simp only [List.map_toArray, List.map_cons, List.map_nil]); first | done | rfl) ?_
            refine (HST.out).mono ?_
            rintro e w8 ⟨rfl, rfl⟩
            refine ⟨_, rfl, ?_⟩
            refine hK.out _ _ hHeld (fun hHeld => ?_)
            clear hK K
            refine norm_ (a' := ?_) ?_ ?_
            rotate_left
            · show Act.put _ (some 56) _ = _
              simp only [Act.put, List.setIfInBounds_toArray, List.set_cons_zero, List.set_cons_succ, i64_w, i32_w]
              rfl
            refine pure_ (i := 16) (N := some 67) (v := ?_) (a' := ?_) #[true, true, true, true, true, true, true, true, true, true, true, true, true, true, true, true, true] rfl rfl (by kernel_rfl) (fun _ _ _ h => h) (Or.inl ⟨by rfl, ?_⟩) ?_ ?_
            rotate_left
            · intro w'
              go_simp
              with_reducible rfl
            rotate_left
            · simp only [Act.put, List.setIfInBounds_toArray, List.set_cons_zero, List.set_cons_succ, i64_w, i32_w]
              rfl
            refine done_ (by kernel_rfl) ?_
            go_wp2
            go_roundw
            case rel => exact ⟨k + 1, by go_num, by omega, HB7⟩
            case measure => simp [intOf]; omega
          · have HB7 := Lib.hid HB6.out.drew
            obtain ⟨vl, vx, hbA, hm⟩ := HB7.out.logs
            have hdl : (d6.firm.length : Int) = c := by rw [HL2.out.1.2]
            rw [hdl] at hm
            have hw41 : IntKind.i64.wrap ((c : Int) - 41) = (c : Int) - 41 := by rw [IntKind.wrap_i64]; omega
            have hs41 : (((c : Int) - 41) != ((c : Int) - 41)) = false := by simp
            clear hdl
            cases o6 with
            | none =>
              obtain ⟨rfl, rfl⟩ := hm
              have HS0 := Lib.hid hbA
              clear hbA
              go_wp2
              refine start_ (n := 30) (S := fun w' => bAt w' b p q (.pointer none) (.pointer none)) (ds := []) #[false, false, false, false, false, false, false, false, false, false, false, false, false, false, false, false, false, false, false, false, false, false, false, false, false, false, false, false, false, false] (by kernel_rfl) rfl rfl (HS0.out) (fun hHeld => ?_)
              generalize wz.drew = w7 at HB7 HS0 hHeld ⊢
              refine pure_ (i := 0) (N := some 68) (v := ?_) (a' := ?_) #[true, false, false, false, false, false, false, false, false, false, false, false, false, false, false, false, false, false, false, false, false, false, false, false, false, false, false, false, false, false] rfl rfl (by kernel_rfl) (fun _ _ _ h => h) (Or.inl ⟨by rfl, ?_⟩) ?_ ?_
              rotate_left
              · intro w'
                go_simp
                with_reducible rfl
              rotate_left
              · simp only [Act.put, List.setIfInBounds_toArray, List.set_cons_zero, List.set_cons_succ, i64_w, i32_w]
                rfl
              refine pure_ (i := 1) (N := some 69) (v := ?_) (a' := ?_) #[true, true, false, false, false, false, false, false, false, false, false, false, false, false, false, false, false, false, false, false, false, false, false, false, false, false, false, false, false, false] rfl rfl (by kernel_rfl) (fun _ _ _ h => h) (Or.inl ⟨by rfl, ?_⟩) ?_ ?_
              rotate_left
              · intro w'
                go_simp
                with_reducible rfl
              rotate_left
              · simp only [Act.put, List.setIfInBounds_toArray, List.set_cons_zero, List.set_cons_succ, i64_w, i32_w]
                rfl
              refine pure_ (i := 2) (N := some 70) (v := ?_) (a' := ?_) #[true, true, true, false, false, false, false, false, false, false, false, false, false, false, false, false, false, false, false, false, false, false, false, false, false, false, false, false, false, false] rfl rfl (by kernel_rfl) (fun _ _ _ h => h) (Or.inl ⟨by rfl, ?_⟩) ?_ ?_
              rotate_left
              · intro w'
                go_simp
                with_reducible rfl
              rotate_left
              · simp only [Act.put, List.setIfInBounds_toArray, List.set_cons_zero, List.set_cons_succ, i64_w, i32_w]
                rfl
              refine take_ (i := 3) (N := some 71) (v := ?_) (a' := ?_) #[true, true, true, true, false, false, false, false, false, false, false, false, false, false, false, false, false, false, false, false, false, false, false, false, false, false, false, false, false, false] rfl rfl (by kernel_rfl) (fun _ _ _ h => h) (Or.inl ⟨by rfl, ?_⟩) hHeld ?_ ?_
              rotate_left
              · intro w' hS
                obtain ⟨z0, _, z1, _, z2, _, z3, _⟩ := blk4 hS
                go_simp
                with_reducible rfl
              rotate_left
              · simp only [Act.put, List.setIfInBounds_toArray, List.set_cons_zero, List.set_cons_succ, i64_w, i32_w]
                rfl
              refine pure_ (i := 4) (N := some 72) (v := ?_) (a' := ?_) #[true, true, true, true, true, false, false, false, false, false, false, false, false, false, false, false, false, false, false, false, false, false, false, false, false, false, false, false, false, false] rfl rfl (by kernel_rfl) (fun _ _ _ h => h) (Or.inl ⟨by rfl, ?_⟩) ?_ ?_
              rotate_left
              · intro w'
                go_simp
                with_reducible rfl
              rotate_left
              · simp only [Act.put, List.setIfInBounds_toArray, List.set_cons_zero, List.set_cons_succ, i64_w, i32_w]
                rfl
              refine pure_ (i := 5) (N := some 73) (v := ?_) (a' := ?_) #[true, true, true, true, true, true, false, false, false, false, false, false, false, false, false, false, false, false, false, false, false, false, false, false, false, false, false, false, false, false] rfl rfl (by kernel_rfl) (fun _ _ _ h => h) (Or.inl ⟨by rfl, ?_⟩) ?_ ?_
              rotate_left
              · intro w'
                go_simp
                with_reducible rfl
              rotate_left
              · simp only [Act.put, List.setIfInBounds_toArray, List.set_cons_zero, List.set_cons_succ, i64_w, i32_w]
                rfl
              refine pure_ (i := 6) (N := some 74) (v := undef) (a' := ?_) #[true, true, true, true, true, true, true, false, false, false, false, false, false, false, false, false, false, false, false, false, false, false, false, false, false, false, false, false, false, false] rfl rfl (by kernel_rfl) (fun _ _ _ h => h) (Or.inr ⟨by rfl, rfl⟩) ?_ ?_
              rotate_left
              · simp only [Act.put, List.setIfInBounds_toArray, List.set_cons_zero, List.set_cons_succ, i64_w, i32_w]
                rfl
              refine pure_ (i := 7) (N := some 75) (v := undef) (a' := ?_) #[true, true, true, true, true, true, true, true, false, false, false, false, false, false, false, false, false, false, false, false, false, false, false, false, false, false, false, false, false, false] rfl rfl (by kernel_rfl) (fun _ _ _ h => h) (Or.inr ⟨by rfl, rfl⟩) ?_ ?_
              rotate_left
              · simp only [Act.put, List.setIfInBounds_toArray, List.set_cons_zero, List.set_cons_succ, i64_w, i32_w]
                rfl
              refine pure_ (i := 8) (N := some 76) (v := undef) (a' := ?_) #[true, true, true, true, true, true, true, true, true, false, false, false, false, false, false, false, false, false, false, false, false, false, false, false, false, false, false, false, false, false] rfl rfl (by kernel_rfl) (fun _ _ _ h => h) (Or.inr ⟨by rfl, rfl⟩) ?_ ?_
              rotate_left
              · simp only [Act.put, List.setIfInBounds_toArray, List.set_cons_zero, List.set_cons_succ, i64_w, i32_w]
                rfl
              refine pure_ (i := 9) (N := some 77) (v := undef) (a' := ?_) #[true, true, true, true, true, true, true, true, true, true, false, false, false, false, false, false, false, false, false, false, false, false, false, false, false, false, false, false, false, false] rfl rfl (by kernel_rfl) (fun _ _ _ h => h) (Or.inr ⟨by rfl, rfl⟩) ?_ ?_
              rotate_left
              · simp only [Act.put, List.setIfInBounds_toArray, List.set_cons_zero, List.set_cons_succ, i64_w, i32_w]
                rfl
              refine pure_ (i := 10) (N := some 78) (v := undef) (a' := ?_) #[true, true, true, true, true, true, true, true, true, true, true, false, false, false, false, false, false, false, false, false, false, false, false, false, false, false, false, false, false, false] rfl rfl (by kernel_rfl) (fun _ _ _ h => h) (Or.inr ⟨by rfl, rfl⟩) ?_ ?_
              rotate_left
              · simp only [Act.put, List.setIfInBounds_toArray, List.set_cons_zero, List.set_cons_succ, i64_w, i32_w]
                rfl
              refine pure_ (i := 11) (N := some 79) (v := undef) (a' := ?_) #[true, true, true, true, true, true, true, true, true, true, true, true, false, false, false, false, false, false, false, false, false, false, false, false, false, false, false, false, false, false] rfl rfl (by kernel_rfl) (fun _ _ _ h => h) (Or.inr ⟨by rfl, rfl⟩) ?_ ?_
              rotate_left
              · simp only [Act.put, List.setIfInBounds_toArray, List.set_cons_zero, List.set_cons_succ, i64_w, i32_w]
                rfl
              refine pure_ (i := 12) (N := some 80) (v := undef) (a' := ?_) #[true, true, true, true, true, true, true, true, true, true, true, true, true, false, false, false, false, false, false, false, false, false, false, false, false, false, false, false, false, false] rfl rfl (by kernel_rfl) (fun _ _ _ h => h) (Or.inr ⟨by rfl, rfl⟩) ?_ ?_
              rotate_left
              · simp only [Act.put, List.setIfInBounds_toArray, List.set_cons_zero, List.set_cons_succ, i64_w, i32_w]
                rfl
              refine pure_ (i := 13) (N := some 81) (v := undef) (a' := ?_) #[true, true, true, true, true, true, true, true, true, true, true, true, true, true, false, false, false, false, false, false, false, false, false, false, false, false, false, false, false, false] rfl rfl (by kernel_rfl) (fun _ _ _ h => h) (Or.inr ⟨by rfl, rfl⟩) ?_ ?_
              rotate_left
              · simp only [Act.put, List.setIfInBounds_toArray, List.set_cons_zero, List.set_cons_succ, i64_w, i32_w]
                rfl
              refine pure_ (i := 14) (N := some 82) (v := undef) (a' := ?_) #[true, true, true, true, true, true, true, true, true, true, true, true, true, true, true, false, false, false, false, false, false, false, false, false, false, false, false, false, false, false] rfl rfl (by kernel_rfl) (fun _ _ _ h => h) (Or.inr ⟨by rfl, rfl⟩) ?_ ?_
              rotate_left
              · simp only [Act.put, List.setIfInBounds_toArray, List.set_cons_zero, List.set_cons_succ, i64_w, i32_w]
                rfl
              refine pure_ (i := 15) (N := some 83) (v := undef) (a' := ?_) #[true, true, true, true, true, true, true, true, true, true, true, true, true, true, true, true, false, false, false, false, false, false, false, false, false, false, false, false, false, false] rfl rfl (by kernel_rfl) (fun _ _ _ h => h) (Or.inr ⟨by rfl, rfl⟩) ?_ ?_
              rotate_left
              · simp only [Act.put, List.setIfInBounds_toArray, List.set_cons_zero, List.set_cons_succ, i64_w, i32_w]
                rfl
              refine pure_ (i := 16) (N := some 84) (v := undef) (a' := ?_) #[true, true, true, true, true, true, true, true, true, true, true, true, true, true, true, true, true, false, false, false, false, false, false, false, false, false, false, false, false, false] rfl rfl (by kernel_rfl) (fun _ _ _ h => h) (Or.inr ⟨by rfl, rfl⟩) ?_ ?_
              rotate_left
              · simp only [Act.put, List.setIfInBounds_toArray, List.set_cons_zero, List.set_cons_succ, i64_w, i32_w]
                rfl
              refine pure_ (i := 17) (N := some 85) (v := undef) (a' := ?_) #[true, true, true, true, true, true, true, true, true, true, true, true, true, true, true, true, true, true, false, false, false, false, false, false, false, false, false, false, false, false] rfl rfl (by kernel_rfl) (fun _ _ _ h => h) (Or.inr ⟨by rfl, rfl⟩) ?_ ?_
              rotate_left
              · simp only [Act.put, List.setIfInBounds_toArray, List.set_cons_zero, List.set_cons_succ, i64_w, i32_w]
                rfl
              refine pure_ (i := 18) (N := some 86) (v := undef) (a' := ?_) #[true, true, true, true, true, true, true, true, true, true, true, true, true, true, true, true, true, true, true, false, false, false, false, false, false, false, false, false, false, false] rfl rfl (by kernel_rfl) (fun _ _ _ h => h) (Or.inr ⟨by rfl, rfl⟩) ?_ ?_
              rotate_left
              · simp only [Act.put, List.setIfInBounds_toArray, List.set_cons_zero, List.set_cons_succ, i64_w, i32_w]
                rfl
              refine pure_ (i := 19) (N := some 87) (v := undef) (a' := ?_) #[true, true, true, true, true, true, true, true, true, true, true, true, true, true, true, true, true, true, true, true, false, false, false, false, false, false, false, false, false, false] rfl rfl (by kernel_rfl) (fun _ _ _ h => h) (Or.inr ⟨by rfl, rfl⟩) ?_ ?_
              rotate_left
              · simp only [Act.put, List.setIfInBounds_toArray, List.set_cons_zero, List.set_cons_succ, i64_w, i32_w]
                rfl
              refine pure_ (i := 20) (N := some 88) (v := undef) (a' := ?_) #[true, true, true, true, true, true, true, true, true, true, true, true, true, true, true, true, true, true, true, true, true, false, false, false, false, false, false, false, false, false] rfl rfl (by kernel_rfl) (fun _ _ _ h => h) (Or.inr ⟨by rfl, rfl⟩) ?_ ?_
              rotate_left
              · simp only [Act.put, List.setIfInBounds_toArray, List.set_cons_zero, List.set_cons_succ, i64_w, i32_w]
                rfl
              refine pure_ (i := 21) (N := some 89) (v := undef) (a' := ?_) #[true, true, true, true, true, true, true, true, true, true, true, true, true, true, true, true, true, true, true, true, true, true, false, false, false, false, false, false, false, false] rfl rfl (by kernel_rfl) (fun _ _ _ h => h) (Or.inr ⟨by rfl, rfl⟩) ?_ ?_
              rotate_left
              · simp only [Act.put, List.setIfInBounds_toArray, List.set_cons_zero, List.set_cons_succ, i64_w, i32_w]
                rfl
              refine pure_ (i := 22) (N := some 90) (v := undef) (a' := ?_) #[true, true, true, true, true, true, true, true, true, true, true, true, true, true, true, true, true, true, true, true, true, true, true, false, false, false, false, false, false, false] rfl rfl (by kernel_rfl) (fun _ _ _ h => h) (Or.inr ⟨by rfl, rfl⟩) ?_ ?_
              rotate_left
              · simp only [Act.put, List.setIfInBounds_toArray, List.set_cons_zero, List.set_cons_succ, i64_w, i32_w]
                rfl
              refine pure_ (i := 23) (N := some 91) (v := undef) (a' := ?_) #[true, true, true, true, true, true, true, true, true, true, true, true, true, true, true, true, true, true, true, true, true, true, true, true, false, false, false, false, false, false] rfl rfl (by kernel_rfl) (fun _ _ _ h => h) (Or.inr ⟨by rfl, rfl⟩) ?_ ?_
              rotate_left
              · simp only [Act.put, List.setIfInBounds_toArray, List.set_cons_zero, List.set_cons_succ, i64_w, i32_w]
                rfl
              refine pure_ (i := 24) (N := some 92) (v := undef) (a' := ?_) #[true, true, true, true, true, true, true, true, true, true, true, true, true, true, true, true, true, true, true, true, true, true, true, true, true, false, false, false, false, false] rfl rfl (by kernel_rfl) (fun _ _ _ h => h) (Or.inr ⟨by rfl, rfl⟩) ?_ ?_
              rotate_left
              · simp only [Act.put, List.setIfInBounds_toArray, List.set_cons_zero, List.set_cons_succ, i64_w, i32_w]
                rfl
              refine pure_ (i := 25) (N := some 93) (v := undef) (a' := ?_) #[true, true, true, true, true, true, true, true, true, true, true, true, true, true, true, true, true, true, true, true, true, true, true, true, true, true, false, false, false, false] rfl rfl (by kernel_rfl) (fun _ _ _ h => h) (Or.inr ⟨by rfl, rfl⟩) ?_ ?_
              rotate_left
              · simp only [Act.put, List.setIfInBounds_toArray, List.set_cons_zero, List.set_cons_succ, i64_w, i32_w]
                rfl
              refine pure_ (i := 26) (N := some 94) (v := undef) (a' := ?_) #[true, true, true, true, true, true, true, true, true, true, true, true, true, true, true, true, true, true, true, true, true, true, true, true, true, true, true, false, false, false] rfl rfl (by kernel_rfl) (fun _ _ _ h => h) (Or.inr ⟨by rfl, rfl⟩) ?_ ?_
              rotate_left
              · simp only [Act.put, List.setIfInBounds_toArray, List.set_cons_zero, List.set_cons_succ, i64_w, i32_w]
                rfl
              refine pure_ (i := 27) (N := some 95) (v := undef) (a' := ?_) #[true, true, true, true, true, true, true, true, true, true, true, true, true, true, true, true, true, true, true, true, true, true, true, true, true, true, true, true, false, false] rfl rfl (by kernel_rfl) (fun _ _ _ h => h) (Or.inr ⟨by rfl, rfl⟩) ?_ ?_
              rotate_left
              · simp only [Act.put, List.setIfInBounds_toArray, List.set_cons_zero, List.set_cons_succ, i64_w, i32_w]
                rfl
              refine pure_ (i := 28) (N := some 96) (v := undef) (a' := ?_) #[true, true, true, true, true, true, true, true, true, true, true, true, true, true, true, true, true, true, true, true, true, true, true, true, true, true, true, true, true, false] rfl rfl (by kernel_rfl) (fun _ _ _ h => h) (Or.inr ⟨by rfl, rfl⟩) ?_ ?_
              rotate_left
              · simp only [Act.put, List.setIfInBounds_toArray, List.set_cons_zero, List.set_cons_succ, i64_w, i32_w]
                rfl
              refine pure_ (i := 29) (N := some 97) (v := ?_) (a' := ?_) #[true, true, true, true, true, true, true, true, true, true, true, true, true, true, true, true, true, true, true, true, true, true, true, true, true, true, true, true, true, true] rfl rfl (by kernel_rfl) (fun _ _ _ h => h) (Or.inl ⟨by rfl, ?_⟩) ?_ ?_
              rotate_left
              · intro w'
                go_simp
                with_reducible rfl
              rotate_left
              · simp only [Act.put, List.setIfInBounds_toArray, List.set_cons_zero, List.set_cons_succ, i64_w, i32_w]
                rfl
              refine done_ (by kernel_rfl) ?_
              go_wp2
              go_roundw
              case rel => exact ⟨j + 1, d6, none, by go_num, by omega, by omega, HB7, Lib.hid ⟨HL2.out.1, HL2.out.2.1, fun _ => rfl⟩⟩
              case measure => simp [intOf]; omega
            | some md =>
              obtain ⟨m, dd⟩ := md
              obtain ⟨q1, q2, rfl, rfl, hr, hla, hsi⟩ := hm
              have HS0 := Lib.hid (And.intro hbA hr.1)
              have hmm : ((m : Int) != (m : Int)) = false := by simp
              have HLA := Lib.hid hla
              have HSI := Lib.hid hsi
              clear hr hla hsi hbA
              go_wp2
              refine start_ (n := 30) (S := fun w' => bAt w' b p q (.pointer (some ⟨q1, 0, none⟩)) (.pointer (some ⟨q2, 0, none⟩)) ∧ w'.heap[q2]? = some (.cells #[.pointer (some ⟨q, 0, none⟩), .int .u32 (m : Int), .bool dd] 69 (0, 0))) (ds := []) #[false, false, false, false, false, false, false, false, false, false, false, false, false, false, false, false, false, false, false, false, false, false, false, false, false, false, false, false, false, false] (by kernel_rfl) rfl rfl (HS0.out) (fun hHeld => ?_)
              generalize wz.drew = w7 at HB7 HS0 HLA HSI hHeld ⊢
              refine pure_ (i := 0) (N := some 68) (v := ?_) (a' := ?_) #[true, false, false, false, false, false, false, false, false, false, false, false, false, false, false, false, false, false, false, false, false, false, false, false, false, false, false, false, false, false] rfl rfl (by kernel_rfl) (fun _ _ _ h => h) (Or.inl ⟨by rfl, ?_⟩) ?_ ?_
              rotate_left
              · intro w'
                go_simp
                with_reducible rfl
              rotate_left
              · simp only [Act.put, List.setIfInBounds_toArray, List.set_cons_zero, List.set_cons_succ, i64_w, i32_w]
                rfl
              refine pure_ (i := 1) (N := some 69) (v := ?_) (a' := ?_) #[true, true, false, false, false, false, false, false, false, false, false, false, false, false, false, false, false, false, false, false, false, false, false, false, false, false, false, false, false, false] rfl rfl (by kernel_rfl) (fun _ _ _ h => h) (Or.inl ⟨by rfl, ?_⟩) ?_ ?_
              rotate_left
              · intro w'
                go_simp
                with_reducible rfl
              rotate_left
              · simp only [Act.put, List.setIfInBounds_toArray, List.set_cons_zero, List.set_cons_succ, i64_w, i32_w]
                rfl
              refine pure_ (i := 2) (N := some 70) (v := ?_) (a' := ?_) #[true, true, true, false, false, false, false, false, false, false, false, false, false, false, false, false, false, false, false, false, false, false, false, false, false, false, false, false, false, false] rfl rfl (by kernel_rfl) (fun _ _ _ h => h) (Or.inl ⟨by rfl, ?_⟩) ?_ ?_
              rotate_left
              · intro w'
                go_simp
                with_reducible rfl
              rotate_left
              · simp only [Act.put, List.setIfInBounds_toArray, List.set_cons_zero, List.set_cons_succ, i64_w, i32_w]
                rfl
              refine take_ (i := 3) (N := some 71) (v := ?_) (a' := ?_) #[true, true, true, true, false, false, false, false, false, false, false, false, false, false, false, false, false, false, false, false, false, false, false, false, false, false, false, false, false, false] rfl rfl (by kernel_rfl) (fun _ _ _ h => h) (Or.inl ⟨by rfl, ?_⟩) hHeld ?_ ?_
              rotate_left
              · intro w' hS
                obtain ⟨z0, _, z1, _, z2, _, z3, _⟩ := blk4 hS.1
                go_simp
                with_reducible rfl
              rotate_left
              · simp only [Act.put, List.setIfInBounds_toArray, List.set_cons_zero, List.set_cons_succ, i64_w, i32_w]
                rfl
              refine pure_ (i := 4) (N := some 72) (v := ?_) (a' := ?_) #[true, true, true, true, true, false, false, false, false, false, false, false, false, false, false, false, false, false, false, false, false, false, false, false, false, false, false, false, false, false] rfl rfl (by kernel_rfl) (fun _ _ _ h => h) (Or.inl ⟨by rfl, ?_⟩) ?_ ?_
              rotate_left
              · intro w'
                go_simp
                with_reducible rfl
              rotate_left
              · simp only [Act.put, List.setIfInBounds_toArray, List.set_cons_zero, List.set_cons_succ, i64_w, i32_w]
                rfl
              refine pure_ (i := 5) (N := some 73) (v := ?_) (a' := ?_) #[true, true, true, true, true, true, false, false, false, false, false, false, false, false, false, false, false, false, false, false, false, false, false, false, false, false, false, false, false, false] rfl rfl (by kernel_rfl) (fun _ _ _ h => h) (Or.inl ⟨by rfl, ?_⟩) ?_ ?_
              rotate_left
              · intro w'
                go_simp
                with_reducible rfl
              rotate_left
              · simp only [Act.put, List.setIfInBounds_toArray, List.set_cons_zero, List.set_cons_succ, i64_w, i32_w]
                rfl
              refine pure_ (i := 6) (N := some 74) (v := ?_) (a' := ?_) #[true, true, true, true, true, true, true, false, false, false, false, false, false, false, false, false, false, false, false, false, false, false, false, false, false, false, false, false, false, false] rfl rfl (by kernel_rfl) (fun _ _ _ h => h) (Or.inl ⟨by rfl, ?_⟩) ?_ ?_
              rotate_left
              · intro w'
                go_simp
                with_reducible rfl
              rotate_left
              · simp only [Act.put, List.setIfInBounds_toArray, List.set_cons_zero, List.set_cons_succ, i64_w, i32_w]
                rfl
              refine pure_ (i := 7) (N := some 75) (v := ?_) (a' := ?_) #[true, true, true, true, true, true, true, true, false, false, false, false, false, false, false, false, false, false, false, false, false, false, false, false, false, false, false, false, false, false] rfl rfl (by kernel_rfl) (fun _ _ _ h => h) (Or.inl ⟨by rfl, ?_⟩) ?_ ?_
              rotate_left
              · intro w'
                go_simp
                with_reducible rfl
              rotate_left
              · simp only [Act.put, List.setIfInBounds_toArray, List.set_cons_zero, List.set_cons_succ, i64_w, i32_w]
                rfl
              refine pure_ (i := 8) (N := some 76) (v := ?_) (a' := ?_) #[true, true, true, true, true, true, true, true, true, false, false, false, false, false, false, false, false, false, false, false, false, false, false, false, false, false, false, false, false, false] rfl rfl (by kernel_rfl) (fun _ _ _ h => h) (Or.inl ⟨by rfl, ?_⟩) ?_ ?_
              rotate_left
              · intro w'
                go_simp
                with_reducible rfl
              rotate_left
              · simp only [Act.put, List.setIfInBounds_toArray, List.set_cons_zero, List.set_cons_succ, i64_w, i32_w]
                rfl
              refine take_ (i := 9) (N := some 77) (v := ?_) (a' := ?_) #[true, true, true, true, true, true, true, true, true, true, false, false, false, false, false, false, false, false, false, false, false, false, false, false, false, false, false, false, false, false] rfl rfl (by kernel_rfl) (fun _ _ _ h => h) (Or.inl ⟨by rfl, ?_⟩) hHeld ?_ ?_
              rotate_left
              · intro w' hS
                obtain ⟨z0, _, z1, _, z2, _, z3, _⟩ := blk4 hS.1
                go_simp
                with_reducible rfl
              rotate_left
              · simp only [Act.put, List.setIfInBounds_toArray, List.set_cons_zero, List.set_cons_succ, i64_w, i32_w]
                rfl
              refine pure_ (i := 11) (N := some 79) (v := ?_) (a' := ?_) #[true, true, true, true, true, true, true, true, true, true, false, true, false, false, false, false, false, false, false, false, false, false, false, false, false, false, false, false, false, false] rfl rfl (by kernel_rfl) (fun _ _ _ h => h) (Or.inl ⟨by rfl, ?_⟩) ?_ ?_
              rotate_left
              · intro w'
                go_simp
                with_reducible rfl
              rotate_left
              · simp only [Act.put, List.setIfInBounds_toArray, List.set_cons_zero, List.set_cons_succ, i64_w, i32_w]
                rfl
              refine pure_ (i := 12) (N := some 80) (v := ?_) (a' := ?_) #[true, true, true, true, true, true, true, true, true, true, false, true, true, false, false, false, false, false, false, false, false, false, false, false, false, false, false, false, false, false] rfl rfl (by kernel_rfl) (fun _ _ _ h => h) (Or.inl ⟨by rfl, ?_⟩) ?_ ?_
              rotate_left
              · intro w'
                go_simp
                with_reducible rfl
              rotate_left
              · simp only [Act.put, List.setIfInBounds_toArray, List.set_cons_zero, List.set_cons_succ, i64_w, i32_w]
                rfl
              refine pure_ (i := 13) (N := some 81) (v := ?_) (a' := ?_) #[true, true, true, true, true, true, true, true, true, true, false, true, true, true, false, false, false, false, false, false, false, false, false, false, false, false, false, false, false, false] rfl rfl (by kernel_rfl) (fun _ _ _ h => h) (Or.inl ⟨by rfl, ?_⟩) ?_ ?_
              rotate_left
              · intro w'
                go_simp
                with_reducible rfl
              rotate_left
              · simp only [Act.put, List.setIfInBounds_toArray, List.set_cons_zero, List.set_cons_succ, i64_w, i32_w]
                rfl
              refine take_ (i := 14) (N := some 82) (v := ?_) (a' := ?_) #[true, true, true, true, true, true, true, true, true, true, false, true, true, true, true, false, false, false, false, false, false, false, false, false, false, false, false, false, false, false] rfl rfl (by kernel_rfl) (fun _ _ _ h => h) (Or.inl ⟨by rfl, ?_⟩) hHeld ?_ ?_
              rotate_left
              · intro w' hS
                obtain ⟨z0, _, z1, _, z2, _, z3, _⟩ := blk4 hS.1
                go_simp
                with_reducible rfl
              rotate_left
              · simp only [Act.put, List.setIfInBounds_toArray, List.set_cons_zero, List.set_cons_succ, i64_w, i32_w]
                rfl
              refine pure_ (i := 15) (N := some 83) (v := ?_) (a' := ?_) #[true, true, true, true, true, true, true, true, true, true, false, true, true, true, true, true, false, false, false, false, false, false, false, false, false, false, false, false, false, false] rfl rfl (by kernel_rfl) (fun _ _ _ h => h) (Or.inl ⟨by rfl, ?_⟩) ?_ ?_
              rotate_left
              · intro w'
                go_simp
                with_reducible rfl
              rotate_left
              · simp only [Act.put, List.setIfInBounds_toArray, List.set_cons_zero, List.set_cons_succ, i64_w, i32_w]
                rfl
              refine pure_ (i := 16) (N := some 84) (v := ?_) (a' := ?_) #[true, true, true, true, true, true, true, true, true, true, false, true, true, true, true, true, true, false, false, false, false, false, false, false, false, false, false, false, false, false] rfl rfl (by kernel_rfl) (fun _ _ _ h => h) (Or.inl ⟨by rfl, ?_⟩) ?_ ?_
              rotate_left
              · intro w'
                go_simp
                with_reducible rfl
              rotate_left
              · simp only [Act.put, List.setIfInBounds_toArray, List.set_cons_zero, List.set_cons_succ, i64_w, i32_w]
                rfl
              refine take_ (i := 17) (N := some 85) (v := ?_) (a' := ?_) #[true, true, true, true, true, true, true, true, true, true, false, true, true, true, true, true, true, true, false, false, false, false, false, false, false, false, false, false, false, false] rfl rfl (by kernel_rfl) (fun _ _ _ h => h) (Or.inl ⟨by rfl, ?_⟩) hHeld ?_ ?_
              rotate_left
              · intro w' hS
                obtain ⟨z0, _, z1, _, z2, _⟩ := blk3 hS.2
                go_simp
                with_reducible rfl
              rotate_left
              · simp only [Act.put, List.setIfInBounds_toArray, List.set_cons_zero, List.set_cons_succ, i64_w, i32_w]
                rfl
              refine one_ (i := 10) (N := some 78) #[true, true, true, true, true, true, true, true, true, true, true, true, true, true, true, true, true, true, false, false, false, false, false, false, false, false, false, false, false, false] rfl rfl (by kernel_rfl) (by decide) (fun K hK => ?_)
              refine goes_ Try.func15 (by kernel_rfl) rfl #[.pointer (some ⟨q1, 0, none⟩)] (by rfl) rfl rfl (by (try simp only [List.map_toArray, List.map_cons, List.map_nil]); first | done | rfl) ?_
              refine (HLA.out).mono ?_
              rintro e w8 ⟨rfl, rfl⟩
              refine ⟨_, rfl, ?_⟩
              refine hK.out _ _ hHeld (fun hHeld => ?_)
              clear hK K
              refine norm_ (a' := ?_) ?_ ?_
              rotate_left
              · show Act.put _ (some 78) _ = _
                simp only [Act.put, List.setIfInBounds_toArray, List.set_cons_zero, List.set_cons_succ, i64_w, i32_w]
                rfl
              refine pure_ (i := 18) (N := some 86) (v := ?_) (a' := ?_) #[true, true, true, true, true, true, true, true, true, true, true, true, true, true, true, true, true, true, true, false, false, false, false, false, false, false, false, false, false, false] rfl rfl (by kernel_rfl) (fun _ _ _ h => h) (Or.inl ⟨by rfl, ?_⟩) ?_ ?_
              rotate_left
              · intro w'
                go_simp
                with_reducible rfl
              rotate_left
              · simp only [Act.put, List.setIfInBounds_toArray, List.set_cons_zero, List.set_cons_succ, i64_w, i32_w]
                rfl
              refine pure_ (i := 19) (N := some 87) (v := ?_) (a' := ?_) #[true, true, true, true, true, true, true, true, true, true, true, true, true, true, true, true, true, true, true, true, false, false, false, false, false, false, false, false, false, false] rfl rfl (by kernel_rfl) (fun _ _ _ h => h) (Or.inl ⟨by rfl, ?_⟩) ?_ ?_
              rotate_left
              · intro w'
                go_simp
                with_reducible rfl
              rotate_left
              · simp only [Act.put, List.setIfInBounds_toArray, List.set_cons_zero, List.set_cons_succ, i64_w, i32_w]
                rfl
              refine pure_ (i := 20) (N := some 88) (v := ?_) (a' := ?_) #[true, true, true, true, true, true, true, true, true, true, true, true, true, true, true, true, true, true, true, true, true, false, false, false, false, false, false, false, false, false] rfl rfl (by kernel_rfl) (fun _ _ _ h => h) (Or.inl ⟨by rfl, ?_⟩) ?_ ?_
              rotate_left
              · intro w'
                go_simp
                with_reducible rfl
              rotate_left
              · simp only [Act.put, List.setIfInBounds_toArray, List.set_cons_zero, List.set_cons_succ, i64_w, i32_w]
                rfl
              refine pure_ (i := 21) (N := some 89) (v := ?_) (a' := ?_) #[true, true, true, true, true, true, true, true, true, true, true, true, true, true, true, true, true, true, true, true, true, true, false, false, false, false, false, false, false, false] rfl rfl (by kernel_rfl) (fun _ _ _ h => h) (Or.inl ⟨by rfl, ?_⟩) ?_ ?_
              rotate_left
              · intro w'
                go_simp
                with_reducible rfl
              rotate_left
              · simp only [Act.put, List.setIfInBounds_toArray, List.set_cons_zero, List.set_cons_succ, i64_w, i32_w]
                rfl
              refine pure_ (i := 22) (N := some 90) (v := ?_) (a' := ?_) #[true, true, true, true, true, true, true, true, true, true, true, true, true, true, true, true, true, true, true, true, true, true, true, false, false, false, false, false, false, false] rfl rfl (by kernel_rfl) (fun _ _ _ h => h) (Or.inl ⟨by rfl, ?_⟩) ?_ ?_
              rotate_left
              · intro w'
                go_simp
                with_reducible rfl
              rotate_left
              · simp only [Act.put, List.setIfInBounds_toArray, List.set_cons_zero, List.set_cons_succ, i64_w, i32_w]
                rfl
              refine take_ (i := 23) (N := some 91) (v := ?_) (a' := ?_) #[true, true, true, true, true, true, true, true, true, true, true, true, true, true, true, true, true, true, true, true, true, true, true, true, false, false, false, false, false, false] rfl rfl (by kernel_rfl) (fun _ _ _ h => h) (Or.inl ⟨by rfl, ?_⟩) hHeld ?_ ?_
              rotate_left
              · intro w' hS
                obtain ⟨z0, _, z1, _, z2, _, z3, _⟩ := blk4 hS.1
                go_simp
                with_reducible rfl
              rotate_left
              · simp only [Act.put, List.setIfInBounds_toArray, List.set_cons_zero, List.set_cons_succ, i64_w, i32_w]
                rfl
              refine pure_ (i := 25) (N := some 93) (v := ?_) (a' := ?_) #[true, true, true, true, true, true, true, true, true, true, true, true, true, true, true, true, true, true, true, true, true, true, true, true, false, true, false, false, false, false] rfl rfl (by kernel_rfl) (fun _ _ _ h => h) (Or.inl ⟨by rfl, ?_⟩) ?_ ?_
              rotate_left
              · intro w'
                go_simp
                with_reducible rfl
              rotate_left
              · simp only [Act.put, List.setIfInBounds_toArray, List.set_cons_zero, List.set_cons_succ, i64_w, i32_w]
                rfl
              refine pure_ (i := 26) (N := some 94) (v := ?_) (a' := ?_) #[true, true, true, true, true, true, true, true, true, true, true, true, true, true, true, true, true, true, true, true, true, true, true, true, false, true, true, false, false, false] rfl rfl (by kernel_rfl) (fun _ _ _ h => h) (Or.inl ⟨by rfl, ?_⟩) ?_ ?_
              rotate_left
              · intro w'
                go_simp
                with_reducible rfl
              rotate_left
              · simp only [Act.put, List.setIfInBounds_toArray, List.set_cons_zero, List.set_cons_succ, i64_w, i32_w]
                rfl
              refine one_ (i := 24) (N := some 92) #[true, true, true, true, true, true, true, true, true, true, true, true, true, true, true, true, true, true, true, true, true, true, true, true, true, true, true, false, false, false] rfl rfl (by kernel_rfl) (by decide) (fun K hK => ?_)
              refine goes_ Try.func17 (by kernel_rfl) rfl #[.pointer (some ⟨q1, 0, none⟩)] (by rfl) rfl rfl (by (try simp only [List.map_toArray, List.map_cons, List.map_nil]); first | done | rfl) ?_
              refine (HSI.out).mono ?_
              rintro e w8 ⟨rfl, rfl⟩
              refine ⟨_, rfl, ?_⟩
              refine hK.out _ _ hHeld (fun hHeld => ?_)
              clear hK K
              refine norm_ (a' := ?_) ?_ ?_
              rotate_left
              · show Act.put _ (some 92) _ = _
                simp only [Act.put, List.setIfInBounds_toArray, List.set_cons_zero, List.set_cons_succ, i64_w, i32_w]
                rfl
              refine pure_ (i := 27) (N := some 95) (v := ?_) (a' := ?_) #[true, true, true, true, true, true, true, true, true, true, true, true, true, true, true, true, true, true, true, true, true, true, true, true, true, true, true, true, false, false] rfl rfl (by kernel_rfl) (fun _ _ _ h => h) (Or.inl ⟨by rfl, ?_⟩) ?_ ?_
              rotate_left
              · intro w'
                go_simp
                with_reducible rfl
              rotate_left
              · simp only [Act.put, List.setIfInBounds_toArray, List.set_cons_zero, List.set_cons_succ, i64_w, i32_w]
                rfl
              refine pure_ (i := 28) (N := some 96) (v := ?_) (a' := ?_) #[true, true, true, true, true, true, true, true, true, true, true, true, true, true, true, true, true, true, true, true, true, true, true, true, true, true, true, true, true, false] rfl rfl (by kernel_rfl) (fun _ _ _ h => h) (Or.inl ⟨by rfl, ?_⟩) ?_ ?_
              rotate_left
              · intro w'
                go_simp
                with_reducible rfl
              rotate_left
              · simp only [Act.put, List.setIfInBounds_toArray, List.set_cons_zero, List.set_cons_succ, i64_w, i32_w]
                rfl
              refine pure_ (i := 29) (N := some 97) (v := ?_) (a' := ?_) #[true, true, true, true, true, true, true, true, true, true, true, true, true, true, true, true, true, true, true, true, true, true, true, true, true, true, true, true, true, true] rfl rfl (by kernel_rfl) (fun _ _ _ h => h) (Or.inl ⟨by rfl, ?_⟩) ?_ ?_
              rotate_left
              · intro w'
                go_simp
                with_reducible rfl
              rotate_left
              · simp only [Act.put, List.setIfInBounds_toArray, List.set_cons_zero, List.set_cons_succ, i64_w, i32_w]
                rfl
              refine done_ (by kernel_rfl) ?_
              go_wp2
              go_roundw
              case rel => exact ⟨j + 1, d6, some (m, dd), by go_num, by omega, by omega, HB7, HL2⟩
              case measure => simp [intOf]; omega
      · have hc' : ¬ j < l.length ∨ (j < l.length ∧ ¬ j < 40) := by omega
        clear hc2
        rcases hc' with he | ⟨he, he2⟩
        all_goals
          go_wp2_with fail
          refine (alive_calls wq).mono ?_
          rintro e w9 ⟨rfl, hb⟩
          have HB9 := Lib.hid (HB.out.bel.trans (hb.mono HB.out.bel.size))
          clear hb
          go_wp2
          go_ret
          exact ⟨rfl, HB9.out⟩
end Go.Proofs.Ytmdojgkgohmghaa.Wal
