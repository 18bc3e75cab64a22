/- Layer device in memory: a struct of five cells, two rows of blocks, a row of writes. -/
import Derived.Test.YtmphnfkohilojaaChecked
import Derived.Test.YtmphnfkohilojaaOwn
import Derived.Test.YtmphnfkohilojaaDevPlain
import Derived.Test.YtmphnfkohilojaaBlk
namespace Go.Proofs.Ytmphnfkohilojaa.Dev
open Go.RowKit Go.Own Go.DevL Go.Blk
set_option linter.unusedVariables false
def wcells (x : Nat × ByteArray) : List Value := .int .i64 (x.1 : Int) :: bcells x.2
def cells5 (gf gn n : Nat) (vl : Value) (f : Int) (dd : Bool) : Array Value := #[.slice (some ⟨gf, 0, none⟩) n n, .slice (some ⟨gn, 0, none⟩) n n, vl, .int .i64 f, .bool dd]
/-- The device d lies at block p, all of it in blocks of F. -/
structure At (F : Nat → Prop) (w : World) (p gf gn : Nat) (vl : Value) (d : Dv) : Prop where
  ok : d.OK
  fp : F p
  ff : F gf
  fn : F gn
  fl : ∀ k, vl.ownBlock = some k → F k
  n1 : p ≠ gf ∧ p ≠ gn ∧ gf ≠ gn
  n2 : ∀ k, vl.ownBlock = some k → k ≠ p ∧ k ≠ gf ∧ k ≠ gn
  hp : w.heap[p]? = some (.cells #[.slice (some ⟨gf, 0, none⟩) d.firm.length d.firm.length, .slice (some ⟨gn, 0, none⟩) d.firm.length d.firm.length, vl, .int .i64 d.fuse, .bool d.dead] 63 (0, 0))
  hf : w.heap[gf]? = some (.cells (d.firm.flatMap bcells).toArray 66 (0, 0))
  hn : w.heap[gn]? = some (.cells (d.now.flatMap bcells).toArray 66 (0, 0))
  hl : w.ownsRow 0 68 257 vl d.late.length (d.late.flatMap wcells)
  lt : ∀ k, F k → k < w.heap.size
variable {F : Nat → Prop} {w w' : World} {p gf gn : Nat} {vl : Value} {d : Dv}
theorem lens {l : List ByteArray} (h : ∀ b ∈ l, b.size = 256) : ∀ b ∈ l, (bcells b).length = 256 := fun b hb => (bcells_length b).trans (h b hb)
theorem At.lensf (h : At F w p gf gn vl d) : ∀ b ∈ d.firm, (bcells b).length = 256 := lens h.ok.sz
theorem At.lensn (h : At F w p gf gn vl d) : ∀ b ∈ d.now, (bcells b).length = 256 := lens h.ok.now_size
theorem At.lensl (h : At F w p gf gn vl d) : ∀ x ∈ d.late, (wcells x).length = 257 := fun x hx => by simp [wcells, bcells_length, (h.ok.la x hx).2]
/-- Blocks of others may turn. -/
theorem At.keep {G : Nat → Prop} (h : At F w p gf gn vl d) (hF : Fr G w w') (hG : ∀ k, F k → ¬ G k) : At F w' p gf gn vl d :=
  { h with hp := hF.at h.hp (hG _ h.fp), hf := hF.at h.hf (hG _ h.ff), hn := hF.at h.hn (hG _ h.fn), hl := hF.row h.hl (fun k hk => hG _ (h.fl k hk)), lt := fun k hk => Nat.lt_of_lt_of_le (h.lt k hk) hF.size }
theorem At.below (h : At F w p gf gn vl d) (hb : Below w.heap.size w w') : At F w' p gf gn vl d := h.keep (Fr.of_below (F := fun _ => False) hb) (fun _ _ => id)
theorem At.drew (h : At F w p gf gn vl d) : At F w.drew p gf gn vl d := h.keep (Fr.drew (fun _ => False) w) (fun _ _ => id)
/-- A cell of the struct is stored. -/
theorem At.set (h : At F w p gf gn vl d) (i : Nat) (u : Value) {vl' : Value} {d' : Dv} (hok : d'.OK) (hfl : ∀ k, vl'.ownBlock = some k → F k) (hn2 : ∀ k, vl'.ownBlock = some k → k ≠ p ∧ k ≠ gf ∧ k ≠ gn)
    (hc : (#[.slice (some ⟨gf, 0, none⟩) d.firm.length d.firm.length, .slice (some ⟨gn, 0, none⟩) d.firm.length d.firm.length, vl, .int .i64 d.fuse, .bool d.dead] : Array Value).setIfInBounds i u = #[.slice (some ⟨gf, 0, none⟩) d'.firm.length d'.firm.length, .slice (some ⟨gn, 0, none⟩) d'.firm.length d'.firm.length, vl', .int .i64 d'.fuse, .bool d'.dead])
    (hf : d'.firm = d.firm) (hn : d'.now = d.now) (hl : w.ownsRow 0 68 257 vl' d'.late.length (d'.late.flatMap wcells)) : At F (w.setCell ⟨p, i, none⟩ u) p gf gn vl' d' where
  ok := hok
  fp := h.fp
  ff := h.ff
  fn := h.fn
  fl := hfl
  n1 := h.n1
  n2 := hn2
  hp := by rw [← hc]; exact set_at h.hp i u
  hf := by rw [hf]; exact set_far h.hf (fun e => h.n1.1 e.symm) u
  hn := by rw [hn]; exact set_far h.hn (fun e => h.n1.2.1 e.symm) u
  hl := row_kept hl fun k hk => Below.heap_setCell w ⟨p, i, none⟩ u k (hn2 k hk).1
  lt := fun k hk => by rw [World.setCell]; simpa using h.lt k hk
theorem At.set_fuse (h : At F w p gf gn vl d) (f : Int) (h1 : -1 ≤ f) (h2 : f ≤ 9223372036854775807) : At F (w.setCell ⟨p, 3, none⟩ (.int .i64 f)) p gf gn vl { d with fuse := f } :=
  h.set 3 _ ⟨h.ok.n1, h.ok.n2, h.ok.sz, h.ok.la, h1, h2⟩ h.fl h.n2 rfl rfl rfl h.hl
theorem At.set_dead (h : At F w p gf gn vl d) (b : Bool) : At F (w.setCell ⟨p, 4, none⟩ (.bool b)) p gf gn vl { d with dead := b } :=
  h.set 4 _ ⟨h.ok.n1, h.ok.n2, h.ok.sz, h.ok.la, h.ok.f1, h.ok.f2⟩ h.fl h.n2 rfl rfl rfl h.hl
theorem At.frp (h : At F w p gf gn vl d) (i : Nat) (u : Value) : Fr F w (w.setCell ⟨p, i, none⟩ u) := Fr.setCell w h.fp u
/-! ### what does no more than look -/
set_option maxHeartbeats 400000 in
theorem dead_calls (h : At F w p gf gn vl d) : Calls Try.prog 18 #[.pointer (some ⟨p, 0, none⟩)] w fun e w' => e = .returned (.bool d.dead) ∧ w = w' := by
  have hx := blk5 h.hp
  clear h
  obtain ⟨x0, y0, x1, y1, x2, y2, x3, y3, x4, y4⟩ := hx
  go_enter Try.func18, Try.ntmps18
  go_wp2
  go_ret
  exact ⟨rfl, rfl⟩
set_option maxHeartbeats 400000 in
theorem blocks_calls (h : At F w p gf gn vl d) : Calls Try.prog 25 #[.pointer (some ⟨p, 0, none⟩)] w fun e w' => e = .returned (.int .i64 d.firm.length) ∧ w = w' := by
  have hx := blk5 h.hp
  clear h
  obtain ⟨x0, y0, x1, y1, x2, y2, x3, y3, x4, y4⟩ := hx
  go_enter Try.func25, Try.ntmps25
  go_wp2
  go_ret
  exact ⟨rfl, rfl⟩
set_option maxHeartbeats 400000 in
theorem unsettled_calls (h : At F w p gf gn vl d) : Calls Try.prog 20 #[.pointer (some ⟨p, 0, none⟩)] w fun e w' => e = .returned (.int .i64 d.late.length) ∧ w = w' := by
  have hx := blk5 h.hp
  obtain ⟨a, cap, rfl, _⟩ := row_form h.hl
  clear h
  obtain ⟨x0, y0, x1, y1, x2, y2, x3, y3, x4, y4⟩ := hx
  go_enter Try.func20, Try.ntmps20
  go_wp2
  go_ret
  exact ⟨rfl, rfl⟩
set_option maxHeartbeats 400000 in
theorem fuse_calls (h : At F w p gf gn vl d) (n : Int) (hn : n ≤ 9223372036854775807) : Calls Try.prog 17 #[.pointer (some ⟨p, 0, none⟩), .int .i64 n] w fun e w' => e = .returned (.tuple #[]) ∧ At F w' p gf gn vl (d.light n) ∧ Fr F w w' := by
  have hx := blk5 h.hp
  have H := Lib.hid h
  clear h
  obtain ⟨x0, y0, x1, y1, x2, y2, x3, y3, x4, y4⟩ := hx
  go_enter Try.func17, Try.ntmps17
  go_wp2
  · go_end0
    refine ⟨rfl, ?_, H.out.frp _ _⟩
    have h1 := H.out.set_fuse (-1) (by omega) (by omega)
    have e : d.light n = { d with fuse := -1 } := by
      unfold Dv.light
      split
      · rfl
      · congr 1 <;> omega
    rw [e]; exact h1
  · go_end0
    refine ⟨rfl, ?_, H.out.frp _ _⟩
    have h1 := H.out.set_fuse n (by omega) hn
    have e : d.light n = { d with fuse := n } := by unfold Dv.light; rw [if_neg (by omega)]
    rw [e]; exact h1
set_option maxHeartbeats 400000 in
theorem burn_yes (h : At F w p gf gn vl d) (hb : d.burns = true) : Calls Try.prog 26 #[.pointer (some ⟨p, 0, none⟩)] w fun e w' => e = .returned (.int .i64 5) ∧ At F w' p gf gn vl d.die ∧ Fr F w w' := by
  have hx := blk5 h.hp
  have H := Lib.hid h
  clear h
  obtain ⟨x0, y0, x1, y1, x2, y2, x3, y3, x4, y4⟩ := hx
  have HB := Lib.hid hb
  clear hb
  go_enter Try.func26, Try.ntmps26
  go_wp2
  · go_ret
    exact ⟨rfl, H.out.set_dead true, H.out.frp _ _⟩
  · go_ret
    exact ⟨rfl, H.out.set_dead true, H.out.frp _ _⟩
  all_goals
    exfalso
    have := HB.out
    simp_all [Dv.burns]
set_option maxHeartbeats 400000 in
theorem burn_no (h : At F w p gf gn vl d) (hb : d.burns = false) : Calls Try.prog 26 #[.pointer (some ⟨p, 0, none⟩)] w fun e w' => e = .returned (.int .i64 0) ∧ At F w' p gf gn vl { d with fuse := less d.fuse } ∧ Fr F w w' := by
  have hx := blk5 h.hp
  have H := Lib.hid h
  clear h
  obtain ⟨x0, y0, x1, y1, x2, y2, x3, y3, x4, y4⟩ := hx
  have HB := Lib.hid hb
  have hu := H.out.ok.f2
  clear hb
  go_enter Try.func26, Try.ntmps26
  go_wp2
  · exfalso
    have := HB.out
    simp_all [Dv.burns]
  · exfalso
    have := HB.out
    simp_all [Dv.burns]
  · go_ret
    have hlt : 0 < d.fuse := by assumption
    refine ⟨rfl, ?_, H.out.frp _ _⟩
    have h1 := H.out.set_fuse (d.fuse - 1) (by omega) (by omega)
    rw [show less d.fuse = d.fuse - 1 by unfold less; rw [if_pos hlt]]
    exact h1
  · go_ret
    have hlt : d.fuse ≤ 0 := by assumption
    refine ⟨rfl, ?_, Fr.refl _ _⟩
    rw [show less d.fuse = d.fuse by unfold less; rw [if_neg (by omega)]]
    exact H.out
end Go.Proofs.Ytmphnfkohilojaa.Dev
