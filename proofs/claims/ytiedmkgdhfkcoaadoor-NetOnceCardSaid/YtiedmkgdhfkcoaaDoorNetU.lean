/- Layer net: a law's two nets, the program's and the document's; acts in memory. -/
import Derived.Test.YtiedmkgdhfkcoaaDoorNetQS
import Derived.Test.YtiedmkgdhfkcoaaDoorArr
namespace Go.Proofs.YtiedmkgdhfkcoaaDoor.Net
open Go.RowKit Go.Sees Go.Own Go.Blk Go.OpsL Go.XdrL Go.PktL Go.Proofs.YtiedmkgdhfkcoaaDoor.Pkt Go.Proofs.YtiedmkgdhfkcoaaDoorW.PrintLast Go.Proofs.YtiedmkgdhfkcoaaDoorW.PrintWords
set_option linter.unusedVariables false
set_option linter.unusedSimpArgs false
set_option maxRecDepth 100000
/-- The program's net at p and the document's at m, each with its own packets, beside the blocks X. -/
structure Two (w0 w : World) (p m : Nat) (l e : List Pk) (X : List Nat) : Prop where
  has : ∃ F G, NHas F w p l ∧ MHas G w m e ∧ (∀ k, F k → w0.heap.size ≤ k ∧ ¬ G k ∧ k ∉ X) ∧ ∀ k, G k → w0.heap.size ≤ k ∧ k ∉ X
  xs : ∀ x ∈ X, x < w.heap.size
  bel : Below w0.heap.size w0 w
variable {w0 w w' : World} {p m : Nat} {l l' e e' : List Pk} {X : List Nat}
theorem Two.few (h : Two w0 w p m l e X) : l.length ≤ 200 := by obtain ⟨F, G, h, _⟩ := h.has; exact h.few
theorem Two.ok (h : Two w0 w p m l e X) : ∀ s ∈ l, s.OK ∧ right s = true := by obtain ⟨F, G, h, _⟩ := h.has; exact h.ok
theorem Two.below (h : Two w0 w p m l e X) (hb : Below w.heap.size w w') : Two w0 w' p m l e X :=
  ⟨h.has.elim fun F ⟨G, h1, h2, h3, h4⟩ => ⟨F, G, h1.below hb, h2.below hb, h3, h4⟩, fun x hx => Nat.lt_of_lt_of_le (h.xs x hx) hb.size, h.bel.trans (hb.mono h.bel.size)⟩
theorem Two.add (h : Two w0 w p m l e X) (hb : Below w.heap.size w w') {x : Nat} (h1 : w.heap.size ≤ x) (h2 : x < w'.heap.size) : Two w0 w' p m l e (x :: X) := by
  obtain ⟨F, G, k1, k2, k3, k4⟩ := h.has
  refine ⟨⟨F, G, k1.below hb, k2.below hb, fun k hk => ⟨(k3 k hk).1, (k3 k hk).2.1, fun hx => ?_⟩, fun k hk => ⟨(k4 k hk).1, fun hx => ?_⟩⟩, fun y hy => ?_, h.bel.trans (hb.mono h.bel.size)⟩
  · rcases List.mem_cons.1 hx with e | e
    · have := k1.lt k hk; omega
    · exact (k3 k hk).2.2 e
  · rcases List.mem_cons.1 hx with e | e
    · have := k2.lt k hk; omega
    · exact (k4 k hk).2 e
  · rcases List.mem_cons.1 hy with e | e
    · omega
    · exact Nat.lt_of_lt_of_le (h.xs y e) hb.size
theorem Two.less (h : Two w0 w p m l e X) {Y : List Nat} (hY : ∀ y ∈ Y, y ∈ X) : Two w0 w p m l e Y :=
  ⟨h.has.elim fun F ⟨G, k1, k2, k3, k4⟩ => ⟨F, G, k1, k2, fun k hk => ⟨(k3 k hk).1, (k3 k hk).2.1, fun hx => (k3 k hk).2.2 (hY k hx)⟩, fun k hk => ⟨(k4 k hk).1, fun hx => (k4 k hk).2 (hY k hx)⟩⟩, fun y hy => h.xs y (hY y hy), h.bel⟩
theorem Two.kept (h : Two w0 w p m l e X) (hb : Below w.heap.size w w') : Kept X w w' := fun x hx => hb.block x (h.xs x hx)
theorem Two.stepN {F G : Nat → Prop} (h : Two w0 w p m l e X) (h2 : MHas G w m e) (h3 : ∀ k, F k → w0.heap.size ≤ k ∧ ¬ G k ∧ k ∉ X) (h4 : ∀ k, G k → w0.heap.size ≤ k ∧ k ∉ X) (hn : NHas (Up F w w') w' p l') (hf : Fr F w w') : Two w0 w' p m l' e X ∧ Kept X w w' := by
  refine ⟨⟨⟨_, G, hn, h2.keep hf (fun k hk hF => (h3 k hF).2.1 hk), fun k hk => ?_, h4⟩, fun x hx => Nat.lt_of_lt_of_le (h.xs x hx) hf.size, h.bel.trans (hf.below h.bel.size (fun k hk => (h3 k hk).1))⟩, fun x hx => hf.block x (h.xs x hx) (fun k => (h3 x k).2.2 hx)⟩
  rcases hk with hk | hk
  · exact h3 k hk
  · exact ⟨by have := h.bel.size; omega, fun hG => by have := h2.lt k hG; omega, fun hx => by have := h.xs k hx; omega⟩
theorem Two.stepM {F G : Nat → Prop} (h : Two w0 w p m l e X) (h1 : NHas F w p l) (h3 : ∀ k, F k → w0.heap.size ≤ k ∧ ¬ G k ∧ k ∉ X) (h4 : ∀ k, G k → w0.heap.size ≤ k ∧ k ∉ X) (hn : MHas (Up G w w') w' m e') (hf : Fr G w w') : Two w0 w' p m l e' X ∧ Kept X w w' := by
  refine ⟨⟨⟨F, _, h1.keep hf (fun k hk hG => (h3 k hk).2.1 hG), hn, fun k hk => ⟨(h3 k hk).1, fun hu => ?_, (h3 k hk).2.2⟩, fun k hk => ?_⟩, fun x hx => Nat.lt_of_lt_of_le (h.xs x hx) hf.size, h.bel.trans (hf.below h.bel.size (fun k hk => (h4 k hk).1))⟩, fun x hx => hf.block x (h.xs x hx) (fun k => (h4 x k).2 hx)⟩
  · rcases hu with hu | hu
    · exact (h3 k hk).2.1 hu
    · have := h1.lt k hk; omega
  · rcases hk with hk | hk
    · exact h4 k hk
    · exact ⟨by have := h.bel.size; omega, fun hx => by have := h.xs k hx; omega⟩
theorem two_send (h : Two w0 w p m l e X) (s : Pk) (hs : s.OK) : Calls Tryd.prog 19 #[.pointer (some ⟨p, 0, none⟩), .agg #[.int .i64 s.kind, .int .i64 s.fr, .int .i64 s.to, .int .u32 (s.life : Int), .int .u32 (s.seq : Int), .int .u32 (s.asked : Int), .int .u32 (s.boot : Int), .int .i64 s.code, .int .i64 s.err, .int .u32 (s.file : Int), .int .u32 (s.epoch : Int), .int .u32 (s.off : Int), .int .u32 (s.len : Int), .int .u32 (s.size : Int), .int .u32 (s.mode : Int), .int .u32 (s.deny : Int), .int .u32 (s.handle : Int), .string s.path, .string s.other, .string s.data]] w fun r w' => ∃ c l', sendR l s = (c, l') ∧ r = .returned (.int .i64 c) ∧ Two w0 w' p m l' e X ∧ Kept X w w' := by
  obtain ⟨F, G, h1, h2, h3, h4⟩ := h.has
  exact (send_has h1 s hs).mono fun r w' ⟨c, l2, he, hr, hn, hf⟩ => ⟨c, l2, he, hr, h.stepN h2 h3 h4 hn hf⟩
theorem two_take (h : Two w0 w p m l e X) (i : Int) : Calls Tryd.prog 21 #[.pointer (some ⟨p, 0, none⟩), .int .i64 i] w fun r w' => ∃ s c l', takeR l i = (s, c, l') ∧ r = .returned (.tuple #[.agg #[.int .i64 s.kind, .int .i64 s.fr, .int .i64 s.to, .int .u32 (s.life : Int), .int .u32 (s.seq : Int), .int .u32 (s.asked : Int), .int .u32 (s.boot : Int), .int .i64 s.code, .int .i64 s.err, .int .u32 (s.file : Int), .int .u32 (s.epoch : Int), .int .u32 (s.off : Int), .int .u32 (s.len : Int), .int .u32 (s.size : Int), .int .u32 (s.mode : Int), .int .u32 (s.deny : Int), .int .u32 (s.handle : Int), .string s.path, .string s.other, .string s.data], .int .i64 c]) ∧ Two w0 w' p m l' e X ∧ Kept X w w' := by
  obtain ⟨F, G, h1, h2, h3, h4⟩ := h.has
  exact (take_has h1 i).mono fun r w' ⟨s, c, l2, he, hr, hn, hf⟩ => ⟨s, c, l2, he, hr, h.stepN h2 h3 h4 hn hf⟩
theorem two_drop (h : Two w0 w p m l e X) (i : Int) : Calls Tryd.prog 23 #[.pointer (some ⟨p, 0, none⟩), .int .i64 i] w fun r w' => ∃ c l', dropR l i = (c, l') ∧ r = .returned (.int .i64 c) ∧ Two w0 w' p m l' e X ∧ Kept X w w' := by
  obtain ⟨F, G, h1, h2, h3, h4⟩ := h.has
  exact (drop_has h1 i).mono fun r w' ⟨c, l2, he, hr, hn, hf⟩ => ⟨c, l2, he, hr, h.stepN h2 h3 h4 hn hf⟩
theorem two_double (h : Two w0 w p m l e X) (i : Int) : Calls Tryd.prog 24 #[.pointer (some ⟨p, 0, none⟩), .int .i64 i] w fun r w' => ∃ c l', doubleR l i = (c, l') ∧ r = .returned (.int .i64 c) ∧ Two w0 w' p m l' e X ∧ Kept X w w' := by
  obtain ⟨F, G, h1, h2, h3, h4⟩ := h.has
  exact (double_has h1 i).mono fun r w' ⟨c, l2, he, hr, hn, hf⟩ => ⟨c, l2, he, hr, h.stepN h2 h3 h4 hn hf⟩
theorem two_move (h : Two w0 w p m l e X) (i j : Int) : Calls Tryd.prog 26 #[.pointer (some ⟨p, 0, none⟩), .int .i64 i, .int .i64 j] w fun r w' => ∃ c l', moveR l i j = (c, l') ∧ r = .returned (.int .i64 c) ∧ Two w0 w' p m l' e X ∧ Kept X w w' := by
  obtain ⟨F, G, h1, h2, h3, h4⟩ := h.has
  exact (move_has h1 i j).mono fun r w' ⟨c, l2, he, hr, hn, hf⟩ => ⟨c, l2, he, hr, h.stepN h2 h3 h4 hn hf⟩
theorem two_dsend (h : Two w0 w p m l e X) (s : Pk) (hs : s.OK) : Calls Tryd.prog 20 #[.pointer (some ⟨m, 0, none⟩), .agg #[.int .i64 s.kind, .int .i64 s.fr, .int .i64 s.to, .int .u32 (s.life : Int), .int .u32 (s.seq : Int), .int .u32 (s.asked : Int), .int .u32 (s.boot : Int), .int .i64 s.code, .int .i64 s.err, .int .u32 (s.file : Int), .int .u32 (s.epoch : Int), .int .u32 (s.off : Int), .int .u32 (s.len : Int), .int .u32 (s.size : Int), .int .u32 (s.mode : Int), .int .u32 (s.deny : Int), .int .u32 (s.handle : Int), .string s.path, .string s.other, .string s.data]] w fun r w' => ∃ c l', sendR e s = (c, l') ∧ r = .returned (.int .i64 c) ∧ Two w0 w' p m l l' X ∧ Kept X w w' := by
  obtain ⟨F, G, h1, h2, h3, h4⟩ := h.has
  exact (dsend_has h2 s hs).mono fun r w' ⟨c, l2, he, hr, hn, hf⟩ => ⟨c, l2, he, hr, h.stepM h1 h3 h4 hn hf⟩
theorem two_dtake (h : Two w0 w p m l e X) (i : Int) : Calls Tryd.prog 22 #[.pointer (some ⟨m, 0, none⟩), .int .i64 i] w fun r w' => ∃ s c l', takeR e i = (s, c, l') ∧ r = .returned (.tuple #[.agg #[.int .i64 s.kind, .int .i64 s.fr, .int .i64 s.to, .int .u32 (s.life : Int), .int .u32 (s.seq : Int), .int .u32 (s.asked : Int), .int .u32 (s.boot : Int), .int .i64 s.code, .int .i64 s.err, .int .u32 (s.file : Int), .int .u32 (s.epoch : Int), .int .u32 (s.off : Int), .int .u32 (s.len : Int), .int .u32 (s.size : Int), .int .u32 (s.mode : Int), .int .u32 (s.deny : Int), .int .u32 (s.handle : Int), .string s.path, .string s.other, .string s.data], .int .i64 c]) ∧ Two w0 w' p m l l' X ∧ Kept X w w' := by
  obtain ⟨F, G, h1, h2, h3, h4⟩ := h.has
  exact (dtake_has h2 i).mono fun r w' ⟨s, c, l2, he, hr, hn, hf⟩ => ⟨s, c, l2, he, hr, h.stepM h1 h3 h4 hn hf⟩
theorem two_ddouble (h : Two w0 w p m l e X) (i : Int) : Calls Tryd.prog 25 #[.pointer (some ⟨m, 0, none⟩), .int .i64 i] w fun r w' => ∃ c l', doubleR e i = (c, l') ∧ r = .returned (.int .i64 c) ∧ Two w0 w' p m l l' X ∧ Kept X w w' := by
  obtain ⟨F, G, h1, h2, h3, h4⟩ := h.has
  exact (ddouble_has h2 i).mono fun r w' ⟨c, l2, he, hr, hn, hf⟩ => ⟨c, l2, he, hr, h.stepM h1 h3 h4 hn hf⟩
theorem two_dmove (h : Two w0 w p m l e X) (i j : Int) : Calls Tryd.prog 27 #[.pointer (some ⟨m, 0, none⟩), .int .i64 i, .int .i64 j] w fun r w' => ∃ c l', moveR e i j = (c, l') ∧ r = .returned (.int .i64 c) ∧ Two w0 w' p m l l' X ∧ Kept X w w' := by
  obtain ⟨F, G, h1, h2, h3, h4⟩ := h.has
  exact (dmove_has h2 i j).mono fun r w' ⟨c, l2, he, hr, hn, hf⟩ => ⟨c, l2, he, hr, h.stepM h1 h3 h4 hn hf⟩
theorem two_len (h : Two w0 w p m l e X) : Calls Tryd.prog 28 #[.pointer (some ⟨p, 0, none⟩)] w fun r w' => r = .returned (.int .i64 l.length) ∧ w' = w := by obtain ⟨F, G, h, _⟩ := h.has; exact len_has h
theorem two_at (h : Two w0 w p m l e X) (i : Int) : Calls Tryd.prog 29 #[.pointer (some ⟨p, 0, none⟩), .int .i64 i] w fun r w' => r = .returned (.string (atR l i)) ∧ w' = w := by obtain ⟨F, G, h, _⟩ := h.has; exact at_has h i
theorem Two.struct (h : Two w0 w p m l e X) : ∃ a c, w.heap[m]? = some (.cells #[.slice a e.length c] 50 (0, 0)) ∧ ∀ k (hk : k < e.length), ∃ g, a = some ⟨g, 0, none⟩ ∧ w.rangeAt g (k * 20) (pcells e[k]) := by
  obtain ⟨F, G, _, h2, _⟩ := h.has
  obtain ⟨v, hm, _⟩ := h2.at_
  obtain ⟨a, c, rfl, _⟩ := part_form hm.row
  refine ⟨a, c, hm.blk, fun k hk => ?_⟩
  obtain ⟨g, c', e1, hr⟩ := part_get hm.row k hk
  cases e1
  exact ⟨g, rfl, hr⟩
/-- Two new nets. -/
theorem two_new {w0 w : World} (h : Below w0.heap.size w0 w) : Two w0 ((w.alloc (.cells #[.slice none 0 0] 46)).alloc (.cells #[.slice none 0 0] 50)) w.heap.size (w.heap.size + 1) [] [] [] := by
  have hb1 : Below w.heap.size w (w.alloc (.cells #[.slice none 0 0] 46)) := (Below.refl _ _).alloc (Nat.le_refl _) _
  have hb2 : Below (w.alloc (.cells #[.slice none 0 0] 46)).heap.size (w.alloc (.cells #[.slice none 0 0] 46)) ((w.alloc (.cells #[.slice none 0 0] 46)).alloc (.cells #[.slice none 0 0] 50)) := (Below.refl _ _).alloc (Nat.le_refl _) _
  have hs1 := alloc_size w (.cells #[.slice none 0 0] 46)
  have hs2 := alloc_size (w.alloc (.cells #[.slice none 0 0] 46)) (.cells #[.slice none 0 0] 50)
  have a2 := alloc_at (w.alloc (.cells #[.slice none 0 0] 46)) (.cells #[.slice none 0 0] 50)
  rw [hs1] at a2
  refine ⟨⟨fun k => k = w.heap.size, fun k => k = w.heap.size + 1, ⟨⟨.slice none 0 0, ⟨alloc_old (alloc_at w _) _, part_of_own (World.ownsRow_nil ..), by simp [Value.ownBlock], by simp⟩, fun k hk => ?_⟩, fun k hk => by omega, fun s hs => by simp at hs⟩, ⟨⟨.slice none 0 0, ⟨a2, part_of_own (World.ownsRow_nil ..), by simp [Value.ownBlock], by simp⟩, fun k hk => ?_⟩, fun k hk => by omega⟩, fun k hk => ⟨by have := h.size; omega, by omega, by simp⟩, fun k hk => ⟨by have := h.size; omega, by simp⟩⟩, fun x hx => by simp at hx, (h.trans (hb1.mono h.size)).trans (hb2.mono (by have := h.size; omega))⟩
  · rcases hk with hk | hk
    · exact hk
    · simp [Value.ownBlock] at hk
  · rcases hk with hk | hk
    · exact hk
    · simp [Value.ownBlock] at hk
/-! ### acts -/
structure SA where
  k : Int
  n : Int
  t : Int
  p : Pk
def acells (x : SA) : List Value := [.int .i64 x.k, .int .i64 x.n, .int .i64 x.t, .int .i64 x.p.kind, .int .i64 x.p.fr, .int .i64 x.p.to, .int .u32 (x.p.life : Int), .int .u32 (x.p.seq : Int), .int .u32 (x.p.asked : Int), .int .u32 (x.p.boot : Int), .int .i64 x.p.code, .int .i64 x.p.err, .int .u32 (x.p.file : Int), .int .u32 (x.p.epoch : Int), .int .u32 (x.p.off : Int), .int .u32 (x.p.len : Int), .int .u32 (x.p.size : Int), .int .u32 (x.p.mode : Int), .int .u32 (x.p.deny : Int), .int .u32 (x.p.handle : Int), .string x.p.path, .string x.p.other, .string x.p.data]
def AAt (w : World) (g : Nat) (x : SA) : Prop := w.heap[g]? = some (.cells #[.int .i64 x.k, .int .i64 x.n, .int .i64 x.t, .int .i64 x.p.kind, .int .i64 x.p.fr, .int .i64 x.p.to, .int .u32 (x.p.life : Int), .int .u32 (x.p.seq : Int), .int .u32 (x.p.asked : Int), .int .u32 (x.p.boot : Int), .int .i64 x.p.code, .int .i64 x.p.err, .int .u32 (x.p.file : Int), .int .u32 (x.p.epoch : Int), .int .u32 (x.p.off : Int), .int .u32 (x.p.len : Int), .int .u32 (x.p.size : Int), .int .u32 (x.p.mode : Int), .int .u32 (x.p.deny : Int), .int .u32 (x.p.handle : Int), .string x.p.path, .string x.p.other, .string x.p.data] 52 (0, 0))
def SA.OK (x : SA) : Prop := I64 x.n ∧ I64 x.t ∧ x.p.OK
theorem act_info : (Tryd.prog.info? 52).map (·.size) = some 23 := by kernel_rfl
theorem AAt.below {g : Nat} {x : SA} (h : AAt w g x) (hb : Below w.heap.size w w') : AAt w' g x := below_old h hb
theorem AAt.head {g : Nat} {x : SA} (h : AAt w g x) : w.cell? ⟨g, 0, none⟩ = some (.int .i64 x.k) ∧ w.cell? ⟨g, 1, none⟩ = some (.int .i64 x.n) ∧ w.cell? ⟨g, 2, none⟩ = some (.int .i64 x.t) :=
  ⟨(cell_at h 0).trans rfl, (cell_at h 1).trans rfl, (cell_at h 2).trans rfl⟩
theorem AAt.pk {g : Nat} {x : SA} (h : AAt w g x) : w.rangeAt g 3 (pcells x.p) := fun j v hv => by
  have hj : j < 20 := (List.getElem?_eq_some_iff.1 hv).1
  rw [cell_at h, ← hv]
  match j, hj with
  | 0, _ => rfl
  | 1, _ => rfl
  | 2, _ => rfl
  | 3, _ => rfl
  | 4, _ => rfl
  | 5, _ => rfl
  | 6, _ => rfl
  | 7, _ => rfl
  | 8, _ => rfl
  | 9, _ => rfl
  | 10, _ => rfl
  | 11, _ => rfl
  | 12, _ => rfl
  | 13, _ => rfl
  | 14, _ => rfl
  | 15, _ => rfl
  | 16, _ => rfl
  | 17, _ => rfl
  | 18, _ => rfl
  | 19, _ => rfl
theorem acells_one (x : SA) : ∀ v ∈ acells x, v.oneCell' = true := by
  intro v hv
  simp only [acells, List.mem_cons, List.not_mem_nil, or_false] at hv
  rcases hv with rfl | rfl | rfl | rfl | rfl | rfl | rfl | rfl | rfl | rfl | rfl | rfl | rfl | rfl | rfl | rfl | rfl | rfl | rfl | rfl | rfl | rfl | rfl <;> rfl
/-- The whole act is read. -/
theorem run_loadA (w : World) (g o : Nat) (x : SA) (h : w.rangeAt g o (acells x)) : (Instr.loadAt 52 (.pointer (some ⟨g, o, none⟩))).run Tryd.prog w = .ok (.agg #[.int .i64 x.k, .int .i64 x.n, .int .i64 x.t, .int .i64 x.p.kind, .int .i64 x.p.fr, .int .i64 x.p.to, .int .u32 (x.p.life : Int), .int .u32 (x.p.seq : Int), .int .u32 (x.p.asked : Int), .int .u32 (x.p.boot : Int), .int .i64 x.p.code, .int .i64 x.p.err, .int .u32 (x.p.file : Int), .int .u32 (x.p.epoch : Int), .int .u32 (x.p.off : Int), .int .u32 (x.p.len : Int), .int .u32 (x.p.size : Int), .int .u32 (x.p.mode : Int), .int .u32 (x.p.deny : Int), .int .u32 (x.p.handle : Int), .string x.p.path, .string x.p.other, .string x.p.data]) w := by
  have hv := run_loadVar_mid (P := Tryd.prog) w g o 52 _ _ h Tryd.underlying52 rfl act_info
  simp only [Instr.loadAt, Instr.sureAddr, Sem.run_bind, Sem.run_pure, Result.andThen_ok, hv]
  rfl
/-- An act stored into a fresh variable. -/
theorem fresh_act (w : World) (x : SA) : ∃ w', (Instr.storeAt 52 (.pointer (some ⟨w.heap.size, 0, none⟩)) (.agg #[.int .i64 x.k, .int .i64 x.n, .int .i64 x.t, .int .i64 x.p.kind, .int .i64 x.p.fr, .int .i64 x.p.to, .int .u32 (x.p.life : Int), .int .u32 (x.p.seq : Int), .int .u32 (x.p.asked : Int), .int .u32 (x.p.boot : Int), .int .i64 x.p.code, .int .i64 x.p.err, .int .u32 (x.p.file : Int), .int .u32 (x.p.epoch : Int), .int .u32 (x.p.off : Int), .int .u32 (x.p.len : Int), .int .u32 (x.p.size : Int), .int .u32 (x.p.mode : Int), .int .u32 (x.p.deny : Int), .int .u32 (x.p.handle : Int), .string x.p.path, .string x.p.other, .string x.p.data])).run Tryd.prog (w.alloc (.cells #[.int .i64 0, .int .i64 0, .int .i64 0, .int .i64 0, .int .i64 0, .int .i64 0, .int .u32 0, .int .u32 0, .int .u32 0, .int .u32 0, .int .i64 0, .int .i64 0, .int .u32 0, .int .u32 0, .int .u32 0, .int .u32 0, .int .u32 0, .int .u32 0, .int .u32 0, .int .u32 0, .string ⟨#[]⟩, .string ⟨#[]⟩, .string ⟨#[]⟩] 52)) = .ok () w' ∧ AAt w' w.heap.size x ∧ Below w.heap.size w w' := by
  have ha := alloc_at w (.cells #[.int .i64 0, .int .i64 0, .int .i64 0, .int .i64 0, .int .i64 0, .int .i64 0, .int .u32 0, .int .u32 0, .int .u32 0, .int .u32 0, .int .i64 0, .int .i64 0, .int .u32 0, .int .u32 0, .int .u32 0, .int .u32 0, .int .u32 0, .int .u32 0, .int .u32 0, .int .u32 0, .string ⟨#[]⟩, .string ⟨#[]⟩, .string ⟨#[]⟩] 52)
  have hr := run_storeAt_row (P := Tryd.prog) (w.alloc (.cells #[.int .i64 0, .int .i64 0, .int .i64 0, .int .i64 0, .int .i64 0, .int .i64 0, .int .u32 0, .int .u32 0, .int .u32 0, .int .u32 0, .int .i64 0, .int .i64 0, .int .u32 0, .int .u32 0, .int .u32 0, .int .u32 0, .int .u32 0, .int .u32 0, .int .u32 0, .int .u32 0, .string ⟨#[]⟩, .string ⟨#[]⟩, .string ⟨#[]⟩] 52)) w.heap.size 0 52 [.int .i64 0, .int .i64 0, .int .i64 0, .int .i64 0, .int .i64 0, .int .i64 0, .int .u32 0, .int .u32 0, .int .u32 0, .int .u32 0, .int .i64 0, .int .i64 0, .int .u32 0, .int .u32 0, .int .u32 0, .int .u32 0, .int .u32 0, .int .u32 0, .int .u32 0, .int .u32 0, .string ⟨#[]⟩, .string ⟨#[]⟩, .string ⟨#[]⟩] 52 #[.int .i64 x.k, .int .i64 x.n, .int .i64 x.t, .int .i64 x.p.kind, .int .i64 x.p.fr, .int .i64 x.p.to, .int .u32 (x.p.life : Int), .int .u32 (x.p.seq : Int), .int .u32 (x.p.asked : Int), .int .u32 (x.p.boot : Int), .int .i64 x.p.code, .int .i64 x.p.err, .int .u32 (x.p.file : Int), .int .u32 (x.p.epoch : Int), .int .u32 (x.p.off : Int), .int .u32 (x.p.len : Int), .int .u32 (x.p.size : Int), .int .u32 (x.p.mode : Int), .int .u32 (x.p.deny : Int), .int .u32 (x.p.handle : Int), .string x.p.path, .string x.p.other, .string x.p.data] ha (Nat.le_refl 23) act_info (acells_one x)
  rw [over_all (cur := [.int .i64 0, .int .i64 0, .int .i64 0, .int .i64 0, .int .i64 0, .int .i64 0, .int .u32 0, .int .u32 0, .int .u32 0, .int .u32 0, .int .i64 0, .int .i64 0, .int .u32 0, .int .u32 0, .int .u32 0, .int .u32 0, .int .u32 0, .int .u32 0, .int .u32 0, .int .u32 0, .string ⟨#[]⟩, .string ⟨#[]⟩, .string ⟨#[]⟩]) (vs := #[.int .i64 x.k, .int .i64 x.n, .int .i64 x.t, .int .i64 x.p.kind, .int .i64 x.p.fr, .int .i64 x.p.to, .int .u32 (x.p.life : Int), .int .u32 (x.p.seq : Int), .int .u32 (x.p.asked : Int), .int .u32 (x.p.boot : Int), .int .i64 x.p.code, .int .i64 x.p.err, .int .u32 (x.p.file : Int), .int .u32 (x.p.epoch : Int), .int .u32 (x.p.off : Int), .int .u32 (x.p.len : Int), .int .u32 (x.p.size : Int), .int .u32 (x.p.mode : Int), .int .u32 (x.p.deny : Int), .int .u32 (x.p.handle : Int), .string x.p.path, .string x.p.other, .string x.p.data].toList) (Nat.le_refl 23)] at hr
  have hf : Fr (· = w.heap.size) (w.alloc (.cells #[.int .i64 0, .int .i64 0, .int .i64 0, .int .i64 0, .int .i64 0, .int .i64 0, .int .u32 0, .int .u32 0, .int .u32 0, .int .u32 0, .int .i64 0, .int .i64 0, .int .u32 0, .int .u32 0, .int .u32 0, .int .u32 0, .int .u32 0, .int .u32 0, .int .u32 0, .int .u32 0, .string ⟨#[]⟩, .string ⟨#[]⟩, .string ⟨#[]⟩] 52)) _ := Fr.setRow (F := (· = w.heap.size)) (w.alloc (.cells #[.int .i64 0, .int .i64 0, .int .i64 0, .int .i64 0, .int .i64 0, .int .i64 0, .int .u32 0, .int .u32 0, .int .u32 0, .int .u32 0, .int .i64 0, .int .i64 0, .int .u32 0, .int .u32 0, .int .u32 0, .int .u32 0, .int .u32 0, .int .u32 0, .int .u32 0, .int .u32 0, .string ⟨#[]⟩, .string ⟨#[]⟩, .string ⟨#[]⟩] 52)) rfl #[.int .i64 x.k, .int .i64 x.n, .int .i64 x.t, .int .i64 x.p.kind, .int .i64 x.p.fr, .int .i64 x.p.to, .int .u32 (x.p.life : Int), .int .u32 (x.p.seq : Int), .int .u32 (x.p.asked : Int), .int .u32 (x.p.boot : Int), .int .i64 x.p.code, .int .i64 x.p.err, .int .u32 (x.p.file : Int), .int .u32 (x.p.epoch : Int), .int .u32 (x.p.off : Int), .int .u32 (x.p.len : Int), .int .u32 (x.p.size : Int), .int .u32 (x.p.mode : Int), .int .u32 (x.p.deny : Int), .int .u32 (x.p.handle : Int), .string x.p.path, .string x.p.other, .string x.p.data]
  exact ⟨_, hr, setRow_heap _ _ _ _ _ _ ha, ((Below.refl w.heap.size w).alloc (Nat.le_refl _) _).trans (hf.below (by simp) (fun k hk => by have e : k = w.heap.size := hk; omega))⟩
theorem act_of {R k : Nat} {cs : List Value} (hR : R ≤ 140737488351232) (h : Sees Tryd.prog w R (k + 4) 52 cs) : ∃ x : SA, x.OK ∧ cs = acells x := by
  obtain ⟨x0, x1, x2, x3, x4, x5, x6, x7, x8, x9, x10, x11, x12, x13, x14, x15, x16, x17, x18, x19, x20, x21, x22, rfl, f0, f1, f2, f3, f4, f5, f6, f7, f8, f9, f10, f11, f12, f13, f14, f15, f16, f17, f18, f19, f20, f21, f22⟩ := Opens.open52 h
  have b1 := bounds_i64 f1
  have b2 := bounds_i64 f2
  have b3 := bounds_i64 f3
  have b4 := bounds_i64 f4
  have b5 := bounds_i64 f5
  have b6 := bounds_u32 f6
  have b7 := bounds_u32 f7
  have b8 := bounds_u32 f8
  have b9 := bounds_u32 f9
  have b10 := bounds_i64 f10
  have b11 := bounds_i64 f11
  have b12 := bounds_u32 f12
  have b13 := bounds_u32 f13
  have b14 := bounds_u32 f14
  have b15 := bounds_u32 f15
  have b16 := bounds_u32 f16
  have b17 := bounds_u32 f17
  have b18 := bounds_u32 f18
  have b19 := bounds_u32 f19
  refine ⟨⟨x0, x1, x2, ⟨x3, x4, x5, x6.toNat, x7.toNat, x8.toNat, x9.toNat, x10, x11, x12.toNat, x13.toNat, x14.toNat, x15.toNat, x16.toNat, x17.toNat, x18.toNat, x19.toNat, x20, x21, x22⟩⟩, ⟨b1, b2, ⟨b3, b4, b5, b10, b11, (by have := b6; show x6.toNat < _; omega), (by have := b7; show x7.toNat < _; omega), (by have := b8; show x8.toNat < _; omega), (by have := b9; show x9.toNat < _; omega), (by have := b12; show x12.toNat < _; omega), (by have := b13; show x13.toNat < _; omega), (by have := b14; show x14.toNat < _; omega), (by have := b15; show x15.toNat < _; omega), (by have := b16; show x16.toNat < _; omega), (by have := b17; show x17.toNat < _; omega), (by have := b18; show x18.toNat < _; omega), (by have := b19; show x19.toNat < _; omega), (by show x20.size ≤ _; omega), (by show x21.size ≤ _; omega), (by show x22.size ≤ _; omega)⟩⟩, ?_⟩
  simp only [acells, Int.toNat_of_nonneg b6.1, Int.toNat_of_nonneg b7.1, Int.toNat_of_nonneg b8.1, Int.toNat_of_nonneg b9.1, Int.toNat_of_nonneg b12.1, Int.toNat_of_nonneg b13.1, Int.toNat_of_nonneg b14.1, Int.toNat_of_nonneg b15.1, Int.toNat_of_nonneg b16.1, Int.toNat_of_nonneg b17.1, Int.toNat_of_nonneg b18.1, Int.toNat_of_nonneg b19.1]
theorem sees_acts {R k len cap : Nat} {A : Option Addr} (hR : R ≤ 140737488351232) (h : Sees Tryd.prog w R (k + 5) 40 [.slice A len cap]) :
    ∃ l : List SA, l.length = len ∧ len ≤ maxLen ∧ ArrAt w A acells 23 l ∧ ∀ y ∈ l, y.OK := by
  obtain ⟨l, h1, _, h2, _, h3, h4⟩ := arr_of (Q := SA.OK) (f := acells) (s := 23) (by kernel_rfl) (by decide) (fun _ => rfl) Tryd.underlying40 (fun cs hc => act_of hR hc) h
  exact ⟨l, h1, h2, h3, h4⟩
end Go.Proofs.YtiedmkgdhfkcoaaDoor.Net
