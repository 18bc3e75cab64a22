/- Layer device: the document's device in memory: a struct of four cells, a row of strings, a row of writes. Layer device: the document's device: New, Write, Barrier, Crash. Layer device: the document's device: Barrier, Crash, New. Layer device: the document's device: New; each of its functions in one contract; an act of the laws upon it. -/
import Derived.Test.YtmdojgkgohmghaaWalM3
import Derived.Test.YtmdojgkgohmghaaWGuard
namespace Go.Proofs.Ytmdojgkgohmghaa.Dev
open Go.RowKit Go.Own Go.DevL Go.Blk Go.Proofs.YtmdojgkgohmghaaW.PrintLast Go.Proofs.YtmdojgkgohmghaaW.PrintWords
set_option linter.unusedVariables false
set_option maxRecDepth 100000
set_option linter.unusedSimpArgs false
def Z : ByteArray := rep8 0 256
theorem info_s : (Try.prog.info? 9).map (fun i => (i.zero, i.size, i.bytes)) = some (some (.string ByteArray.empty), 1, 16) := by kernel_rfl
theorem run_bs (w : World) (s : ByteArray) : (Instr.buildSlice 34 1 #[(0, .string s)]).run Try.prog w = .ok (.slice (some ⟨w.heap.size, 0, none⟩) 1 1) (w.alloc (.cells #[.string s] 9)) := by kernel_rfl
def lcells (x : Nat × ByteArray) : List Value := [.int .i64 (x.1 : Int), .string x.2]
def scell (s : ByteArray) : List Value := [.string s]
/-- The document's device d lies at block q, all of it in blocks of F. -/
structure RAt (F : Nat → Prop) (w : World) (q : Nat) (vf vl : Value) (d : Dv) : Prop where
  ok : d.OK
  fq : F q
  ff : ∀ k, vf.ownBlock = some k → F k ∧ k ≠ q
  fl : ∀ k, vl.ownBlock = some k → F k ∧ k ≠ q ∧ vf.ownBlock ≠ some k
  hq : w.heap[q]? = some (.cells #[vf, vl, .int .i64 d.fuse, .bool d.dead] 67 (0, 0))
  hf : w.ownsRow 0 9 1 vf d.firm.length (d.firm.flatMap scell)
  hl : w.ownsRow 0 109 2 vl d.late.length (d.late.flatMap lcells)
  lt : ∀ k, F k → k < w.heap.size
variable {F : Nat → Prop} {w w' : World} {q : Nat} {vf vl : Value} {d : Dv}
theorem RAt.keep {G : Nat → Prop} (h : RAt F w q vf vl d) (hF : Fr G w w') (hG : ∀ k, F k → ¬ G k) : RAt F w' q vf vl d :=
  { h with hq := hF.at h.hq (hG _ h.fq), hf := hF.row h.hf (fun k hk => hG _ (h.ff k hk).1), hl := hF.row h.hl (fun k hk => hG _ (h.fl k hk).1), lt := fun k hk => Nat.lt_of_lt_of_le (h.lt k hk) hF.size }
theorem RAt.below (h : RAt F w q vf vl d) (hb : Below w.heap.size w w') : RAt F w' q vf vl d := h.keep (Fr.of_below (F := fun _ => False) hb) (fun _ _ => id)
theorem RAt.mono {G : Nat → Prop} (h : RAt F w q vf vl d) (hG : ∀ k, F k → G k) (hlt : ∀ k, G k → k < w.heap.size) : RAt G w q vf vl d :=
  { h with fq := hG _ h.fq, ff := fun k hk => ⟨hG _ (h.ff k hk).1, (h.ff k hk).2⟩, fl := fun k hk => ⟨hG _ (h.fl k hk).1, (h.fl k hk).2⟩, lt := hlt }
/-- A cell of the struct is stored. -/
theorem RAt.set (h : RAt F w q vf vl d) (i : Nat) (u : Value) {vl' : Value} {d' : Dv} (hok : d'.OK) (hfl : ∀ k, vl'.ownBlock = some k → F k ∧ k ≠ q ∧ vf.ownBlock ≠ some k)
    (hc : (#[vf, vl, .int .i64 d.fuse, .bool d.dead] : Array Value).setIfInBounds i u = #[vf, vl', .int .i64 d'.fuse, .bool d'.dead])
    (hf : d'.firm = d.firm) (hl : w.ownsRow 0 109 2 vl' d'.late.length (d'.late.flatMap lcells)) : RAt F (w.setCell ⟨q, i, none⟩ u) q vf vl' d' where
  ok := hok
  fq := h.fq
  ff := h.ff
  fl := hfl
  hq := by rw [← hc]; exact set_at h.hq i u
  hf := by rw [hf]; exact row_kept h.hf fun k hk => Below.heap_setCell w ⟨q, i, none⟩ u k (h.ff k hk).2
  hl := row_kept hl fun k hk => Below.heap_setCell w ⟨q, i, none⟩ u k (hfl k hk).2.1
  lt := fun k hk => by rw [World.setCell]; simpa using h.lt k hk
theorem RAt.set_fuse (h : RAt F w q vf vl d) (f : Int) (h1 : -1 ≤ f) (h2 : f ≤ 9223372036854775807) : RAt F (w.setCell ⟨q, 2, none⟩ (.int .i64 f)) q vf vl { d with fuse := f } :=
  h.set 2 _ ⟨h.ok.n1, h.ok.n2, h.ok.sz, h.ok.la, h1, h2⟩ h.fl rfl rfl h.hl
theorem RAt.set_dead (h : RAt F w q vf vl d) (b : Bool) : RAt F (w.setCell ⟨q, 3, none⟩ (.bool b)) q vf vl { d with dead := b } :=
  h.set 3 _ ⟨h.ok.n1, h.ok.n2, h.ok.sz, h.ok.la, h.ok.f1, h.ok.f2⟩ h.fl rfl rfl h.hl
theorem RAt.frq (h : RAt F w q vf vl d) (i : Nat) (u : Value) : Fr F w (w.setCell ⟨q, i, none⟩ u) := Fr.setCell w h.fq u
theorem cell_late {w : World} {v : Value} {l : List (Nat × ByteArray)} (h : w.ownsRow 0 109 2 v l.length (l.flatMap lcells)) (i : Nat) (hi : i < l.length) :
    ∃ g cap, v = .slice (some ⟨g, 0, none⟩) l.length cap ∧ w.cell? ⟨g, i * 2, none⟩ = some (.int .i64 (l[i].1 : Int)) ∧ w.cell? ⟨g, i * 2 + 1, none⟩ = some (.string l[i].2) := by
  obtain ⟨g, cap, hv, _, hr⟩ := row_range h (fun _ _ => rfl) i hi
  exact ⟨g, cap, hv, hr 0 _ rfl, hr 1 _ rfl⟩
theorem cell_firm {w : World} {v : Value} {l : List ByteArray} (h : w.ownsRow 0 9 1 v l.length (l.flatMap scell)) (i : Nat) (hi : i < l.length) :
    ∃ g cap, v = .slice (some ⟨g, 0, none⟩) l.length cap ∧ w.cell? ⟨g, i, none⟩ = some (.string l[i]) ∧ w.frozen? ⟨g, i, none⟩ = false := by
  obtain ⟨g, cap, hv, _, hr⟩ := row_range h (fun _ _ => rfl) i hi
  refine ⟨g, cap, hv, by have := hr 0 _ rfl; simpa using this, ?_⟩
  rcases h.2 with ⟨rfl, _⟩ | ⟨g', cap', cur, e, _, hg, _⟩
  · simp at hv
  · rw [e] at hv
    simp only [Value.slice.injEq, Option.some.injEq, Addr.mk.injEq, and_true, true_and] at hv
    obtain ⟨rfl, _⟩ := hv
    simp [World.frozen?, hg]
/-! ### burn, Light -/
set_option maxHeartbeats 400000 in
theorem rburn_yes (h : RAt F w q vf vl d) (hb : d.burns = true) : Calls Try.prog 57 #[.pointer (some ⟨q, 0, none⟩)] w fun e w' => e = .returned (.bool false) ∧ RAt F w' q vf vl d.die ∧ Fr F w w' := by
  have hx := blk4 h.hq
  have H := Lib.hid h
  clear h
  have HB := Lib.hid hb
  clear hb
  go_enter Try.func57, Try.ntmps57
  go_wp2
  · go_ret
    exact ⟨rfl, H.out.set_dead true, H.out.frq _ _⟩
  · go_ret
    exact ⟨rfl, H.out.set_dead true, H.out.frq _ _⟩
  all_goals
    exfalso
    have := HB.out
    simp_all [Dv.burns]
set_option maxHeartbeats 400000 in
theorem rburn_no (h : RAt F w q vf vl d) (hb : d.burns = false) : Calls Try.prog 57 #[.pointer (some ⟨q, 0, none⟩)] w fun e w' => e = .returned (.bool true) ∧ RAt F w' q vf vl { d with fuse := less d.fuse } ∧ Fr F w w' := by
  have hx := blk4 h.hq
  have H := Lib.hid h
  clear h
  have HB := Lib.hid hb
  have hu := H.out.ok.f2
  clear hb
  go_enter Try.func57, Try.ntmps57
  go_wp2
  · exfalso
    have := HB.out
    simp_all [Dv.burns]
  · exfalso
    have := HB.out
    simp_all [Dv.burns]
  · go_ret
    have hlt : 0 < d.fuse := by assumption
    refine ⟨rfl, ?_, H.out.frq _ _⟩
    have h1 := H.out.set_fuse (d.fuse - 1) (by omega) (by omega)
    rw [show less d.fuse = d.fuse - 1 by unfold less; rw [if_pos hlt]]
    exact h1
  · go_ret
    have hlt : d.fuse ≤ 0 := by assumption
    refine ⟨rfl, ?_, Fr.refl _ _⟩
    rw [show less d.fuse = d.fuse by unfold less; rw [if_neg (by omega)]]
    exact H.out
set_option maxHeartbeats 400000 in
theorem rlight_calls (h : RAt F w q vf vl d) (n : Int) (hn0 : -9223372036854775808 ≤ n) (hn : n ≤ 9223372036854775807) : Calls Try.prog 41 #[.pointer (some ⟨q, 0, none⟩), .int .i64 n] w fun e w' => e = .returned (.tuple #[]) ∧ RAt F w' q vf vl (d.light n) ∧ Fr F w w' := by
  have hx := blk4 h.hq
  have H := Lib.hid h
  clear h
  by_cases hneg : n < 0
  · have e : d.light n = { d with fuse := -1 } := by
      unfold Dv.light
      split
      · rfl
      · congr 1 <;> omega
    rw [e]
    have h2 : Hid (RAt F ((w.setCell ⟨q, 2, none⟩ (.int .i64 n)).setCell ⟨q, 2, none⟩ (.int .i64 (-1))) q vf vl { d with fuse := -1 }) := by
      have hh := H.out
      exact { ok := ⟨hh.ok.n1, hh.ok.n2, hh.ok.sz, hh.ok.la, by simp, by simp⟩, fq := hh.fq, ff := hh.ff, fl := hh.fl, hq := set_at (set_at hh.hq 2 (.int .i64 n)) 2 (.int .i64 (-1)), hf := row_kept hh.hf fun k hk => by rw [Below.heap_setCell _ _ _ _ (hh.ff k hk).2, Below.heap_setCell _ _ _ _ (hh.ff k hk).2], hl := row_kept hh.hl fun k hk => by rw [Below.heap_setCell _ _ _ _ (hh.fl k hk).2.1, Below.heap_setCell _ _ _ _ (hh.fl k hk).2.1], lt := fun k hk => by simp only [World.setCell, Array.size_modify]; exact hh.lt k hk }
    have hy := blk4 (set_at H.out.hq 2 (.int .i64 n))
    go_enter Try.func41, Try.ntmps41
    go_wp2
    go_end0
    refine ⟨rfl, ?_, (H.out.frq _ _).trans (Fr.setCell _ H.out.fq _) (fun _ _ h => h)⟩
    exact h2.out
  · have e : d.light n = { d with fuse := n } := by unfold Dv.light; rw [if_neg (by omega)]
    rw [e]
    go_enter Try.func41, Try.ntmps41
    go_wp2
    go_end0
    exact ⟨rfl, H.out.set_fuse n (by omega) hn, H.out.frq _ _⟩
/-! ### Now, Read -/
def seen (d : Dv) (i k : Nat) : ByteArray := ((d.late.take k).foldl put d.firm).getD i ByteArray.empty
theorem seen_step (d : Dv) (hok : d.OK) (i k : Nat) (hi : i < d.firm.length) (hk : k < d.late.length) : seen d i (k + 1) = if d.late[k].1 = i then d.late[k].2 else seen d i k := by
  unfold seen
  rw [List.take_succ_eq_append_getElem hk, List.foldl_append]
  show (put ((d.late.take k).foldl put d.firm) d.late[k]).getD i ByteArray.empty = _
  unfold put
  have hl : ((d.late.take k).foldl (fun (l : List ByteArray) (x : Nat × ByteArray) => l.set x.1 x.2) d.firm).length = d.firm.length := length_puts _ _
  by_cases e : d.late[k].1 = i
  · rw [if_pos e, List.getD, e, List.getElem?_set_self (by rw [hl]; exact hi)]; rfl
  · rw [if_neg e, List.getD, List.getD, List.getElem?_set_ne e]
set_option maxHeartbeats 2000000 in
theorem rnow_calls (h : RAt F w q vf vl d) (i : Nat) (hi : i < d.firm.length) (hl : d.late.length ≤ 1000000) : Calls Try.prog 52 #[.pointer (some ⟨q, 0, none⟩), .int .i64 i] w fun e w' => e = .returned (.string (d.now.getD i ByteArray.empty)) ∧ w = w' := by
  have hx := blk4 h.hq
  have H := Lib.hid h
  have hn2 := h.ok.n2
  obtain ⟨gf, cf, rfl, hcf, _⟩ := cell_firm h.hf i hi
  obtain ⟨av, cv, rfl, _⟩ := row_form h.hl
  clear h
  have HN := Lib.hid (show d.now.getD i ByteArray.empty = seen d i d.late.length by unfold seen Dv.now; rw [List.take_length])
  rw [HN.out]
  have H0 := Lib.hid (show seen d i 0 = d.firm[i] by unfold seen; simp [List.getD, List.getElem?_eq_getElem hi])
  go_enter Try.func52, Try.ntmps52
  go_wp2
  go_loopw [5, 6] (fun s5 s6 wr => ∃ k : Nat, s6 = .int .i64 k ∧ k ≤ d.late.length ∧ s5 = .string (seen d i k) ∧ Hid (wr = w)) (fun _ s6 _ => d.late.length - (intOf s6).toNat)
  case atStart => exact ⟨0, by simp, Nat.zero_le _, by rw [H0.out], Lib.hid rfl⟩
  case round =>
    obtain ⟨k, rfl, hk, rfl, hw⟩ := hrel
    obtain rfl := hw.out
    clear hw
    by_cases hlt : k < d.late.length
    · obtain ⟨gl, cl, e, c0, c1⟩ := cell_late H.out.hl k hlt
      simp only [Value.slice.injEq, true_and] at e
      obtain ⟨rfl, rfl⟩ := e
      have HSS := Lib.hid (seen_step d H.out.ok i k hi hlt)
      obtain ⟨x, hx2⟩ : ∃ x, d.late[k] = x := ⟨_, rfl⟩
      rw [hx2] at c0 c1 HSS
      clear hx2
      by_cases he : x.1 = i
      · rw [he] at c0
        have HE := Lib.hid he
        clear he
        go_wp2
        go_roundw
        case rel => exact ⟨k + 1, by go_num, by omega, by rw [HSS.out, if_pos HE.out], by first | exact Lib.hid rfl | exact Lib.hid trivial⟩
        case measure => simp [intOf]; omega
      · have n0 : (((x.1 : Nat) : Int) == (i : Int)) = false := by rw [beq_eq_false_iff_ne]; omega
        have n1 : (x.1 == i) = false := by rw [beq_eq_false_iff_ne]; exact he
        have HE := Lib.hid he
        clear he
        go_wp2
        go_roundw
        case rel => exact ⟨k + 1, by go_num, by omega, by rw [HSS.out, if_neg HE.out], by first | exact Lib.hid rfl | exact Lib.hid trivial⟩
        case measure => simp [intOf]; omega
    · obtain rfl : k = d.late.length := by omega
      go_wp2
      go_ret
      exact ⟨rfl, rfl⟩
end Go.Proofs.Ytmdojgkgohmghaa.Dev
namespace Go.Proofs.Ytmdojgkgohmghaa.Dev
open Go.RowKit Go.Own Go.DevL Go.Blk Go.Proofs.YtmdojgkgohmghaaW.PrintLast Go.Proofs.YtmdojgkgohmghaaW.PrintWords
set_option linter.unusedVariables false
set_option maxRecDepth 100000
set_option linter.unusedSimpArgs false
variable {F : Nat → Prop} {w w' : World} {q : Nat} {vf vl : Value} {d : Dv}
theorem info_rw : (Try.prog.info? 109).map (fun i => (i.zero, i.size, i.bytes)) = some (some (.agg #[.int .i64 0, .string ByteArray.empty]), 2, 24) := by kernel_rfl
theorem info_u83 : (Try.prog.info? 5).map (fun i => (i.zero, i.size, i.bytes)) = some (some (.int .u8 0), 1, 1) := by kernel_rfl
theorem run_mk256 (w : World) : (Instr.makeSlice 95 (.int .i64 256) (.int .i64 256)).run Try.prog w = .ok (.slice (some ⟨w.heap.size, 0, none⟩) 256 256) (w.alloc (.cells (bcells Z).toArray 5)) := by
  obtain ⟨i, hi, hz, hs, hb⟩ := info_parts info_u83
  have h := run_make (P := Try.prog) w 95 5 i _ Try.underlying95 hi hz .i64 .i64 256 256 (by decide) (by decide) (by rw [hb]; decide) (by decide)
  rw [h, hs]
  have e : madeCells (Value.int .u8 0).cells (Int.toNat 256 * 1) = (bcells Z).toArray := by
    have hz : bcells Z = List.replicate 256 (.int .u8 0) := bcells_zero
    rw [hz]
    unfold madeCells
    apply Array.ext
    · simp only [Array.size_map, Array.size_range, List.size_toArray, List.length_replicate]; rfl
    · intro j h1 h2
      simp only [Array.getElem_map, Array.getElem_range, List.getElem_toArray, List.getElem_replicate]
      have : j % (Value.int .u8 0).cells.size = 0 := Nat.mod_one _
      rw [this]; rfl
  rw [e]; rfl
set_option maxHeartbeats 1000000 in
theorem noughts_calls (w : World) : Calls Try.prog 38 #[] w fun e w' => e = .returned (.string Z) ∧ Below w.heap.size w w' := by
  have HB := Lib.hid (show Below w.heap.size w (w.alloc (.cells (bcells Z).toArray 5)) from (Below.refl _ _).alloc (Nat.le_refl _) _)
  have HA := Lib.hid (alloc_at w (.cells (bcells Z).toArray 5))
  go_enter Try.func38, Try.ntmps38
  go_wp2_with ((with_reducible refine gate_dst (N := 1) rfl ?_); refine wpList_val rfl rfl (execOp_makeSlice rfl rfl rfl (run_mk256 _)) ?_; refine stop_here ?_)
  refine Lib.hid ?_
  obtain ⟨g, hg⟩ : ∃ g, w.heap.size = g := ⟨_, rfl⟩
  rw [hg] at HA ⊢
  generalize w.alloc (.cells (bcells Z).toArray 5) = w1 at HB HA ⊢
  have HC : (convert 95 9 (.slice (some ⟨g, 0, none⟩) 256 256)).run Try.prog w1 = .ok (.string Z) w1 := by
    have h := run_convert_row (P := Try.prog) w1 95 5 9 Try.underlying95 Try.underlying5 Try.underlying9 g 5 [Z] 256 (by intro b hb; simp only [List.mem_singleton] at hb; subst hb; exact rep8_size _ _) (by simpa using HA.out) 0 (by decide) 256
    simpa using h
  have HGE := Lib.hid hg
  clear hg
  go_wp2
  go_ret
  exact ⟨rfl, by first | exact HB.out | (rw [← HGE.out]; exact HB.out)⟩
theorem row_set {g n cap : Nat} {e : TypeId} {L : List ByteArray} (h : w.ownsRow 0 e 1 (.slice (some ⟨g, 0, none⟩) n cap) n (L.flatMap scell)) (i : Nat) (hi : i < L.length) (s : ByteArray) : (w.setCell ⟨g, i, none⟩ (.string s)).ownsRow 0 e 1 (.slice (some ⟨g, 0, none⟩) n cap) n ((L.set i s).flatMap scell) := by
  have hfl : (L.flatMap scell).length = L.length := by rw [flat_length (s := 1) (fun _ _ => rfl)]; omega
  have hn : L.length = n := by have := h.1; omega
  refine ⟨by rw [flat_length (s := 1) (fun _ _ => rfl), List.length_set, hn], ?_⟩
  rcases h.2 with ⟨e0, _⟩ | ⟨g', cap', cur, e1, hb, hg, h1, h2, h3, h4⟩
  · simp at e0
  · simp only [Value.slice.injEq, Option.some.injEq, Addr.mk.injEq, and_true, true_and] at e1
    obtain ⟨rfl, rfl⟩ := e1
    refine .inr ⟨g, cap, cur.setIfInBounds i (.string s), rfl, hb, set_at hg i _, h1, h2, by rw [Array.size_setIfInBounds]; exact h3, ?_⟩
    rw [Array.toList_setIfInBounds, List.take_set, h4, flat_set (s := 1) (fun _ _ => rfl) i hi s]
    have e2 : ∀ l : List ByteArray, l.flatMap scell = l.map .string := fun l => by induction l with
      | nil => rfl
      | cons x l ih => rw [List.flatMap_cons, ih]; rfl
    rw [e2, Nat.mul_one]
    rw [List.set_eq_take_append_cons_drop, if_pos (by rw [List.length_map]; exact hi)]
    simp [scell]
/-! ### Write -/
set_option maxHeartbeats 1000000 in
theorem rwrite_bad (h : RAt F w q vf vl d) (i : Int) (b : ByteArray) (hb : (d.bad i || b.size != 256) = true) : Calls Try.prog 44 #[.pointer (some ⟨q, 0, none⟩), .int .i64 i, .string b] w fun e w' => e = .returned (.int .i64 1) ∧ w = w' := by
  have hx := blk4 h.hq
  obtain ⟨af, cf, rfl, _⟩ := row_form h.hf
  have H := Lib.hid h
  have hn2 := H.out.ok.n2
  clear h
  have HB := Lib.hid hb
  clear hb
  go_enter Try.func44, Try.ntmps44
  by_cases h0 : i < 0
  · go_wp2
    go_ret
    exact ⟨rfl, rfl⟩
  · by_cases h1 : (d.firm.length : Int) ≤ i
    · go_wp2
      go_ret
      exact ⟨rfl, rfl⟩
    · have h2 : b.size ≠ 256 := by
        have := HB.out
        simp only [Dv.bad, Bool.or_eq_true, decide_eq_true_eq, bne_iff_ne, ne_eq] at this
        omega
      go_wp2
      go_ret
      exact ⟨rfl, rfl⟩
set_option maxHeartbeats 1000000 in
theorem rwrite_dies (h : RAt F w q vf vl d) (i : Nat) (hi : i < d.firm.length) (b : ByteArray) (hs : b.size = 256) (hb : d.burns = true) : Calls Try.prog 44 #[.pointer (some ⟨q, 0, none⟩), .int .i64 i, .string b] w fun e w' => e = .returned (.int .i64 5) ∧ RAt F w' q vf vl d.die ∧ Fr F w w' := by
  have hx := blk4 h.hq
  obtain ⟨af, cf, rfl, _⟩ := row_form h.hf
  have hn2 := h.ok.n2
  have HBU := Lib.hid (rburn_yes h hb)
  clear h hb
  go_enter Try.func44, Try.ntmps44
  go_wp2_with (go_at_call 57; refine HBU.out.mono ?_; rintro e w1 ⟨rfl, h1, h2⟩; have H1 := Lib.hid h1; have H2 := Lib.hid h2; clear h1 h2 hx)
  go_ret
  exact ⟨rfl, H1.out, H2.out⟩
set_option maxHeartbeats 2000000 in
theorem rwrite_goes (h : RAt F w q vf vl d) (i : Nat) (hi : i < d.firm.length) (b : ByteArray) (hs : b.size = 256) (hb : d.burns = false) (hl : d.late.length ≤ 1000000) :
    Calls Try.prog 44 #[.pointer (some ⟨q, 0, none⟩), .int .i64 i, .string b] w fun e w' => e = .returned (.int .i64 0) ∧ (∃ vl', RAt (Up F w w') w' q vf vl' { d with late := d.late ++ [(i, b)], fuse := less d.fuse }) ∧ Fr F w w' := by
  have hx := blk4 h.hq
  obtain ⟨af, cf, rfl, _⟩ := row_form h.hf
  obtain ⟨al, cl, rfl, _⟩ := row_form h.hl
  have hn2 := h.ok.n2
  have HBU := Lib.hid (rburn_no h hb)
  have HL := Lib.hid hl
  have HS := Lib.hid hs
  have HI := Lib.hid hi
  clear h hb hl
  go_enter Try.func44, Try.ntmps44
  go_wp2_with (first | (go_at_call 57; refine HBU.out.mono ?_; rintro e w1 ⟨rfl, h1, h2⟩; have H1 := Lib.hid h1; have H2 := Lib.hid h2; clear h1 h2 hx; have hx := blk4 H1.out.hq) | ((with_reducible refine gate_dst (N := 35) rfl ?_); refine stop_here ?_))
  refine Lib.hid ?_
  clear hx
  have HA2 := Lib.hid (H1.out.below ((Below.refl _ _).alloc (Nat.le_refl _) (.cells #[.int .i64 (i : Int), .string b] 109)))
  have HF2 := Lib.hid (H2.out.trans (Fr.alloc F w1 (.cells #[.int .i64 (i : Int), .string b] 109)) (fun _ _ h => h))
  have HN2 := Lib.hid (alloc_at w1 (.cells #[.int .i64 (i : Int), .string b] 109))
  obtain ⟨N, hN⟩ : ∃ N, w1.heap.size = N := ⟨_, rfl⟩
  rw [hN] at HN2 ⊢
  clear hN
  generalize w1.alloc (.cells #[.int .i64 (i : Int), .string b] 109) = w2 at HA2 HF2 HN2 ⊢
  obtain ⟨ti, hti, hz, hsz, hbz⟩ := info_parts info_rw
  obtain ⟨v', w3, hr, hown, hg, _, hat⟩ := run_append_own_at (P := Try.prog) w2 0 65 65 109 ti _ 2 24 Try.underlying65 hti hz hsz hbz rfl (by decide) (.slice al d.late.length cl) d.late.length _ HA2.out.hl ⟨N, 0, none⟩ 1 1 (lcells (i, b)) rfl
    (fun j u hu => by
      have e : (⟨N, 0, none⟩ : Addr).add j = ⟨N, j, none⟩ := by unfold Addr.add; split <;> simp_all
      rw [e, cell_of_row w2 N j _ _ _ HN2.out]; simpa [lcells] using hu) (by simp [lcells, Value.oneCell']) (by have := HL.out; unfold maxLen; omega) (by have := HL.out; omega) (Nat.zero_le _)
  have HFL := Lib.hid HA2.out.fl
  have HQ3 := Lib.hid ((hg.block q (HA2.out.lt _ HA2.out.fq) (fun e => (HFL.out q e.symm).2.1 rfl)).trans HA2.out.hq)
  have HF3 := Lib.hid (HF2.out.trans (Fr.grown (F := F) hg (fun k hk => (HFL.out k hk).1)) (fun _ _ h => h))
  have HFF3 := Lib.hid (row_kept HA2.out.hf (w' := w3) (fun k hk => hg.block k (HA2.out.hf.lt k hk).2 (fun e => (HFL.out k e.symm).2.2 hk)))
  have HNB : Hid (∀ k, v'.ownBlock = some k → (F k ∨ (w.heap.size ≤ k ∧ k < w3.heap.size)) ∧ k ≠ q ∧ (Value.slice af d.firm.length cf).ownBlock ≠ some k) := fun k hk => by
    have h3 := (hown.lt k hk).2
    rcases hat with e | e
    · rw [e] at hk
      exact ⟨.inl (HFL.out k hk).1, (HFL.out k hk).2⟩
    · rw [e] at hk
      simp only [Option.some.injEq] at hk
      have h1 := HA2.out.lt _ HA2.out.fq
      have h2 := HF2.out.size
      refine ⟨.inr ⟨by omega, h3⟩, by omega, fun e2 => ?_⟩
      have := (HA2.out.hf.lt k e2).2
      omega
  have HO3 := Lib.hid hown
  obtain ⟨av, cv, rfl, _⟩ := row_form hown
  refine wpList_val rfl rfl (execOp_append rfl rfl rfl hr) ?_
  have HOK := Lib.hid HA2.out.ok
  have HFQ := Lib.hid (And.intro HA2.out.fq HA2.out.ff)
  have HLT := Lib.hid HA2.out.lt
  have HSZ := Lib.hid hg.size
  clear hr hown hg hat hti hz hsz hbz HA2 HF2 HN2 H1 H2
  have hx := blk4 HQ3.out
  go_wp2
  go_ret
  refine ⟨rfl, ⟨.slice av (d.late.length + 1) cv, ?_⟩, HF3.out.trans (Fr.setCell (F := F) w3 (p := ⟨q, 1, none⟩) HFQ.out.1 _) (fun _ _ h => h)⟩
  have hss : (w3.setCell ⟨q, 1, none⟩ (.slice av (d.late.length + 1) cv)).heap.size = w3.heap.size := by simp only [World.setCell, Array.size_modify]
  exact {
    ok := ⟨HOK.out.n1, HOK.out.n2, HOK.out.sz, fun x hx => by
      rcases List.mem_append.1 hx with hx | hx
      · exact HOK.out.la x hx
      · simp only [List.mem_singleton] at hx
        subst hx
        exact ⟨HI.out, HS.out⟩, HOK.out.f1, HOK.out.f2⟩
    fq := .inl HFQ.out.1
    ff := fun k hk => ⟨.inl (HFQ.out.2 k hk).1, (HFQ.out.2 k hk).2⟩
    fl := fun k hk => ⟨by
      rcases (HNB.out k hk).1 with h | h
      · exact .inl h
      · exact .inr ⟨h.1, by rw [hss]; exact h.2⟩, (HNB.out k hk).2⟩
    hq := set_at HQ3.out 1 (.slice av (d.late.length + 1) cv)
    hf := row_kept HFF3.out fun k hk => Below.heap_setCell _ _ _ _ (HFQ.out.2 k hk).2
    hl := by
      have h := row_kept HO3.out (w' := w3.setCell ⟨q, 1, none⟩ (.slice av (d.late.length + 1) cv)) fun k hk => Below.heap_setCell _ _ _ _ (HNB.out k hk).2.1
      rw [List.length_append, List.flatMap_append]
      simpa using h
    lt := fun k hk => by
      rw [hss]
      rcases hk with hk | hk
      · have h1 := HLT.out k hk; have h2 := HSZ.out; omega
      · rw [hss] at hk; exact hk.2 }
end Go.Proofs.Ytmdojgkgohmghaa.Dev
namespace Go.Proofs.Ytmdojgkgohmghaa.Dev
open Go.RowKit Go.Own Go.DevL Go.Blk Go.Proofs.YtmdojgkgohmghaaW.PrintLast Go.Proofs.YtmdojgkgohmghaaW.PrintWords
set_option linter.unusedVariables false
set_option maxRecDepth 100000
set_option linter.unusedSimpArgs false
variable {F : Nat → Prop} {w w' : World} {q : Nat} {vf vl : Value} {d : Dv}
theorem cell_firm' {w : World} {v : Value} {n : Nat} {l : List ByteArray} (h : w.ownsRow 0 9 1 v n (l.flatMap scell)) (i : Nat) (hi : i < l.length) :
    ∃ g cap, v = .slice (some ⟨g, 0, none⟩) n cap ∧ w.cell? ⟨g, i, none⟩ = some (.string l[i]) ∧ w.frozen? ⟨g, i, none⟩ = false := by
  have hn : l.length = n := by
    have := h.1
    rw [flat_length (s := 1) (fun _ _ => rfl)] at this; omega
  subst hn
  exact cell_firm h i hi
set_option maxHeartbeats 1000000 in
theorem rbarrier_dies (h : RAt F w q vf vl d) (hb : d.burns = true) : Calls Try.prog 55 #[.pointer (some ⟨q, 0, none⟩)] w fun e w' => e = .returned (.int .i64 5) ∧ RAt F w' q vf vl d.die ∧ Fr F w w' := by
  have HBU := Lib.hid (rburn_yes h hb)
  clear h hb
  go_enter Try.func55, Try.ntmps55
  go_wp2_with (go_at_call 57; refine HBU.out.mono ?_; rintro e w1 ⟨rfl, h1, h2⟩; have H1 := Lib.hid h1; have H2 := Lib.hid h2; clear h1 h2)
  go_ret
  exact ⟨rfl, H1.out, H2.out⟩
theorem bit_ref (keep : Int) (k : Nat) (h0 : 0 ≤ keep) : ((keep / 2 ^ (k % 64)).tmod 2 == 1) = bit keep k := by
  obtain ⟨n, rfl⟩ := Int.eq_ofNat_of_zero_le h0
  have e : ((n : Int) / 2 ^ (k % 64)) = ((n / 2 ^ (k % 64) : Nat) : Int) := by rw [Int.natCast_ediv, Int.natCast_pow]; rfl
  rw [e]
  unfold bit
  rw [Int.toNat_natCast, Bool.eq_iff_iff]
  simp only [beq_iff_eq]
  rw [Int.tmod_eq_emod_of_nonneg (Int.natCast_nonneg _)]
  omega
/-- Nothing unsettled, the fields as told. -/
theorem rat_end {gf cf : Nat} {L : List ByteArray} {f : Int} {dd : Bool} (hok : (⟨L, [], f, dd⟩ : Dv).OK) (hq : F q) (hgf : F gf ∧ gf ≠ q)
    (h1 : w.heap[q]? = some (.cells #[.slice (some ⟨gf, 0, none⟩) L.length cf, .slice none 0 0, .int .i64 f, .bool dd] 67 (0, 0))) (h2 : w.ownsRow 0 9 1 (.slice (some ⟨gf, 0, none⟩) L.length cf) L.length (L.flatMap scell)) (hlt : ∀ k, F k → k < w.heap.size) :
    RAt F w q (.slice (some ⟨gf, 0, none⟩) L.length cf) (.slice none 0 0) ⟨L, [], f, dd⟩ where
  ok := hok
  fq := hq
  ff := fun k hk => by simp only [Value.ownBlock, Option.some.injEq] at hk; subst hk; exact hgf
  fl := fun k hk => by simp [Value.ownBlock] at hk
  hq := h1
  hf := h2
  hl := World.ownsRow_nil _ _ _ _
  lt := hlt
set_option maxHeartbeats 4000000 in
theorem rbarrier_goes (h : RAt F w q vf vl d) (hb : d.burns = false) (hl : d.late.length ≤ 1000000) :
    Calls Try.prog 55 #[.pointer (some ⟨q, 0, none⟩)] w fun e w' => e = .returned (.int .i64 0) ∧ (∃ vf' vl', RAt F w' q vf' vl' { d with firm := d.now, late := [], fuse := less d.fuse }) ∧ Fr F w w' := by
  have HBU := Lib.hid (rburn_no h hb)
  have HOK := Lib.hid (h.ok)
  have HBO := Lib.hid (show ({ d with firm := d.now, late := [], fuse := less d.fuse } : Dv).OK by have hh := h.ok.barrier; unfold Dv.barrier at hh; rw [if_neg (by rw [hb]; simp)] at hh; exact hh)
  have hn2 := h.ok.n2
  obtain ⟨gf, cf, hvf, hz1⟩ := cell_firm h.hf 0 (by have := h.ok.n1; omega)
  clear hz1
  subst hvf
  rcases row_some h.hl with ⟨rfl, hl0⟩ | ⟨gl, cl, rfl, _⟩
  · have HEM := Lib.hid (List.length_eq_zero_iff.1 hl0)
    rw [hl0] at hl
    clear h hb
    go_enter Try.func55, Try.ntmps55
    go_wp2_with (go_at_call 57; refine HBU.out.mono ?_; rintro e w1 ⟨rfl, h1, h2⟩; have H1 := Lib.hid h1; have H2 := Lib.hid h2; clear h1 h2; have hx := blk4 H1.out.hq)
    go_loopw [3] (fun s3 wr => s3 = .int .i64 0 ∧ Hid (wr = w1)) (fun _ _ => 0)
    case atStart => exact ⟨rfl, Lib.hid rfl⟩
    case round =>
      obtain ⟨rfl, hw⟩ := hrel
      obtain rfl := hw.out
      clear hw
      have hx := blk4 H1.out.hq
      go_wp2
      go_ret
      have hnow : d.now = d.firm := by unfold Dv.now; rw [HEM.out]; rfl
      refine ⟨rfl, ⟨.slice (some ⟨gf, 0, none⟩) d.firm.length cf, .slice none 0 0, ?_⟩, H2.out.trans (H1.out.frq _ _) (fun _ _ h => h)⟩
      rw [hnow]
      exact H1.out.set 1 _ (by have := HBO.out; rw [hnow] at this; exact this) (fun k hk => by simp [Value.ownBlock] at hk) rfl rfl (World.ownsRow_nil _ _ _ _)
  · have HNE := Lib.hid (show q ≠ gf ∧ gl ≠ gf from ⟨fun e => (h.ff gf rfl).2 e.symm, fun e => (h.fl gl rfl).2.2 (by rw [e]; rfl)⟩)
    have HNE1 := Lib.hid (h.ff gf rfl).1
    have HFQ := Lib.hid h.fq
    have HQL := Lib.hid (show gl ≠ q from (h.fl gl rfl).2.1)
    have HLTT := Lib.hid h.lt
    clear h hb
    go_enter Try.func55, Try.ntmps55
    go_wp2_with (go_at_call 57; refine HBU.out.mono ?_; rintro e w1 ⟨rfl, h1, h2⟩; have H1 := Lib.hid h1; have H2 := Lib.hid h2; clear h1 h2; have hx := blk4 H1.out.hq)
    go_loopw [3] (fun s3 wr => ∃ (k : Nat) (X : List ByteArray), s3 = .int .i64 k ∧ k ≤ d.late.length ∧ Hid (X = (d.late.take k).foldl put d.firm) ∧ Hid (X.length = d.firm.length) ∧ Hid (wr.heap[q]? = some (.cells #[.slice (some ⟨gf, 0, none⟩) d.firm.length cf, .slice (some ⟨gl, 0, none⟩) d.late.length cl, .int .i64 (less d.fuse), .bool d.dead] 67 (0, 0))) ∧ Hid (wr.ownsRow 0 9 1 (.slice (some ⟨gf, 0, none⟩) d.firm.length cf) d.firm.length (X.flatMap scell)) ∧ Hid (wr.ownsRow 0 109 2 (.slice (some ⟨gl, 0, none⟩) d.late.length cl) d.late.length (d.late.flatMap lcells)) ∧ Hid (Fr F w wr)) (fun s3 _ => d.late.length - (intOf s3).toNat)
    case atStart => exact ⟨0, d.firm, by simp, Nat.zero_le _, Lib.hid (by simp), Lib.hid rfl, Lib.hid H1.out.hq, Lib.hid H1.out.hf, Lib.hid H1.out.hl, H2⟩
    case round =>
      clear H1 H2 hx
      obtain ⟨k, X, rfl, hk, HK, HX1, HQ, HRF, HRL, HRR⟩ := hrel
      have HX := Lib.hid (And.intro HX1.out True.intro)
      have hx := blk4 HQ.out
      by_cases hlt : k < d.late.length
      · obtain ⟨g', cap', e, c0, c1⟩ := cell_late HRL.out k hlt
        simp only [Value.slice.injEq, Option.some.injEq, Addr.mk.injEq, and_true, true_and] at e
        obtain ⟨rfl, rfl⟩ := e
        obtain ⟨x, hx2⟩ : ∃ x, d.late[k] = x := ⟨_, rfl⟩
        have hxi : x.1 < d.firm.length := (HOK.out.la x (hx2 ▸ List.getElem_mem hlt)).1
        rw [hx2] at c0 c1
        have HXE := Lib.hid hx2
        clear hx2
        go_wp2
        refine start_ (n := 22) (S := fun w' => w'.heap[q]? = some (.cells #[.slice (some ⟨gf, 0, none⟩) d.firm.length cf, .slice (some ⟨gl, 0, none⟩) d.late.length cl, .int .i64 (less d.fuse), .bool d.dead] 67 (0, 0)) ∧ w'.cell? ⟨gl, k * 2, none⟩ = some (.int .i64 (x.1 : Int)) ∧ w'.cell? ⟨gl, k * 2 + 1, none⟩ = some (.string x.2)) (ds := [21]) #[false, false, false, false, false, false, false, false, false, false, false, false, false, false, false, false, false, false, false, false, false, false] (by kernel_rfl) rfl rfl (⟨HQ.out, c0, c1⟩) (fun hHeld => ?_)
        have HQ2 := Lib.hid (show wr.drew.heap[q]? = _ from HQ.out)
        have HF2 := Lib.hid ((Fr.drew (fun _ => False) wr).row HRF.out (fun _ _ h => h))
        have HL2 := Lib.hid ((Fr.drew (fun _ => False) wr).row HRL.out (fun _ _ h => h))
        have HR2 := Lib.hid (HRR.out.trans (Fr.drew F wr) (fun _ _ h => h))
        generalize wr.drew = w2 at HQ2 HF2 HL2 HR2 hHeld ⊢
        clear HQ HRF HRL HRR hx c0 c1
        refine pure_ (i := 0) (N := some 16) (v := ?_) (a' := ?_) #[true, false, false, false, false, false, false, false, false, false, false, false, false, false, false, false, false, false, false, false, false, false] rfl rfl (by kernel_rfl) (fun _ _ _ h => h) (Or.inl ⟨by rfl, ?_⟩) ?_ ?_
        rotate_left
        · intro w'
          go_simp
          with_reducible rfl
        rotate_left
        · simp only [Act.put, List.setIfInBounds_toArray, List.set_cons_zero, List.set_cons_succ, i64_w, i32_w]
          rfl
        refine pure_ (i := 1) (N := some 17) (v := ?_) (a' := ?_) #[true, true, false, false, false, false, false, false, false, false, false, false, false, false, false, false, false, false, false, false, false, false] rfl rfl (by kernel_rfl) (fun _ _ _ h => h) (Or.inl ⟨by rfl, ?_⟩) ?_ ?_
        rotate_left
        · intro w'
          go_simp
          with_reducible rfl
        rotate_left
        · simp only [Act.put, List.setIfInBounds_toArray, List.set_cons_zero, List.set_cons_succ, i64_w, i32_w]
          rfl
        refine pure_ (i := 2) (N := some 18) (v := ?_) (a' := ?_) #[true, true, true, false, false, false, false, false, false, false, false, false, false, false, false, false, false, false, false, false, false, false] rfl rfl (by kernel_rfl) (fun _ _ _ h => h) (Or.inl ⟨by rfl, ?_⟩) ?_ ?_
        rotate_left
        · intro w'
          go_simp
          with_reducible rfl
        rotate_left
        · simp only [Act.put, List.setIfInBounds_toArray, List.set_cons_zero, List.set_cons_succ, i64_w, i32_w]
          rfl
        refine take_ (i := 3) (N := some 19) (v := ?_) (a' := ?_) #[true, true, true, true, false, false, false, false, false, false, false, false, false, false, false, false, false, false, false, false, false, false] rfl rfl (by kernel_rfl) (fun _ _ _ h => h) (Or.inl ⟨by rfl, ?_⟩) hHeld ?_ ?_
        rotate_left
        · intro w' hS
          have s5 := blk4 hS.1
          obtain ⟨z0, _, z1, _, z2, _, z3, _⟩ := s5
          go_simp
          with_reducible rfl
        rotate_left
        · simp only [Act.put, List.setIfInBounds_toArray, List.set_cons_zero, List.set_cons_succ, i64_w, i32_w]
          rfl
        refine pure_ (i := 4) (N := some 20) (v := ?_) (a' := ?_) #[true, true, true, true, true, false, false, false, false, false, false, false, false, false, false, false, false, false, false, false, false, false] rfl rfl (by kernel_rfl) (fun _ _ _ h => h) (Or.inl ⟨by rfl, ?_⟩) ?_ ?_
        rotate_left
        · intro w'
          go_simp
          with_reducible rfl
        rotate_left
        · simp only [Act.put, List.setIfInBounds_toArray, List.set_cons_zero, List.set_cons_succ, i64_w, i32_w]
          rfl
        refine pure_ (i := 5) (N := some 21) (v := ?_) (a' := ?_) #[true, true, true, true, true, true, false, false, false, false, false, false, false, false, false, false, false, false, false, false, false, false] rfl rfl (by kernel_rfl) (fun _ _ _ h => h) (Or.inl ⟨by rfl, ?_⟩) ?_ ?_
        rotate_left
        · intro w'
          go_simp
          with_reducible rfl
        rotate_left
        · simp only [Act.put, List.setIfInBounds_toArray, List.set_cons_zero, List.set_cons_succ, i64_w, i32_w]
          rfl
        refine pure_ (i := 6) (N := some 22) (v := ?_) (a' := ?_) #[true, true, true, true, true, true, true, false, false, false, false, false, false, false, false, false, false, false, false, false, false, false] rfl rfl (by kernel_rfl) (fun _ _ _ h => h) (Or.inl ⟨by rfl, ?_⟩) ?_ ?_
        rotate_left
        · intro w'
          go_simp
          with_reducible rfl
        rotate_left
        · simp only [Act.put, List.setIfInBounds_toArray, List.set_cons_zero, List.set_cons_succ, i64_w, i32_w]
          rfl
        refine take_ (i := 7) (N := some 23) (v := ?_) (a' := ?_) #[true, true, true, true, true, true, true, true, false, false, false, false, false, false, false, false, false, false, false, false, false, false] rfl rfl (by kernel_rfl) (fun _ _ _ h => h) (Or.inl ⟨by rfl, ?_⟩) hHeld ?_ ?_
        rotate_left
        · intro w' hS
          have s5 := blk4 hS.1
          obtain ⟨z0, _, z1, _, z2, _, z3, _⟩ := s5
          go_simp
          with_reducible rfl
        rotate_left
        · simp only [Act.put, List.setIfInBounds_toArray, List.set_cons_zero, List.set_cons_succ, i64_w, i32_w]
          rfl
        refine pure_ (i := 8) (N := some 24) (v := ?_) (a' := ?_) #[true, true, true, true, true, true, true, true, true, false, false, false, false, false, false, false, false, false, false, false, false, false] rfl rfl (by kernel_rfl) (fun _ _ _ h => h) (Or.inl ⟨by rfl, ?_⟩) ?_ ?_
        rotate_left
        · intro w'
          go_simp
          with_reducible rfl
        rotate_left
        · simp only [Act.put, List.setIfInBounds_toArray, List.set_cons_zero, List.set_cons_succ, i64_w, i32_w]
          rfl
        refine pure_ (i := 9) (N := some 25) (v := ?_) (a' := ?_) #[true, true, true, true, true, true, true, true, true, true, false, false, false, false, false, false, false, false, false, false, false, false] rfl rfl (by kernel_rfl) (fun _ _ _ h => h) (Or.inl ⟨by rfl, ?_⟩) ?_ ?_
        rotate_left
        · intro w'
          go_simp
          with_reducible rfl
        rotate_left
        · simp only [Act.put, List.setIfInBounds_toArray, List.set_cons_zero, List.set_cons_succ, i64_w, i32_w]
          rfl
        refine pure_ (i := 10) (N := some 26) (v := ?_) (a' := ?_) #[true, true, true, true, true, true, true, true, true, true, true, false, false, false, false, false, false, false, false, false, false, false] rfl rfl (by kernel_rfl) (fun _ _ _ h => h) (Or.inl ⟨by rfl, ?_⟩) ?_ ?_
        rotate_left
        · intro w'
          go_simp
          with_reducible rfl
        rotate_left
        · simp only [Act.put, List.setIfInBounds_toArray, List.set_cons_zero, List.set_cons_succ, i64_w, i32_w]
          rfl
        refine take_ (i := 11) (N := some 27) (v := ?_) (a' := ?_) #[true, true, true, true, true, true, true, true, true, true, true, true, false, false, false, false, false, false, false, false, false, false] rfl rfl (by kernel_rfl) (fun _ _ _ h => h) (Or.inl ⟨by rfl, ?_⟩) hHeld ?_ ?_
        rotate_left
        · intro w' hS
          have s6 := hS.2.1
          go_simp
          with_reducible rfl
        rotate_left
        · simp only [Act.put, List.setIfInBounds_toArray, List.set_cons_zero, List.set_cons_succ, i64_w, i32_w]
          rfl
        refine pure_ (i := 12) (N := some 28) (v := ?_) (a' := ?_) #[true, true, true, true, true, true, true, true, true, true, true, true, true, false, false, false, false, false, false, false, false, false] rfl rfl (by kernel_rfl) (fun _ _ _ h => h) (Or.inl ⟨by rfl, ?_⟩) ?_ ?_
        rotate_left
        · intro w'
          go_simp
          with_reducible rfl
        rotate_left
        · simp only [Act.put, List.setIfInBounds_toArray, List.set_cons_zero, List.set_cons_succ, i64_w, i32_w]
          rfl
        refine pure_ (i := 13) (N := some 29) (v := ?_) (a' := ?_) #[true, true, true, true, true, true, true, true, true, true, true, true, true, true, false, false, false, false, false, false, false, false] rfl rfl (by kernel_rfl) (fun _ _ _ h => h) (Or.inl ⟨by rfl, ?_⟩) ?_ ?_
        rotate_left
        · intro w'
          go_simp
          with_reducible rfl
        rotate_left
        · simp only [Act.put, List.setIfInBounds_toArray, List.set_cons_zero, List.set_cons_succ, i64_w, i32_w]
          rfl
        refine pure_ (i := 14) (N := some 30) (v := ?_) (a' := ?_) #[true, true, true, true, true, true, true, true, true, true, true, true, true, true, true, false, false, false, false, false, false, false] rfl rfl (by kernel_rfl) (fun _ _ _ h => h) (Or.inl ⟨by rfl, ?_⟩) ?_ ?_
        rotate_left
        · intro w'
          go_simp
          with_reducible rfl
        rotate_left
        · simp only [Act.put, List.setIfInBounds_toArray, List.set_cons_zero, List.set_cons_succ, i64_w, i32_w]
          rfl
        refine take_ (i := 15) (N := some 31) (v := ?_) (a' := ?_) #[true, true, true, true, true, true, true, true, true, true, true, true, true, true, true, true, false, false, false, false, false, false] rfl rfl (by kernel_rfl) (fun _ _ _ h => h) (Or.inl ⟨by rfl, ?_⟩) hHeld ?_ ?_
        rotate_left
        · intro w' hS
          have s5 := blk4 hS.1
          obtain ⟨z0, _, z1, _, z2, _, z3, _⟩ := s5
          go_simp
          with_reducible rfl
        rotate_left
        · simp only [Act.put, List.setIfInBounds_toArray, List.set_cons_zero, List.set_cons_succ, i64_w, i32_w]
          rfl
        refine pure_ (i := 16) (N := some 32) (v := ?_) (a' := ?_) #[true, true, true, true, true, true, true, true, true, true, true, true, true, true, true, true, true, false, false, false, false, false] rfl rfl (by kernel_rfl) (fun _ _ _ h => h) (Or.inl ⟨by rfl, ?_⟩) ?_ ?_
        rotate_left
        · intro w'
          go_simp
          with_reducible rfl
        rotate_left
        · simp only [Act.put, List.setIfInBounds_toArray, List.set_cons_zero, List.set_cons_succ, i64_w, i32_w]
          rfl
        refine pure_ (i := 17) (N := some 33) (v := ?_) (a' := ?_) #[true, true, true, true, true, true, true, true, true, true, true, true, true, true, true, true, true, true, false, false, false, false] rfl rfl (by kernel_rfl) (fun _ _ _ h => h) (Or.inl ⟨by rfl, ?_⟩) ?_ ?_
        rotate_left
        · intro w'
          go_simp
          with_reducible rfl
        rotate_left
        · simp only [Act.put, List.setIfInBounds_toArray, List.set_cons_zero, List.set_cons_succ, i64_w, i32_w]
          rfl
        refine pure_ (i := 18) (N := some 34) (v := ?_) (a' := ?_) #[true, true, true, true, true, true, true, true, true, true, true, true, true, true, true, true, true, true, true, false, false, false] rfl rfl (by kernel_rfl) (fun _ _ _ h => h) (Or.inl ⟨by rfl, ?_⟩) ?_ ?_
        rotate_left
        · intro w'
          go_simp
          with_reducible rfl
        rotate_left
        · simp only [Act.put, List.setIfInBounds_toArray, List.set_cons_zero, List.set_cons_succ, i64_w, i32_w]
          rfl
        refine take_ (i := 19) (N := some 35) (v := ?_) (a' := ?_) #[true, true, true, true, true, true, true, true, true, true, true, true, true, true, true, true, true, true, true, true, false, false] rfl rfl (by kernel_rfl) (fun _ _ _ h => h) (Or.inl ⟨by rfl, ?_⟩) hHeld ?_ ?_
        rotate_left
        · intro w' hS
          have s6 := hS.2.2
          go_simp
          with_reducible rfl
        rotate_left
        · simp only [Act.put, List.setIfInBounds_toArray, List.set_cons_zero, List.set_cons_succ, i64_w, i32_w]
          rfl
        refine pure_ (i := 20) (N := some 36) (v := ?_) (a' := ?_) #[true, true, true, true, true, true, true, true, true, true, true, true, true, true, true, true, true, true, true, true, true, false] rfl rfl (by kernel_rfl) (fun _ _ _ h => h) (Or.inl ⟨by rfl, ?_⟩) ?_ ?_
        rotate_left
        · intro w'
          go_simp
          with_reducible rfl
        rotate_left
        · simp only [Act.put, List.setIfInBounds_toArray, List.set_cons_zero, List.set_cons_succ, i64_w, i32_w]
          rfl
        refine last_ (i := 21) (N := none) #[true, true, true, true, true, true, true, true, true, true, true, true, true, true, true, true, true, true, true, true, true, true] rfl rfl (by kernel_rfl) (by decide) (fun K hK => ?_)
        obtain ⟨gx, cx, ex, hcx, hfx⟩ := cell_firm' HF2.out x.1 (by rw [HX.out.1]; exact hxi)
        simp only [Value.slice.injEq, Option.some.injEq, Addr.mk.injEq, and_true, true_and] at ex
        obtain ⟨rfl, rfl⟩ := ex
        refine skip_ (w1 := ?_) (by rfl) rfl ?_ ?_
        rotate_left
        · go_simp
          rfl
        clear hcx hfx
        refine hK.out _ _ ?_
        clear hK K
        refine done_ (by kernel_rfl) ?_
        have HR4 := Lib.hid (row_set HF2.out x.1 (by rw [HX.out.1]; exact hxi) x.2)
        have HQ4 := Lib.hid (set_far HQ2.out (p := ⟨gf, x.1, none⟩) (fun e => HNE.out.1 e) (.string x.2))
        have HL4 := Lib.hid (row_kept HL2.out (w' := w2.setCell ⟨gf, x.1, none⟩ (.string x.2)) (fun k hk => Below.heap_setCell _ _ _ _ (fun e => by simp only [Value.ownBlock, Option.some.injEq] at hk; exact HNE.out.2 (hk.trans e))))
        have HR5 := Lib.hid (HR2.out.trans (Fr.setCell (F := F) w2 (p := ⟨gf, x.1, none⟩) HNE1.out (.string x.2)) (fun _ _ h => h))
        generalize w2.setCell ⟨gf, x.1, none⟩ (.string x.2) = w4 at HR4 HQ4 HL4 HR5 ⊢
        go_wp2
        go_roundw
        case rel => exact ⟨k + 1, X.set x.1 x.2, by go_num, by omega, Lib.hid (by rw [HK.out, List.take_succ_eq_append_getElem hlt, HXE.out, List.foldl_append]; rfl), Lib.hid (by rw [List.length_set]; exact HX1.out), HQ4, HR4, HL4, HR5⟩
        case measure => simp [intOf]; omega
      · obtain rfl : k = d.late.length := by omega
        go_wp2
        go_ret
        have hX : X = d.now := by rw [HK.out, List.take_length]; rfl
        subst hX
        refine ⟨rfl, ⟨.slice (some ⟨gf, 0, none⟩) d.now.length cf, .slice none 0 0, ?_⟩, HRR.out.trans (Fr.setCell (F := F) wr (p := ⟨q, 1, none⟩) HFQ.out _) (fun _ _ h => h)⟩
        have hq2 := set_at HQ.out 1 (.slice none 0 0)
        have hf2 := row_kept HRF.out (w' := wr.setCell ⟨q, 1, none⟩ (.slice none 0 0)) (fun k hk => Below.heap_setCell _ _ _ _ (fun e => by simp only [Value.ownBlock, Option.some.injEq] at hk; exact HNE.out.1 (by rw [hk]; exact e.symm)))
        rw [← HX1.out] at hq2 hf2
        exact rat_end HBO.out HFQ.out ⟨HNE1.out, fun e => HNE.out.1 e.symm⟩ hq2 hf2 (fun k hk => by have h1 := HLTT.out k hk; have h2 := HRR.out.size; simp only [World.setCell, Array.size_modify]; omega)
set_option maxHeartbeats 4000000 in
theorem rcrash_calls (h : RAt F w q vf vl d) (keep : Int) (hk0 : 0 ≤ keep) (hk1 : keep < 18446744073709551616) (hl : d.late.length ≤ 1000000) :
    Calls Try.prog 42 #[.pointer (some ⟨q, 0, none⟩), .int .u64 keep] w fun e w' => e = .returned (.tuple #[]) ∧ (∃ vf' vl', RAt F w' q vf' vl' (d.crash keep)) ∧ Fr F w w' := by
  have HOK := Lib.hid (h.ok)
  have HBO := Lib.hid (h.ok.crash keep)
  have hn2 := h.ok.n2
  obtain ⟨gf, cf, hvf, hz1⟩ := cell_firm h.hf 0 (by have := h.ok.n1; omega)
  clear hz1
  subst hvf
  rcases row_some h.hl with ⟨rfl, hl0⟩ | ⟨gl, cl, rfl, _⟩
  · have HEM := Lib.hid (List.length_eq_zero_iff.1 hl0)
    rw [hl0] at hl
    have H1 := Lib.hid h
    clear h
    have hx := blk4 H1.out.hq
    go_enter Try.func42, Try.ntmps42
    go_wp2
    go_loopw [4] (fun s4 wr => s4 = .int .i64 0 ∧ Hid (wr = w)) (fun _ _ => 0)
    case atStart => exact ⟨rfl, Lib.hid rfl⟩
    case round =>
      obtain ⟨rfl, hw⟩ := hrel
      obtain rfl := hw.out
      clear hw
      have hx := blk4 H1.out.hq
      have hx2 := blk4 (set_at H1.out.hq 1 (.slice none 0 0))
      have hx3 := blk4 (set_at (set_at H1.out.hq 1 (.slice none 0 0)) 2 (.int .i64 (-1)))
      go_wp2
      go_end0
      have hcr : d.crash keep = ⟨d.firm, [], -1, false⟩ := by unfold Dv.crash; rw [HEM.out]; rfl
      have hfr : Fr F wr (((wr.setCell ⟨q, 1, none⟩ (.slice none 0 0)).setCell ⟨q, 2, none⟩ (.int .i64 (-1))).setCell ⟨q, 3, none⟩ (.bool false)) := ((H1.out.frq _ _).trans (Fr.setCell _ H1.out.fq _) (fun _ _ h => h)).trans (Fr.setCell _ H1.out.fq _) (fun _ _ h => h)
      refine ⟨rfl, ⟨.slice (some ⟨gf, 0, none⟩) d.firm.length cf, .slice none 0 0, ?_⟩, hfr⟩
      have hbo := HBO.out
      rw [hcr] at hbo ⊢
      refine rat_end hbo H1.out.fq (H1.out.ff gf rfl) (set_at (set_at (set_at H1.out.hq 1 (.slice none 0 0)) 2 (.int .i64 (-1))) 3 (.bool false)) ?_ (fun k hk => by have h1 := H1.out.lt k hk; have h2 := hfr.size; omega)
      have hgq := (H1.out.ff gf rfl).2
      exact row_kept H1.out.hf fun k hk => by
        simp only [Value.ownBlock, Option.some.injEq] at hk
        subst hk
        rw [Below.heap_setCell _ _ _ _ hgq, Below.heap_setCell _ _ _ _ hgq, Below.heap_setCell _ _ _ _ hgq]
  · have HNE := Lib.hid (show q ≠ gf ∧ gl ≠ gf from ⟨fun e => (h.ff gf rfl).2 e.symm, fun e => (h.fl gl rfl).2.2 (by rw [e]; rfl)⟩)
    have HNE1 := Lib.hid (h.ff gf rfl).1
    have HFQ := Lib.hid h.fq
    have HLTT := Lib.hid h.lt
    have H1 := Lib.hid h
    clear h
    have hx := blk4 H1.out.hq
    go_enter Try.func42, Try.ntmps42
    go_wp2
    go_loopw [4] (fun s4 wr => ∃ (k : Nat) (X : List ByteArray), s4 = .int .i64 k ∧ k ≤ d.late.length ∧ Hid (kept keep k (d.late.drop k) X = kept keep 0 d.late d.firm) ∧ Hid (X.length = d.firm.length) ∧ Hid (wr.heap[q]? = some (.cells #[.slice (some ⟨gf, 0, none⟩) d.firm.length cf, .slice (some ⟨gl, 0, none⟩) d.late.length cl, .int .i64 d.fuse, .bool d.dead] 67 (0, 0))) ∧ Hid (wr.ownsRow 0 9 1 (.slice (some ⟨gf, 0, none⟩) d.firm.length cf) d.firm.length (X.flatMap scell)) ∧ Hid (wr.ownsRow 0 109 2 (.slice (some ⟨gl, 0, none⟩) d.late.length cl) d.late.length (d.late.flatMap lcells)) ∧ Hid (Fr F w wr)) (fun s4 _ => d.late.length - (intOf s4).toNat)
    case atStart => exact ⟨0, d.firm, by simp, Nat.zero_le _, Lib.hid (by rw [List.drop_zero]), Lib.hid rfl, Lib.hid H1.out.hq, Lib.hid H1.out.hf, Lib.hid H1.out.hl, Lib.hid (Fr.refl _ _)⟩
    case round =>
      clear H1 hx
      obtain ⟨k, X, rfl, hk, HK, HX1, HQ, HRF, HRL, HRR⟩ := hrel
      have HX := Lib.hid (And.intro HX1.out True.intro)
      have hx := blk4 HQ.out
      by_cases hlt : k < d.late.length
      · obtain ⟨g', cap', e, c0, c1⟩ := cell_late HRL.out k hlt
        simp only [Value.slice.injEq, Option.some.injEq, Addr.mk.injEq, and_true, true_and] at e
        obtain ⟨rfl, rfl⟩ := e
        obtain ⟨x, hx2⟩ : ∃ x, d.late[k] = x := ⟨_, rfl⟩
        have hxi : x.1 < d.firm.length := (HOK.out.la x (hx2 ▸ List.getElem_mem hlt)).1
        rw [hx2] at c0 c1
        have HXE := Lib.hid hx2
        clear hx2
        go_wp2
        · have HBT := Lib.hid ((bit_ref keep k hk0).symm.trans (by assumption))
          refine start_ (n := 22) (S := fun w' => w'.heap[q]? = some (.cells #[.slice (some ⟨gf, 0, none⟩) d.firm.length cf, .slice (some ⟨gl, 0, none⟩) d.late.length cl, .int .i64 d.fuse, .bool d.dead] 67 (0, 0)) ∧ w'.cell? ⟨gl, k * 2, none⟩ = some (.int .i64 (x.1 : Int)) ∧ w'.cell? ⟨gl, k * 2 + 1, none⟩ = some (.string x.2)) (ds := [21]) #[false, false, false, false, false, false, false, false, false, false, false, false, false, false, false, false, false, false, false, false, false, false] (by kernel_rfl) rfl rfl (⟨HQ.out, c0, c1⟩) (fun hHeld => ?_)
          have HQ2 := Lib.hid (show wr.drew.heap[q]? = _ from HQ.out)
          have HF2 := Lib.hid ((Fr.drew (fun _ => False) wr).row HRF.out (fun _ _ h => h))
          have HL2 := Lib.hid ((Fr.drew (fun _ => False) wr).row HRL.out (fun _ _ h => h))
          have HR2 := Lib.hid (HRR.out.trans (Fr.drew F wr) (fun _ _ h => h))
          generalize wr.drew = w2 at HQ2 HF2 HL2 HR2 hHeld ⊢
          clear HQ HRF HRL HRR hx c0 c1
          refine pure_ (i := 0) (N := some 21) (v := ?_) (a' := ?_) #[true, false, false, false, false, false, false, false, false, false, false, false, false, false, false, false, false, false, false, false, false, false] rfl rfl (by kernel_rfl) (fun _ _ _ h => h) (Or.inl ⟨by rfl, ?_⟩) ?_ ?_
          rotate_left
          · intro w'
            go_simp
            with_reducible rfl
          rotate_left
          · simp only [Act.put, List.setIfInBounds_toArray, List.set_cons_zero, List.set_cons_succ, i64_w, i32_w]
            rfl
          refine pure_ (i := 1) (N := some 22) (v := ?_) (a' := ?_) #[true, true, false, false, false, false, false, false, false, false, false, false, false, false, false, false, false, false, false, false, false, false] rfl rfl (by kernel_rfl) (fun _ _ _ h => h) (Or.inl ⟨by rfl, ?_⟩) ?_ ?_
          rotate_left
          · intro w'
            go_simp
            with_reducible rfl
          rotate_left
          · simp only [Act.put, List.setIfInBounds_toArray, List.set_cons_zero, List.set_cons_succ, i64_w, i32_w]
            rfl
          refine pure_ (i := 2) (N := some 23) (v := ?_) (a' := ?_) #[true, true, true, false, false, false, false, false, false, false, false, false, false, false, false, false, false, false, false, false, false, false] rfl rfl (by kernel_rfl) (fun _ _ _ h => h) (Or.inl ⟨by rfl, ?_⟩) ?_ ?_
          rotate_left
          · intro w'
            go_simp
            with_reducible rfl
          rotate_left
          · simp only [Act.put, List.setIfInBounds_toArray, List.set_cons_zero, List.set_cons_succ, i64_w, i32_w]
            rfl
          refine take_ (i := 3) (N := some 24) (v := ?_) (a' := ?_) #[true, true, true, true, false, false, false, false, false, false, false, false, false, false, false, false, false, false, false, false, false, false] rfl rfl (by kernel_rfl) (fun _ _ _ h => h) (Or.inl ⟨by rfl, ?_⟩) hHeld ?_ ?_
          rotate_left
          · intro w' hS
            have s5 := blk4 hS.1
            obtain ⟨z0, _, z1, _, z2, _, z3, _⟩ := s5
            go_simp
            with_reducible rfl
          rotate_left
          · simp only [Act.put, List.setIfInBounds_toArray, List.set_cons_zero, List.set_cons_succ, i64_w, i32_w]
            rfl
          refine pure_ (i := 4) (N := some 25) (v := ?_) (a' := ?_) #[true, true, true, true, true, false, false, false, false, false, false, false, false, false, false, false, false, false, false, false, false, false] rfl rfl (by kernel_rfl) (fun _ _ _ h => h) (Or.inl ⟨by rfl, ?_⟩) ?_ ?_
          rotate_left
          · intro w'
            go_simp
            with_reducible rfl
          rotate_left
          · simp only [Act.put, List.setIfInBounds_toArray, List.set_cons_zero, List.set_cons_succ, i64_w, i32_w]
            rfl
          refine pure_ (i := 5) (N := some 26) (v := ?_) (a' := ?_) #[true, true, true, true, true, true, false, false, false, false, false, false, false, false, false, false, false, false, false, false, false, false] rfl rfl (by kernel_rfl) (fun _ _ _ h => h) (Or.inl ⟨by rfl, ?_⟩) ?_ ?_
          rotate_left
          · intro w'
            go_simp
            with_reducible rfl
          rotate_left
          · simp only [Act.put, List.setIfInBounds_toArray, List.set_cons_zero, List.set_cons_succ, i64_w, i32_w]
            rfl
          refine pure_ (i := 6) (N := some 27) (v := ?_) (a' := ?_) #[true, true, true, true, true, true, true, false, false, false, false, false, false, false, false, false, false, false, false, false, false, false] rfl rfl (by kernel_rfl) (fun _ _ _ h => h) (Or.inl ⟨by rfl, ?_⟩) ?_ ?_
          rotate_left
          · intro w'
            go_simp
            with_reducible rfl
          rotate_left
          · simp only [Act.put, List.setIfInBounds_toArray, List.set_cons_zero, List.set_cons_succ, i64_w, i32_w]
            rfl
          refine take_ (i := 7) (N := some 28) (v := ?_) (a' := ?_) #[true, true, true, true, true, true, true, true, false, false, false, false, false, false, false, false, false, false, false, false, false, false] rfl rfl (by kernel_rfl) (fun _ _ _ h => h) (Or.inl ⟨by rfl, ?_⟩) hHeld ?_ ?_
          rotate_left
          · intro w' hS
            have s5 := blk4 hS.1
            obtain ⟨z0, _, z1, _, z2, _, z3, _⟩ := s5
            go_simp
            with_reducible rfl
          rotate_left
          · simp only [Act.put, List.setIfInBounds_toArray, List.set_cons_zero, List.set_cons_succ, i64_w, i32_w]
            rfl
          refine pure_ (i := 8) (N := some 29) (v := ?_) (a' := ?_) #[true, true, true, true, true, true, true, true, true, false, false, false, false, false, false, false, false, false, false, false, false, false] rfl rfl (by kernel_rfl) (fun _ _ _ h => h) (Or.inl ⟨by rfl, ?_⟩) ?_ ?_
          rotate_left
          · intro w'
            go_simp
            with_reducible rfl
          rotate_left
          · simp only [Act.put, List.setIfInBounds_toArray, List.set_cons_zero, List.set_cons_succ, i64_w, i32_w]
            rfl
          refine pure_ (i := 9) (N := some 30) (v := ?_) (a' := ?_) #[true, true, true, true, true, true, true, true, true, true, false, false, false, false, false, false, false, false, false, false, false, false] rfl rfl (by kernel_rfl) (fun _ _ _ h => h) (Or.inl ⟨by rfl, ?_⟩) ?_ ?_
          rotate_left
          · intro w'
            go_simp
            with_reducible rfl
          rotate_left
          · simp only [Act.put, List.setIfInBounds_toArray, List.set_cons_zero, List.set_cons_succ, i64_w, i32_w]
            rfl
          refine pure_ (i := 10) (N := some 31) (v := ?_) (a' := ?_) #[true, true, true, true, true, true, true, true, true, true, true, false, false, false, false, false, false, false, false, false, false, false] rfl rfl (by kernel_rfl) (fun _ _ _ h => h) (Or.inl ⟨by rfl, ?_⟩) ?_ ?_
          rotate_left
          · intro w'
            go_simp
            with_reducible rfl
          rotate_left
          · simp only [Act.put, List.setIfInBounds_toArray, List.set_cons_zero, List.set_cons_succ, i64_w, i32_w]
            rfl
          refine take_ (i := 11) (N := some 32) (v := ?_) (a' := ?_) #[true, true, true, true, true, true, true, true, true, true, true, true, false, false, false, false, false, false, false, false, false, false] rfl rfl (by kernel_rfl) (fun _ _ _ h => h) (Or.inl ⟨by rfl, ?_⟩) hHeld ?_ ?_
          rotate_left
          · intro w' hS
            have s6 := hS.2.1
            go_simp
            with_reducible rfl
          rotate_left
          · simp only [Act.put, List.setIfInBounds_toArray, List.set_cons_zero, List.set_cons_succ, i64_w, i32_w]
            rfl
          refine pure_ (i := 12) (N := some 33) (v := ?_) (a' := ?_) #[true, true, true, true, true, true, true, true, true, true, true, true, true, false, false, false, false, false, false, false, false, false] rfl rfl (by kernel_rfl) (fun _ _ _ h => h) (Or.inl ⟨by rfl, ?_⟩) ?_ ?_
          rotate_left
          · intro w'
            go_simp
            with_reducible rfl
          rotate_left
          · simp only [Act.put, List.setIfInBounds_toArray, List.set_cons_zero, List.set_cons_succ, i64_w, i32_w]
            rfl
          refine pure_ (i := 13) (N := some 34) (v := ?_) (a' := ?_) #[true, true, true, true, true, true, true, true, true, true, true, true, true, true, false, false, false, false, false, false, false, false] rfl rfl (by kernel_rfl) (fun _ _ _ h => h) (Or.inl ⟨by rfl, ?_⟩) ?_ ?_
          rotate_left
          · intro w'
            go_simp
            with_reducible rfl
          rotate_left
          · simp only [Act.put, List.setIfInBounds_toArray, List.set_cons_zero, List.set_cons_succ, i64_w, i32_w]
            rfl
          refine pure_ (i := 14) (N := some 35) (v := ?_) (a' := ?_) #[true, true, true, true, true, true, true, true, true, true, true, true, true, true, true, false, false, false, false, false, false, false] rfl rfl (by kernel_rfl) (fun _ _ _ h => h) (Or.inl ⟨by rfl, ?_⟩) ?_ ?_
          rotate_left
          · intro w'
            go_simp
            with_reducible rfl
          rotate_left
          · simp only [Act.put, List.setIfInBounds_toArray, List.set_cons_zero, List.set_cons_succ, i64_w, i32_w]
            rfl
          refine take_ (i := 15) (N := some 36) (v := ?_) (a' := ?_) #[true, true, true, true, true, true, true, true, true, true, true, true, true, true, true, true, false, false, false, false, false, false] rfl rfl (by kernel_rfl) (fun _ _ _ h => h) (Or.inl ⟨by rfl, ?_⟩) hHeld ?_ ?_
          rotate_left
          · intro w' hS
            have s5 := blk4 hS.1
            obtain ⟨z0, _, z1, _, z2, _, z3, _⟩ := s5
            go_simp
            with_reducible rfl
          rotate_left
          · simp only [Act.put, List.setIfInBounds_toArray, List.set_cons_zero, List.set_cons_succ, i64_w, i32_w]
            rfl
          refine pure_ (i := 16) (N := some 37) (v := ?_) (a' := ?_) #[true, true, true, true, true, true, true, true, true, true, true, true, true, true, true, true, true, false, false, false, false, false] rfl rfl (by kernel_rfl) (fun _ _ _ h => h) (Or.inl ⟨by rfl, ?_⟩) ?_ ?_
          rotate_left
          · intro w'
            go_simp
            with_reducible rfl
          rotate_left
          · simp only [Act.put, List.setIfInBounds_toArray, List.set_cons_zero, List.set_cons_succ, i64_w, i32_w]
            rfl
          refine pure_ (i := 17) (N := some 38) (v := ?_) (a' := ?_) #[true, true, true, true, true, true, true, true, true, true, true, true, true, true, true, true, true, true, false, false, false, false] rfl rfl (by kernel_rfl) (fun _ _ _ h => h) (Or.inl ⟨by rfl, ?_⟩) ?_ ?_
          rotate_left
          · intro w'
            go_simp
            with_reducible rfl
          rotate_left
          · simp only [Act.put, List.setIfInBounds_toArray, List.set_cons_zero, List.set_cons_succ, i64_w, i32_w]
            rfl
          refine pure_ (i := 18) (N := some 39) (v := ?_) (a' := ?_) #[true, true, true, true, true, true, true, true, true, true, true, true, true, true, true, true, true, true, true, false, false, false] rfl rfl (by kernel_rfl) (fun _ _ _ h => h) (Or.inl ⟨by rfl, ?_⟩) ?_ ?_
          rotate_left
          · intro w'
            go_simp
            with_reducible rfl
          rotate_left
          · simp only [Act.put, List.setIfInBounds_toArray, List.set_cons_zero, List.set_cons_succ, i64_w, i32_w]
            rfl
          refine take_ (i := 19) (N := some 40) (v := ?_) (a' := ?_) #[true, true, true, true, true, true, true, true, true, true, true, true, true, true, true, true, true, true, true, true, false, false] rfl rfl (by kernel_rfl) (fun _ _ _ h => h) (Or.inl ⟨by rfl, ?_⟩) hHeld ?_ ?_
          rotate_left
          · intro w' hS
            have s6 := hS.2.2
            go_simp
            with_reducible rfl
          rotate_left
          · simp only [Act.put, List.setIfInBounds_toArray, List.set_cons_zero, List.set_cons_succ, i64_w, i32_w]
            rfl
          refine pure_ (i := 20) (N := some 41) (v := ?_) (a' := ?_) #[true, true, true, true, true, true, true, true, true, true, true, true, true, true, true, true, true, true, true, true, true, false] rfl rfl (by kernel_rfl) (fun _ _ _ h => h) (Or.inl ⟨by rfl, ?_⟩) ?_ ?_
          rotate_left
          · intro w'
            go_simp
            with_reducible rfl
          rotate_left
          · simp only [Act.put, List.setIfInBounds_toArray, List.set_cons_zero, List.set_cons_succ, i64_w, i32_w]
            rfl
          refine last_ (i := 21) (N := none) #[true, true, true, true, true, true, true, true, true, true, true, true, true, true, true, true, true, true, true, true, true, true] rfl rfl (by kernel_rfl) (by decide) (fun K hK => ?_)
          obtain ⟨gx, cx, ex, hcx, hfx⟩ := cell_firm' HF2.out x.1 (by rw [HX.out.1]; exact hxi)
          simp only [Value.slice.injEq, Option.some.injEq, Addr.mk.injEq, and_true, true_and] at ex
          obtain ⟨rfl, rfl⟩ := ex
          refine skip_ (w1 := ?_) (by rfl) rfl ?_ ?_
          rotate_left
          · go_simp
            rfl
          clear hcx hfx
          refine hK.out _ _ ?_
          clear hK K
          refine done_ (by kernel_rfl) ?_
          have HR4 := Lib.hid (row_set HF2.out x.1 (by rw [HX.out.1]; exact hxi) x.2)
          have HQ4 := Lib.hid (set_far HQ2.out (p := ⟨gf, x.1, none⟩) (fun e => HNE.out.1 e) (.string x.2))
          have HL4 := Lib.hid (row_kept HL2.out (w' := w2.setCell ⟨gf, x.1, none⟩ (.string x.2)) (fun k hk => Below.heap_setCell _ _ _ _ (fun e => by simp only [Value.ownBlock, Option.some.injEq] at hk; exact HNE.out.2 (hk.trans e))))
          have HR5 := Lib.hid (HR2.out.trans (Fr.setCell (F := F) w2 (p := ⟨gf, x.1, none⟩) HNE1.out (.string x.2)) (fun _ _ h => h))
          generalize w2.setCell ⟨gf, x.1, none⟩ (.string x.2) = w4 at HR4 HQ4 HL4 HR5 ⊢
          go_wp2
          go_roundw
          case rel => exact ⟨k + 1, X.set x.1 x.2, by go_num, by omega, Lib.hid (by rw [← HK.out, List.drop_eq_getElem_cons hlt, HXE.out, kept, if_pos HBT.out]; rfl), Lib.hid (by rw [List.length_set]; exact HX1.out), HQ4, HR4, HL4, HR5⟩
          case measure => simp [intOf]; omega
        · have HBT := Lib.hid ((bit_ref keep k hk0).symm.trans (by assumption))
          go_roundw
          case rel => exact ⟨k + 1, X, by go_num, by omega, Lib.hid (by rw [← HK.out, List.drop_eq_getElem_cons hlt, kept, if_neg (by rw [HBT.out]; simp)]), HX1, HQ, HRF, HRL, HRR⟩
          case measure => simp [intOf]; omega
      · obtain rfl : k = d.late.length := by omega
        have hx2 := blk4 (set_at HQ.out 1 (.slice none 0 0))
        have hx3 := blk4 (set_at (set_at HQ.out 1 (.slice none 0 0)) 2 (.int .i64 (-1)))
        go_wp2
        go_end0
        have hX : X = kept keep 0 d.late d.firm := by
          have h := HK.out
          rw [List.drop_length] at h
          exact h
        have hfr : Fr F w (((wr.setCell ⟨q, 1, none⟩ (.slice none 0 0)).setCell ⟨q, 2, none⟩ (.int .i64 (-1))).setCell ⟨q, 3, none⟩ (.bool false)) := ((HRR.out.trans (Fr.setCell (F := F) wr (p := ⟨q, 1, none⟩) HFQ.out _) (fun _ _ h => h)).trans (Fr.setCell _ HFQ.out _) (fun _ _ h => h)).trans (Fr.setCell _ HFQ.out _) (fun _ _ h => h)
        have hcr : d.crash keep = ⟨X, [], -1, false⟩ := by unfold Dv.crash; rw [hX]
        have hbo := HBO.out
        rw [hcr] at hbo ⊢
        refine ⟨rfl, ⟨.slice (some ⟨gf, 0, none⟩) X.length cf, .slice none 0 0, ?_⟩, hfr⟩
        have hq2 := set_at (set_at (set_at HQ.out 1 (.slice none 0 0)) 2 (.int .i64 (-1))) 3 (.bool false)
        have hf2 := row_kept HRF.out (w' := ((wr.setCell ⟨q, 1, none⟩ (.slice none 0 0)).setCell ⟨q, 2, none⟩ (.int .i64 (-1))).setCell ⟨q, 3, none⟩ (.bool false)) (fun k hk => by
          have hkq : k ≠ q := fun e => by simp only [Value.ownBlock, Option.some.injEq] at hk; exact HNE.out.1 (by rw [hk]; exact e.symm)
          rw [Below.heap_setCell _ _ _ _ hkq, Below.heap_setCell _ _ _ _ hkq, Below.heap_setCell _ _ _ _ hkq])
        rw [← HX1.out] at hq2 hf2
        exact rat_end hbo HFQ.out ⟨HNE1.out, fun e => HNE.out.1 e.symm⟩ hq2 hf2 (fun k hk => by have h1 := HLTT.out k hk; have h2 := hfr.size; have h3 := HRR.out.size; simp only [World.setCell, Array.size_modify]; omega)
end Go.Proofs.Ytmdojgkgohmghaa.Dev
namespace Go.Proofs.Ytmdojgkgohmghaa.Dev
open Go.RowKit Go.Own Go.DevL Go.Blk Go.Proofs.YtmdojgkgohmghaaW.PrintLast Go.Proofs.YtmdojgkgohmghaaW.PrintWords
set_option linter.unusedVariables false
set_option maxRecDepth 100000
set_option linter.unusedSimpArgs false
variable {F : Nat → Prop} {w w' : World} {q : Nat} {vf vl : Value} {d : Dv}
/-- The document's device lies at q. -/
def RDev (F : Nat → Prop) (w : World) (q : Nat) (d : Dv) : Prop := ∃ vf vl, RAt F w q vf vl d
set_option maxHeartbeats 4000000 in
theorem rnew_any (n : Int) (w : World) : Calls Try.prog 23 #[.int .i64 n] w fun e w' => (∃ q, e = .returned (.pointer (some ⟨q, 0, none⟩)) ∧ RDev (fun k => w.heap.size ≤ k ∧ k < w'.heap.size) w' q (fresh n)) ∧ Below w.heap.size w w' := by
  by_cases h1 : n < 1
  · have hcl : clamp n = 1 := by unfold clamp; omega
    go_enter Try.func23, Try.ntmps23
    go_wp2
    have HQ0 := Lib.hid (alloc_at w (.cells #[.slice none 0 0, .slice none 0 0, .int .i64 (-1), .bool false] 67))
    have HB0 := Lib.hid (show Below w.heap.size w (w.alloc (.cells #[.slice none 0 0, .slice none 0 0, .int .i64 (-1), .bool false] 67)) from (Below.refl _ _).alloc (Nat.le_refl _) _)
    obtain ⟨q, hq⟩ : ∃ q, w.heap.size = q := ⟨_, rfl⟩
    have HWQ := Lib.hid (show w.heap.size ≤ q by omega)
    conv at HQ0 => rw [hq]
    change Code.wp _ _ _ _ (w.alloc (.cells #[.slice none 0 0, .slice none 0 0, .int .i64 (-1), .bool false] 67))
    generalize w.alloc (.cells #[.slice none 0 0, .slice none 0 0, .int .i64 (-1), .bool false] 67) = w1 at HQ0 HB0 ⊢
    rw [show (⟨w.heap.size, 0, none⟩ : Addr) = ⟨q, 0, none⟩ by rw [hq]]
    clear hq
    go_loopw [5] (fun s5 wr => ∃ (i : Nat) (vf : Value), s5 = .int .i64 i ∧ i ≤ 1 ∧ Hid (wr.heap[q]? = some (.cells #[vf, .slice none 0 0, .int .i64 (-1), .bool false] 67 (0, 0))) ∧ Hid (wr.ownsRow w.heap.size 9 1 vf i ((List.replicate i Z).flatMap scell)) ∧ Hid (vf.ownBlock ≠ some q) ∧ Hid (Below w.heap.size w wr)) (fun s5 _ => 1 - (intOf s5).toNat)
    case atStart => exact ⟨0, .slice none 0 0, by simp, Nat.zero_le _, HQ0, Lib.hid (World.ownsRow_nil _ _ _ _), Lib.hid (by simp [Value.ownBlock]), HB0⟩
    case round =>
      clear HQ0 HB0
      obtain ⟨i, vf, rfl, hi, HQ, HO, HVQ, HB⟩ := hrel
      have hx := blk4 HQ.out
      by_cases hlt : i < 1
      · have hlt2 : (i : Int) < 1 := by omega
        go_wp2
        clear hx
        refine start_ (n := 11) (S := fun w' => w'.heap[q]? = some (.cells #[vf, .slice none 0 0, .int .i64 (-1), .bool false] 67 (0, 0))) (ds := [10]) #[false, false, false, false, false, false, false, false, false, false, false] (by kernel_rfl) rfl rfl (HQ.out) (fun hHeld => ?_)
        have HQ2 := Lib.hid (show wr.drew.heap[q]? = _ from HQ.out)
        have HO2 := Lib.hid ((Fr.drew (fun _ => False) wr).row HO.out (fun _ _ h => h))
        have HB2 := Lib.hid HB.out.drew
        generalize wr.drew = w2 at HQ2 HO2 HB2 hHeld ⊢
        clear HQ HO HB
        refine pure_ (i := 0) (N := some 18) (v := ?_) (a' := ?_) #[true, false, false, false, false, false, false, false, false, false, false] rfl rfl (by kernel_rfl) (fun _ _ _ h => h) (Or.inl ⟨by rfl, ?_⟩) ?_ ?_
        rotate_left
        · intro w'
          go_simp
          with_reducible rfl
        rotate_left
        · simp only [Act.put, List.setIfInBounds_toArray, List.set_cons_zero, List.set_cons_succ, i64_w, i32_w]
          rfl
        refine pure_ (i := 1) (N := some 19) (v := ?_) (a' := ?_) #[true, true, false, false, false, false, false, false, false, false, false] rfl rfl (by kernel_rfl) (fun _ _ _ h => h) (Or.inl ⟨by rfl, ?_⟩) ?_ ?_
        rotate_left
        · intro w'
          go_simp
          with_reducible rfl
        rotate_left
        · simp only [Act.put, List.setIfInBounds_toArray, List.set_cons_zero, List.set_cons_succ, i64_w, i32_w]
          rfl
        refine pure_ (i := 2) (N := some 20) (v := ?_) (a' := ?_) #[true, true, true, false, false, false, false, false, false, false, false] rfl rfl (by kernel_rfl) (fun _ _ _ h => h) (Or.inl ⟨by rfl, ?_⟩) ?_ ?_
        rotate_left
        · intro w'
          go_simp
          with_reducible rfl
        rotate_left
        · simp only [Act.put, List.setIfInBounds_toArray, List.set_cons_zero, List.set_cons_succ, i64_w, i32_w]
          rfl
        refine pure_ (i := 3) (N := some 21) (v := ?_) (a' := ?_) #[true, true, true, true, false, false, false, false, false, false, false] rfl rfl (by kernel_rfl) (fun _ _ _ h => h) (Or.inl ⟨by rfl, ?_⟩) ?_ ?_
        rotate_left
        · intro w'
          go_simp
          with_reducible rfl
        rotate_left
        · simp only [Act.put, List.setIfInBounds_toArray, List.set_cons_zero, List.set_cons_succ, i64_w, i32_w]
          rfl
        refine take_ (i := 4) (N := some 22) (v := ?_) (a' := ?_) #[true, true, true, true, true, false, false, false, false, false, false] rfl rfl (by kernel_rfl) (fun _ _ _ h => h) (Or.inl ⟨by rfl, ?_⟩) hHeld ?_ ?_
        rotate_left
        · intro w' hS
          have s5 := blk4 hS
          obtain ⟨z0, _, z1, _, z2, _, z3, _⟩ := s5
          go_simp
          with_reducible rfl
        rotate_left
        · simp only [Act.put, List.setIfInBounds_toArray, List.set_cons_zero, List.set_cons_succ, i64_w, i32_w]
          rfl
        refine one_ (i := 5) (N := some 23) #[true, true, true, true, true, true, false, false, false, false, false] rfl rfl (by kernel_rfl) (by decide) (fun K hK => ?_)
        refine goes_ Try.func38 (by kernel_rfl) rfl #[] (by rfl) rfl rfl (by (try simp only [List.map_toArray, List.map_cons, List.map_nil]); first | done | rfl) ?_
        refine (noughts_calls w2).mono ?_
        rintro e w3 ⟨rfl, hb⟩
        refine ⟨_, rfl, ?_⟩
        have HQ3 := Lib.hid (below_old HQ2.out hb)
        have HO3 := Lib.hid ((Fr.of_below (F := fun _ => False) hb).row HO2.out (fun _ _ h => h))
        have HB3 := Lib.hid (HB2.out.trans (hb.mono HB2.out.size))
        clear hb HQ2 HO2 HB2
        refine hK.out _ _ HQ3.out (fun hHeld => ?_)
        clear hK K
        refine norm_ (a' := ?_) ?_ ?_
        rotate_left
        · show Act.put _ (some 23) _ = _
          simp only [Act.put, List.setIfInBounds_toArray, List.set_cons_zero, List.set_cons_succ, i64_w, i32_w]
          rfl
        refine one_ (i := 6) (N := some 24) #[true, true, true, true, true, true, true, false, false, false, false] rfl rfl (by kernel_rfl) (by decide) (fun K hK => ?_)
        refine value_ (by rfl) rfl (execOp_buildSlice (ps := #[(0, .string Z)]) rfl rfl (run_bs w3 Z)) ?_
        have HQ4 := Lib.hid (alloc_old HQ3.out (.cells #[.string Z] 9))
        have HO4 := Lib.hid (HO3.out.alloc (.cells #[.string Z] 9))
        have HB4 := Lib.hid (HB3.out.alloc HB3.out.size (.cells #[.string Z] 9))
        have HN4 := Lib.hid (alloc_at w3 (.cells #[.string Z] 9))
        obtain ⟨N, hN⟩ : ∃ N, w3.heap.size = N := ⟨_, rfl⟩
        rw [hN] at HN4 ⊢
        clear hN
        generalize w3.alloc (.cells #[.string Z] 9) = w4 at HQ4 HO4 HB4 HN4 ⊢
        clear HQ3 HO3 HB3 hHeld
        refine hK.out _ _ HQ4.out (fun hHeld => ?_)
        clear hK K
        refine norm_ (a' := ?_) ?_ ?_
        rotate_left
        · show Act.put _ (some 24) _ = _
          simp only [Act.put, List.setIfInBounds_toArray, List.set_cons_zero, List.set_cons_succ, i64_w, i32_w]
          rfl
        refine one_ (i := 7) (N := some 25) #[true, true, true, true, true, true, true, true, false, false, false] rfl rfl (by kernel_rfl) (by decide) (fun K hK => ?_)
        obtain ⟨ti, hti, hz, hsz, hbz⟩ := info_parts info_s
        obtain ⟨v', w5, hr, hown, hg, _, hat⟩ := run_append_own_at (P := Try.prog) w4 w.heap.size 34 34 9 ti _ 1 16 Try.underlying34 hti hz hsz hbz rfl (by decide) vf i _ HO4.out ⟨N, 0, none⟩ 1 1 [.string Z] rfl (fun j u hu => by rw [Addr.add_mid, cell_of_row w4 N _ _ _ _ HN4.out]; simpa using hu) (by simp [Value.oneCell']) (by unfold maxLen; omega) (by omega) HB4.out.size
        refine value_ (by rfl) rfl (execOp_append rfl rfl rfl hr) ?_
        have HQ5 := Lib.hid ((hg.block q (lt_of HQ4.out) (fun e => HVQ.out e.symm)).trans HQ4.out)
        have HO5 := Lib.hid hown
        have HB5 := Lib.hid (HB4.out.grown hg HB4.out.size (fun k hk => (HO4.out.lt k hk).1))
        have HV5 : Hid (v'.ownBlock ≠ some q) := fun e => by
          rcases hat with h | h
          · exact HVQ.out (h ▸ e)
          · rw [h] at e; simp only [Option.some.injEq] at e; have := lt_of HQ4.out; omega
        obtain ⟨av, cv, rfl, _⟩ := row_form hown
        clear hr hown hg hat hti hz hsz hbz HQ4 HO4 HB4 HN4
        refine hK.out _ _ (show _ from ?_) (fun hHeld => ?_)
        · exact HQ5.out
        clear hK K
        refine norm_ (a' := ?_) ?_ ?_
        rotate_left
        · show Act.put _ (some 25) _ = _
          simp only [Act.put, List.setIfInBounds_toArray, List.set_cons_zero, List.set_cons_succ, i64_w, i32_w]
          rfl
        refine pure_ (i := 8) (N := some 26) (v := ?_) (a' := ?_) #[true, true, true, true, true, true, true, true, true, false, false] rfl rfl (by kernel_rfl) (fun _ _ _ h => h) (Or.inl ⟨by rfl, ?_⟩) ?_ ?_
        rotate_left
        · intro w'
          go_simp
          with_reducible rfl
        rotate_left
        · simp only [Act.put, List.setIfInBounds_toArray, List.set_cons_zero, List.set_cons_succ, i64_w, i32_w]
          rfl
        refine pure_ (i := 9) (N := some 27) (v := ?_) (a' := ?_) #[true, true, true, true, true, true, true, true, true, true, false] rfl rfl (by kernel_rfl) (fun _ _ _ h => h) (Or.inl ⟨by rfl, ?_⟩) ?_ ?_
        rotate_left
        · intro w'
          go_simp
          with_reducible rfl
        rotate_left
        · simp only [Act.put, List.setIfInBounds_toArray, List.set_cons_zero, List.set_cons_succ, i64_w, i32_w]
          rfl
        refine last_ (i := 10) (N := none) #[true, true, true, true, true, true, true, true, true, true, true] rfl rfl (by kernel_rfl) (by decide) (fun K hK => ?_)
        have s5 := blk4 HQ5.out
        obtain ⟨z0, f0, z1, f1, z2, f2, z3, f3⟩ := s5
        refine skip_ (w1 := ?_) (by rfl) rfl ?_ ?_
        rotate_left
        · go_simp
          rfl
        clear z0 f0 z1 f1 z2 f2 z3 f3
        refine hK.out _ _ ?_
        clear hK K
        refine done_ (by kernel_rfl) ?_
        have HO6 := Lib.hid ((Fr.setCell (F := fun k => k = q) w5 (p := ⟨q, 0, none⟩) rfl (.slice av (i + 1) cv)).row HO5.out (fun k hk e => HV5.out (e ▸ hk)))
        have HQ6 := Lib.hid (set_at HQ5.out 0 (.slice av (i + 1) cv))
        have HB6 := Lib.hid (HB5.out.setCell (p := ⟨q, 0, none⟩) HWQ.out (.slice av (i + 1) cv))
        go_wp2
        go_roundw
        case rel => exact ⟨i + 1, .slice av (i + 1) cv, by go_num, by omega, HQ6, Lib.hid (by rw [List.replicate_succ', List.flatMap_append]; exact HO6.out), HV5, HB6⟩
        case measure => simp [intOf]; omega
      · obtain rfl : i = 1 := by omega
        go_wp2
        go_ret
        refine ⟨⟨q, rfl, vf, .slice none 0 0, ?_⟩, HB.out⟩
        have hfr : (fresh n).firm = List.replicate _ (rep8 0 256) := rfl
        rw [hcl] at hfr
        exact {
          ok := fresh_ok n
          fq := ⟨HWQ.out, lt_of HQ.out⟩
          ff := fun k hk => ⟨HO.out.lt k hk, fun e => HVQ.out (e ▸ hk)⟩
          fl := fun k hk => by simp [Value.ownBlock] at hk
          hq := HQ.out
          hf := by rw [hfr, List.length_replicate]; exact row_base HO.out (Nat.zero_le _)
          hl := World.ownsRow_nil _ _ _ _
          lt := fun k hk => hk.2 }
  · by_cases h2 : 1024 < n
    · have hcl : clamp n = 1024 := by unfold clamp; omega
      go_enter Try.func23, Try.ntmps23
      go_wp2
      have HQ0 := Lib.hid (alloc_at w (.cells #[.slice none 0 0, .slice none 0 0, .int .i64 (-1), .bool false] 67))
      have HB0 := Lib.hid (show Below w.heap.size w (w.alloc (.cells #[.slice none 0 0, .slice none 0 0, .int .i64 (-1), .bool false] 67)) from (Below.refl _ _).alloc (Nat.le_refl _) _)
      obtain ⟨q, hq⟩ : ∃ q, w.heap.size = q := ⟨_, rfl⟩
      have HWQ := Lib.hid (show w.heap.size ≤ q by omega)
      conv at HQ0 => rw [hq]
      change Code.wp _ _ _ _ (w.alloc (.cells #[.slice none 0 0, .slice none 0 0, .int .i64 (-1), .bool false] 67))
      generalize w.alloc (.cells #[.slice none 0 0, .slice none 0 0, .int .i64 (-1), .bool false] 67) = w1 at HQ0 HB0 ⊢
      rw [show (⟨w.heap.size, 0, none⟩ : Addr) = ⟨q, 0, none⟩ by rw [hq]]
      clear hq
      go_loopw [5] (fun s5 wr => ∃ (i : Nat) (vf : Value), s5 = .int .i64 i ∧ i ≤ 1024 ∧ Hid (wr.heap[q]? = some (.cells #[vf, .slice none 0 0, .int .i64 (-1), .bool false] 67 (0, 0))) ∧ Hid (wr.ownsRow w.heap.size 9 1 vf i ((List.replicate i Z).flatMap scell)) ∧ Hid (vf.ownBlock ≠ some q) ∧ Hid (Below w.heap.size w wr)) (fun s5 _ => 1024 - (intOf s5).toNat)
      case atStart => exact ⟨0, .slice none 0 0, by simp, Nat.zero_le _, HQ0, Lib.hid (World.ownsRow_nil _ _ _ _), Lib.hid (by simp [Value.ownBlock]), HB0⟩
      case round =>
        clear HQ0 HB0
        obtain ⟨i, vf, rfl, hi, HQ, HO, HVQ, HB⟩ := hrel
        have hx := blk4 HQ.out
        by_cases hlt : i < 1024
        · have hlt2 : (i : Int) < 1024 := by omega
          go_wp2
          clear hx
          refine start_ (n := 11) (S := fun w' => w'.heap[q]? = some (.cells #[vf, .slice none 0 0, .int .i64 (-1), .bool false] 67 (0, 0))) (ds := [10]) #[false, false, false, false, false, false, false, false, false, false, false] (by kernel_rfl) rfl rfl (HQ.out) (fun hHeld => ?_)
          have HQ2 := Lib.hid (show wr.drew.heap[q]? = _ from HQ.out)
          have HO2 := Lib.hid ((Fr.drew (fun _ => False) wr).row HO.out (fun _ _ h => h))
          have HB2 := Lib.hid HB.out.drew
          generalize wr.drew = w2 at HQ2 HO2 HB2 hHeld ⊢
          clear HQ HO HB
          refine pure_ (i := 0) (N := some 18) (v := ?_) (a' := ?_) #[true, false, false, false, false, false, false, false, false, false, false] rfl rfl (by kernel_rfl) (fun _ _ _ h => h) (Or.inl ⟨by rfl, ?_⟩) ?_ ?_
          rotate_left
          · intro w'
            go_simp
            with_reducible rfl
          rotate_left
          · simp only [Act.put, List.setIfInBounds_toArray, List.set_cons_zero, List.set_cons_succ, i64_w, i32_w]
            rfl
          refine pure_ (i := 1) (N := some 19) (v := ?_) (a' := ?_) #[true, true, false, false, false, false, false, false, false, false, false] rfl rfl (by kernel_rfl) (fun _ _ _ h => h) (Or.inl ⟨by rfl, ?_⟩) ?_ ?_
          rotate_left
          · intro w'
            go_simp
            with_reducible rfl
          rotate_left
          · simp only [Act.put, List.setIfInBounds_toArray, List.set_cons_zero, List.set_cons_succ, i64_w, i32_w]
            rfl
          refine pure_ (i := 2) (N := some 20) (v := ?_) (a' := ?_) #[true, true, true, false, false, false, false, false, false, false, false] rfl rfl (by kernel_rfl) (fun _ _ _ h => h) (Or.inl ⟨by rfl, ?_⟩) ?_ ?_
          rotate_left
          · intro w'
            go_simp
            with_reducible rfl
          rotate_left
          · simp only [Act.put, List.setIfInBounds_toArray, List.set_cons_zero, List.set_cons_succ, i64_w, i32_w]
            rfl
          refine pure_ (i := 3) (N := some 21) (v := ?_) (a' := ?_) #[true, true, true, true, false, false, false, false, false, false, false] rfl rfl (by kernel_rfl) (fun _ _ _ h => h) (Or.inl ⟨by rfl, ?_⟩) ?_ ?_
          rotate_left
          · intro w'
            go_simp
            with_reducible rfl
          rotate_left
          · simp only [Act.put, List.setIfInBounds_toArray, List.set_cons_zero, List.set_cons_succ, i64_w, i32_w]
            rfl
          refine take_ (i := 4) (N := some 22) (v := ?_) (a' := ?_) #[true, true, true, true, true, false, false, false, false, false, false] rfl rfl (by kernel_rfl) (fun _ _ _ h => h) (Or.inl ⟨by rfl, ?_⟩) hHeld ?_ ?_
          rotate_left
          · intro w' hS
            have s5 := blk4 hS
            obtain ⟨z0, _, z1, _, z2, _, z3, _⟩ := s5
            go_simp
            with_reducible rfl
          rotate_left
          · simp only [Act.put, List.setIfInBounds_toArray, List.set_cons_zero, List.set_cons_succ, i64_w, i32_w]
            rfl
          refine one_ (i := 5) (N := some 23) #[true, true, true, true, true, true, false, false, false, false, false] rfl rfl (by kernel_rfl) (by decide) (fun K hK => ?_)
          refine goes_ Try.func38 (by kernel_rfl) rfl #[] (by rfl) rfl rfl (by (try simp only [List.map_toArray, List.map_cons, List.map_nil]); first | done | rfl) ?_
          refine (noughts_calls w2).mono ?_
          rintro e w3 ⟨rfl, hb⟩
          refine ⟨_, rfl, ?_⟩
          have HQ3 := Lib.hid (below_old HQ2.out hb)
          have HO3 := Lib.hid ((Fr.of_below (F := fun _ => False) hb).row HO2.out (fun _ _ h => h))
          have HB3 := Lib.hid (HB2.out.trans (hb.mono HB2.out.size))
          clear hb HQ2 HO2 HB2
          refine hK.out _ _ HQ3.out (fun hHeld => ?_)
          clear hK K
          refine norm_ (a' := ?_) ?_ ?_
          rotate_left
          · show Act.put _ (some 23) _ = _
            simp only [Act.put, List.setIfInBounds_toArray, List.set_cons_zero, List.set_cons_succ, i64_w, i32_w]
            rfl
          refine one_ (i := 6) (N := some 24) #[true, true, true, true, true, true, true, false, false, false, false] rfl rfl (by kernel_rfl) (by decide) (fun K hK => ?_)
          refine value_ (by rfl) rfl (execOp_buildSlice (ps := #[(0, .string Z)]) rfl rfl (run_bs w3 Z)) ?_
          have HQ4 := Lib.hid (alloc_old HQ3.out (.cells #[.string Z] 9))
          have HO4 := Lib.hid (HO3.out.alloc (.cells #[.string Z] 9))
          have HB4 := Lib.hid (HB3.out.alloc HB3.out.size (.cells #[.string Z] 9))
          have HN4 := Lib.hid (alloc_at w3 (.cells #[.string Z] 9))
          obtain ⟨N, hN⟩ : ∃ N, w3.heap.size = N := ⟨_, rfl⟩
          rw [hN] at HN4 ⊢
          clear hN
          generalize w3.alloc (.cells #[.string Z] 9) = w4 at HQ4 HO4 HB4 HN4 ⊢
          clear HQ3 HO3 HB3 hHeld
          refine hK.out _ _ HQ4.out (fun hHeld => ?_)
          clear hK K
          refine norm_ (a' := ?_) ?_ ?_
          rotate_left
          · show Act.put _ (some 24) _ = _
            simp only [Act.put, List.setIfInBounds_toArray, List.set_cons_zero, List.set_cons_succ, i64_w, i32_w]
            rfl
          refine one_ (i := 7) (N := some 25) #[true, true, true, true, true, true, true, true, false, false, false] rfl rfl (by kernel_rfl) (by decide) (fun K hK => ?_)
          obtain ⟨ti, hti, hz, hsz, hbz⟩ := info_parts info_s
          obtain ⟨v', w5, hr, hown, hg, _, hat⟩ := run_append_own_at (P := Try.prog) w4 w.heap.size 34 34 9 ti _ 1 16 Try.underlying34 hti hz hsz hbz rfl (by decide) vf i _ HO4.out ⟨N, 0, none⟩ 1 1 [.string Z] rfl (fun j u hu => by rw [Addr.add_mid, cell_of_row w4 N _ _ _ _ HN4.out]; simpa using hu) (by simp [Value.oneCell']) (by unfold maxLen; omega) (by omega) HB4.out.size
          refine value_ (by rfl) rfl (execOp_append rfl rfl rfl hr) ?_
          have HQ5 := Lib.hid ((hg.block q (lt_of HQ4.out) (fun e => HVQ.out e.symm)).trans HQ4.out)
          have HO5 := Lib.hid hown
          have HB5 := Lib.hid (HB4.out.grown hg HB4.out.size (fun k hk => (HO4.out.lt k hk).1))
          have HV5 : Hid (v'.ownBlock ≠ some q) := fun e => by
            rcases hat with h | h
            · exact HVQ.out (h ▸ e)
            · rw [h] at e; simp only [Option.some.injEq] at e; have := lt_of HQ4.out; omega
          obtain ⟨av, cv, rfl, _⟩ := row_form hown
          clear hr hown hg hat hti hz hsz hbz HQ4 HO4 HB4 HN4
          refine hK.out _ _ (show _ from ?_) (fun hHeld => ?_)
          · exact HQ5.out
          clear hK K
          refine norm_ (a' := ?_) ?_ ?_
          rotate_left
          · show Act.put _ (some 25) _ = _
            simp only [Act.put, List.setIfInBounds_toArray, List.set_cons_zero, List.set_cons_succ, i64_w, i32_w]
            rfl
          refine pure_ (i := 8) (N := some 26) (v := ?_) (a' := ?_) #[true, true, true, true, true, true, true, true, true, false, false] rfl rfl (by kernel_rfl) (fun _ _ _ h => h) (Or.inl ⟨by rfl, ?_⟩) ?_ ?_
          rotate_left
          · intro w'
            go_simp
            with_reducible rfl
          rotate_left
          · simp only [Act.put, List.setIfInBounds_toArray, List.set_cons_zero, List.set_cons_succ, i64_w, i32_w]
            rfl
          refine pure_ (i := 9) (N := some 27) (v := ?_) (a' := ?_) #[true, true, true, true, true, true, true, true, true, true, false] rfl rfl (by kernel_rfl) (fun _ _ _ h => h) (Or.inl ⟨by rfl, ?_⟩) ?_ ?_
          rotate_left
          · intro w'
            go_simp
            with_reducible rfl
          rotate_left
          · simp only [Act.put, List.setIfInBounds_toArray, List.set_cons_zero, List.set_cons_succ, i64_w, i32_w]
            rfl
          refine last_ (i := 10) (N := none) #[true, true, true, true, true, true, true, true, true, true, true] rfl rfl (by kernel_rfl) (by decide) (fun K hK => ?_)
          have s5 := blk4 HQ5.out
          obtain ⟨z0, f0, z1, f1, z2, f2, z3, f3⟩ := s5
          refine skip_ (w1 := ?_) (by rfl) rfl ?_ ?_
          rotate_left
          · go_simp
            rfl
          clear z0 f0 z1 f1 z2 f2 z3 f3
          refine hK.out _ _ ?_
          clear hK K
          refine done_ (by kernel_rfl) ?_
          have HO6 := Lib.hid ((Fr.setCell (F := fun k => k = q) w5 (p := ⟨q, 0, none⟩) rfl (.slice av (i + 1) cv)).row HO5.out (fun k hk e => HV5.out (e ▸ hk)))
          have HQ6 := Lib.hid (set_at HQ5.out 0 (.slice av (i + 1) cv))
          have HB6 := Lib.hid (HB5.out.setCell (p := ⟨q, 0, none⟩) HWQ.out (.slice av (i + 1) cv))
          go_wp2
          go_roundw
          case rel => exact ⟨i + 1, .slice av (i + 1) cv, by go_num, by omega, HQ6, Lib.hid (by rw [List.replicate_succ', List.flatMap_append]; exact HO6.out), HV5, HB6⟩
          case measure => simp [intOf]; omega
        · obtain rfl : i = 1024 := by omega
          go_wp2
          go_ret
          refine ⟨⟨q, rfl, vf, .slice none 0 0, ?_⟩, HB.out⟩
          have hfr : (fresh n).firm = List.replicate _ (rep8 0 256) := rfl
          rw [hcl] at hfr
          exact {
            ok := fresh_ok n
            fq := ⟨HWQ.out, lt_of HQ.out⟩
            ff := fun k hk => ⟨HO.out.lt k hk, fun e => HVQ.out (e ▸ hk)⟩
            fl := fun k hk => by simp [Value.ownBlock] at hk
            hq := HQ.out
            hf := by rw [hfr, List.length_replicate]; exact row_base HO.out (Nat.zero_le _)
            hl := World.ownsRow_nil _ _ _ _
            lt := fun k hk => hk.2 }
    · obtain ⟨m, rfl⟩ := Int.eq_ofNat_of_zero_le (show 0 ≤ n by omega)
      have hcl : clamp m = m := by unfold clamp; omega
      have hc : m ≤ 1024 := by omega
      go_enter Try.func23, Try.ntmps23
      go_wp2
      have HQ0 := Lib.hid (alloc_at w (.cells #[.slice none 0 0, .slice none 0 0, .int .i64 (-1), .bool false] 67))
      have HB0 := Lib.hid (show Below w.heap.size w (w.alloc (.cells #[.slice none 0 0, .slice none 0 0, .int .i64 (-1), .bool false] 67)) from (Below.refl _ _).alloc (Nat.le_refl _) _)
      obtain ⟨q, hq⟩ : ∃ q, w.heap.size = q := ⟨_, rfl⟩
      have HWQ := Lib.hid (show w.heap.size ≤ q by omega)
      conv at HQ0 => rw [hq]
      change Code.wp _ _ _ _ (w.alloc (.cells #[.slice none 0 0, .slice none 0 0, .int .i64 (-1), .bool false] 67))
      generalize w.alloc (.cells #[.slice none 0 0, .slice none 0 0, .int .i64 (-1), .bool false] 67) = w1 at HQ0 HB0 ⊢
      rw [show (⟨w.heap.size, 0, none⟩ : Addr) = ⟨q, 0, none⟩ by rw [hq]]
      clear hq
      go_loopw [5] (fun s5 wr => ∃ (i : Nat) (vf : Value), s5 = .int .i64 i ∧ i ≤ m ∧ Hid (wr.heap[q]? = some (.cells #[vf, .slice none 0 0, .int .i64 (-1), .bool false] 67 (0, 0))) ∧ Hid (wr.ownsRow w.heap.size 9 1 vf i ((List.replicate i Z).flatMap scell)) ∧ Hid (vf.ownBlock ≠ some q) ∧ Hid (Below w.heap.size w wr)) (fun s5 _ => m - (intOf s5).toNat)
      case atStart => exact ⟨0, .slice none 0 0, by simp, Nat.zero_le _, HQ0, Lib.hid (World.ownsRow_nil _ _ _ _), Lib.hid (by simp [Value.ownBlock]), HB0⟩
      case round =>
        clear HQ0 HB0
        obtain ⟨i, vf, rfl, hi, HQ, HO, HVQ, HB⟩ := hrel
        have hx := blk4 HQ.out
        by_cases hlt : i < m
        · have hlt2 : (i : Int) < (m : Int) := by omega
          go_wp2
          clear hx
          refine start_ (n := 11) (S := fun w' => w'.heap[q]? = some (.cells #[vf, .slice none 0 0, .int .i64 (-1), .bool false] 67 (0, 0))) (ds := [10]) #[false, false, false, false, false, false, false, false, false, false, false] (by kernel_rfl) rfl rfl (HQ.out) (fun hHeld => ?_)
          have HQ2 := Lib.hid (show wr.drew.heap[q]? = _ from HQ.out)
          have HO2 := Lib.hid ((Fr.drew (fun _ => False) wr).row HO.out (fun _ _ h => h))
          have HB2 := Lib.hid HB.out.drew
          generalize wr.drew = w2 at HQ2 HO2 HB2 hHeld ⊢
          clear HQ HO HB
          refine pure_ (i := 0) (N := some 18) (v := ?_) (a' := ?_) #[true, false, false, false, false, false, false, false, false, false, false] rfl rfl (by kernel_rfl) (fun _ _ _ h => h) (Or.inl ⟨by rfl, ?_⟩) ?_ ?_
          rotate_left
          · intro w'
            go_simp
            with_reducible rfl
          rotate_left
          · simp only [Act.put, List.setIfInBounds_toArray, List.set_cons_zero, List.set_cons_succ, i64_w, i32_w]
            rfl
          refine pure_ (i := 1) (N := some 19) (v := ?_) (a' := ?_) #[true, true, false, false, false, false, false, false, false, false, false] rfl rfl (by kernel_rfl) (fun _ _ _ h => h) (Or.inl ⟨by rfl, ?_⟩) ?_ ?_
          rotate_left
          · intro w'
            go_simp
            with_reducible rfl
          rotate_left
          · simp only [Act.put, List.setIfInBounds_toArray, List.set_cons_zero, List.set_cons_succ, i64_w, i32_w]
            rfl
          refine pure_ (i := 2) (N := some 20) (v := ?_) (a' := ?_) #[true, true, true, false, false, false, false, false, false, false, false] rfl rfl (by kernel_rfl) (fun _ _ _ h => h) (Or.inl ⟨by rfl, ?_⟩) ?_ ?_
          rotate_left
          · intro w'
            go_simp
            with_reducible rfl
          rotate_left
          · simp only [Act.put, List.setIfInBounds_toArray, List.set_cons_zero, List.set_cons_succ, i64_w, i32_w]
            rfl
          refine pure_ (i := 3) (N := some 21) (v := ?_) (a' := ?_) #[true, true, true, true, false, false, false, false, false, false, false] rfl rfl (by kernel_rfl) (fun _ _ _ h => h) (Or.inl ⟨by rfl, ?_⟩) ?_ ?_
          rotate_left
          · intro w'
            go_simp
            with_reducible rfl
          rotate_left
          · simp only [Act.put, List.setIfInBounds_toArray, List.set_cons_zero, List.set_cons_succ, i64_w, i32_w]
            rfl
          refine take_ (i := 4) (N := some 22) (v := ?_) (a' := ?_) #[true, true, true, true, true, false, false, false, false, false, false] rfl rfl (by kernel_rfl) (fun _ _ _ h => h) (Or.inl ⟨by rfl, ?_⟩) hHeld ?_ ?_
          rotate_left
          · intro w' hS
            have s5 := blk4 hS
            obtain ⟨z0, _, z1, _, z2, _, z3, _⟩ := s5
            go_simp
            with_reducible rfl
          rotate_left
          · simp only [Act.put, List.setIfInBounds_toArray, List.set_cons_zero, List.set_cons_succ, i64_w, i32_w]
            rfl
          refine one_ (i := 5) (N := some 23) #[true, true, true, true, true, true, false, false, false, false, false] rfl rfl (by kernel_rfl) (by decide) (fun K hK => ?_)
          refine goes_ Try.func38 (by kernel_rfl) rfl #[] (by rfl) rfl rfl (by (try simp only [List.map_toArray, List.map_cons, List.map_nil]); first | done | rfl) ?_
          refine (noughts_calls w2).mono ?_
          rintro e w3 ⟨rfl, hb⟩
          refine ⟨_, rfl, ?_⟩
          have HQ3 := Lib.hid (below_old HQ2.out hb)
          have HO3 := Lib.hid ((Fr.of_below (F := fun _ => False) hb).row HO2.out (fun _ _ h => h))
          have HB3 := Lib.hid (HB2.out.trans (hb.mono HB2.out.size))
          clear hb HQ2 HO2 HB2
          refine hK.out _ _ HQ3.out (fun hHeld => ?_)
          clear hK K
          refine norm_ (a' := ?_) ?_ ?_
          rotate_left
          · show Act.put _ (some 23) _ = _
            simp only [Act.put, List.setIfInBounds_toArray, List.set_cons_zero, List.set_cons_succ, i64_w, i32_w]
            rfl
          refine one_ (i := 6) (N := some 24) #[true, true, true, true, true, true, true, false, false, false, false] rfl rfl (by kernel_rfl) (by decide) (fun K hK => ?_)
          refine value_ (by rfl) rfl (execOp_buildSlice (ps := #[(0, .string Z)]) rfl rfl (run_bs w3 Z)) ?_
          have HQ4 := Lib.hid (alloc_old HQ3.out (.cells #[.string Z] 9))
          have HO4 := Lib.hid (HO3.out.alloc (.cells #[.string Z] 9))
          have HB4 := Lib.hid (HB3.out.alloc HB3.out.size (.cells #[.string Z] 9))
          have HN4 := Lib.hid (alloc_at w3 (.cells #[.string Z] 9))
          obtain ⟨N, hN⟩ : ∃ N, w3.heap.size = N := ⟨_, rfl⟩
          rw [hN] at HN4 ⊢
          clear hN
          generalize w3.alloc (.cells #[.string Z] 9) = w4 at HQ4 HO4 HB4 HN4 ⊢
          clear HQ3 HO3 HB3 hHeld
          refine hK.out _ _ HQ4.out (fun hHeld => ?_)
          clear hK K
          refine norm_ (a' := ?_) ?_ ?_
          rotate_left
          · show Act.put _ (some 24) _ = _
            simp only [Act.put, List.setIfInBounds_toArray, List.set_cons_zero, List.set_cons_succ, i64_w, i32_w]
            rfl
          refine one_ (i := 7) (N := some 25) #[true, true, true, true, true, true, true, true, false, false, false] rfl rfl (by kernel_rfl) (by decide) (fun K hK => ?_)
          obtain ⟨ti, hti, hz, hsz, hbz⟩ := info_parts info_s
          obtain ⟨v', w5, hr, hown, hg, _, hat⟩ := run_append_own_at (P := Try.prog) w4 w.heap.size 34 34 9 ti _ 1 16 Try.underlying34 hti hz hsz hbz rfl (by decide) vf i _ HO4.out ⟨N, 0, none⟩ 1 1 [.string Z] rfl (fun j u hu => by rw [Addr.add_mid, cell_of_row w4 N _ _ _ _ HN4.out]; simpa using hu) (by simp [Value.oneCell']) (by unfold maxLen; omega) (by omega) HB4.out.size
          refine value_ (by rfl) rfl (execOp_append rfl rfl rfl hr) ?_
          have HQ5 := Lib.hid ((hg.block q (lt_of HQ4.out) (fun e => HVQ.out e.symm)).trans HQ4.out)
          have HO5 := Lib.hid hown
          have HB5 := Lib.hid (HB4.out.grown hg HB4.out.size (fun k hk => (HO4.out.lt k hk).1))
          have HV5 : Hid (v'.ownBlock ≠ some q) := fun e => by
            rcases hat with h | h
            · exact HVQ.out (h ▸ e)
            · rw [h] at e; simp only [Option.some.injEq] at e; have := lt_of HQ4.out; omega
          obtain ⟨av, cv, rfl, _⟩ := row_form hown
          clear hr hown hg hat hti hz hsz hbz HQ4 HO4 HB4 HN4
          refine hK.out _ _ (show _ from ?_) (fun hHeld => ?_)
          · exact HQ5.out
          clear hK K
          refine norm_ (a' := ?_) ?_ ?_
          rotate_left
          · show Act.put _ (some 25) _ = _
            simp only [Act.put, List.setIfInBounds_toArray, List.set_cons_zero, List.set_cons_succ, i64_w, i32_w]
            rfl
          refine pure_ (i := 8) (N := some 26) (v := ?_) (a' := ?_) #[true, true, true, true, true, true, true, true, true, false, false] rfl rfl (by kernel_rfl) (fun _ _ _ h => h) (Or.inl ⟨by rfl, ?_⟩) ?_ ?_
          rotate_left
          · intro w'
            go_simp
            with_reducible rfl
          rotate_left
          · simp only [Act.put, List.setIfInBounds_toArray, List.set_cons_zero, List.set_cons_succ, i64_w, i32_w]
            rfl
          refine pure_ (i := 9) (N := some 27) (v := ?_) (a' := ?_) #[true, true, true, true, true, true, true, true, true, true, false] rfl rfl (by kernel_rfl) (fun _ _ _ h => h) (Or.inl ⟨by rfl, ?_⟩) ?_ ?_
          rotate_left
          · intro w'
            go_simp
            with_reducible rfl
          rotate_left
          · simp only [Act.put, List.setIfInBounds_toArray, List.set_cons_zero, List.set_cons_succ, i64_w, i32_w]
            rfl
          refine last_ (i := 10) (N := none) #[true, true, true, true, true, true, true, true, true, true, true] rfl rfl (by kernel_rfl) (by decide) (fun K hK => ?_)
          have s5 := blk4 HQ5.out
          obtain ⟨z0, f0, z1, f1, z2, f2, z3, f3⟩ := s5
          refine skip_ (w1 := ?_) (by rfl) rfl ?_ ?_
          rotate_left
          · go_simp
            rfl
          clear z0 f0 z1 f1 z2 f2 z3 f3
          refine hK.out _ _ ?_
          clear hK K
          refine done_ (by kernel_rfl) ?_
          have HO6 := Lib.hid ((Fr.setCell (F := fun k => k = q) w5 (p := ⟨q, 0, none⟩) rfl (.slice av (i + 1) cv)).row HO5.out (fun k hk e => HV5.out (e ▸ hk)))
          have HQ6 := Lib.hid (set_at HQ5.out 0 (.slice av (i + 1) cv))
          have HB6 := Lib.hid (HB5.out.setCell (p := ⟨q, 0, none⟩) HWQ.out (.slice av (i + 1) cv))
          go_wp2
          go_roundw
          case rel => exact ⟨i + 1, .slice av (i + 1) cv, by go_num, by omega, HQ6, Lib.hid (by rw [List.replicate_succ', List.flatMap_append]; exact HO6.out), HV5, HB6⟩
          case measure => simp [intOf]; omega
        · obtain rfl : i = m := by omega
          go_wp2
          go_ret
          refine ⟨⟨q, rfl, vf, .slice none 0 0, ?_⟩, HB.out⟩
          have hfr : (fresh (i : Int)).firm = List.replicate _ (rep8 0 256) := rfl
          rw [hcl] at hfr
          exact {
            ok := fresh_ok (i : Int)
            fq := ⟨HWQ.out, lt_of HQ.out⟩
            ff := fun k hk => ⟨HO.out.lt k hk, fun e => HVQ.out (e ▸ hk)⟩
            fl := fun k hk => by simp [Value.ownBlock] at hk
            hq := HQ.out
            hf := by rw [hfr, List.length_replicate]; exact row_base HO.out (Nat.zero_le _)
            hl := World.ownsRow_nil _ _ _ _
            lt := fun k hk => hk.2 }
theorem RDev.ok (h : RDev F w q d) : d.OK := by obtain ⟨_, _, h⟩ := h; exact h.ok
theorem RDev.lt (h : RDev F w q d) : ∀ k, F k → k < w.heap.size := by obtain ⟨_, _, h⟩ := h; exact h.lt
theorem RDev.keep {G : Nat → Prop} (h : RDev F w q d) (hF : Fr G w w') (hG : ∀ k, F k → ¬ G k) : RDev F w' q d := by obtain ⟨_, _, h⟩ := h; exact ⟨_, _, h.keep hF hG⟩
theorem RDev.below (h : RDev F w q d) (hb : Below w.heap.size w w') : RDev F w' q d := by obtain ⟨_, _, h⟩ := h; exact ⟨_, _, h.below hb⟩
theorem rup_of (hl : ∀ k, F k → k < w.heap.size) (hF : Fr F w w') (h : RAt F w' q vf vl d) : RDev (Up F w w') w' q d :=
  ⟨_, _, h.mono (fun _ => .inl) (fun k hk => by rcases hk with hk | hk; exact h.lt k hk; exact hk.2)⟩
theorem rlight_any (h : RDev F w q d) (n : Int) (hn0 : -9223372036854775808 ≤ n) (hn : n ≤ 9223372036854775807) : Calls Try.prog 41 #[.pointer (some ⟨q, 0, none⟩), .int .i64 n] w fun e w' => e = .returned (.tuple #[]) ∧ RDev (Up F w w') w' q (d.light n) ∧ Fr F w w' := by
  obtain ⟨_, _, h⟩ := h
  exact (rlight_calls h n hn0 hn).mono fun e w' ⟨he, h1, h2⟩ => ⟨he, rup_of h.lt h2 h1, h2⟩
theorem rcrash_any (h : RDev F w q d) (keep : Int) (hk0 : 0 ≤ keep) (hk1 : keep < 18446744073709551616) (hl : d.late.length ≤ 1000000) : Calls Try.prog 42 #[.pointer (some ⟨q, 0, none⟩), .int .u64 keep] w fun e w' => e = .returned (.tuple #[]) ∧ RDev (Up F w w') w' q (d.crash keep) ∧ Fr F w w' := by
  obtain ⟨_, _, h⟩ := h
  exact (rcrash_calls h keep hk0 hk1 hl).mono fun e w' ⟨he, ⟨_, _, h1⟩, h2⟩ => ⟨he, rup_of h.lt h2 h1, h2⟩
theorem rbarrier_any (h : RDev F w q d) (hl : d.late.length ≤ 1000000) : Calls Try.prog 55 #[.pointer (some ⟨q, 0, none⟩)] w fun e w' => e = .returned (.int .i64 d.barrier.1) ∧ RDev (Up F w w') w' q d.barrier.2 ∧ Fr F w w' := by
  obtain ⟨_, _, h⟩ := h
  by_cases hb : d.burns = true
  · rw [show d.barrier = (5, d.die) by unfold Dv.barrier; rw [if_pos hb]]
    exact (rbarrier_dies h hb).mono fun e w' ⟨he, h1, h2⟩ => ⟨he, rup_of h.lt h2 h1, h2⟩
  · rw [show d.barrier = (0, { d with firm := d.now, late := [], fuse := less d.fuse }) by unfold Dv.barrier; rw [if_neg hb]]
    exact (rbarrier_goes h (by simpa using hb) hl).mono fun e w' ⟨he, ⟨_, _, h1⟩, h2⟩ => ⟨he, rup_of h.lt h2 h1, h2⟩
theorem rwrite_any (h : RDev F w q d) (i : Int) (b : ByteArray) (hl : d.late.length ≤ 1000000) : Calls Try.prog 44 #[.pointer (some ⟨q, 0, none⟩), .int .i64 i, .string b] w fun e w' => e = .returned (.int .i64 (d.write i b).1) ∧ RDev (Up F w w') w' q (d.write i b).2 ∧ Fr F w w' := by
  obtain ⟨_, _, h⟩ := h
  by_cases hc : (d.bad i || b.size != 256) = true
  · rw [show d.write i b = (1, d) by unfold Dv.write; rw [if_pos hc]]
    refine (rwrite_bad h i b hc).mono fun e w' ⟨he, h1⟩ => ⟨he, ?_⟩
    subst h1
    exact ⟨rup_of h.lt (Fr.refl F w) h, Fr.refl F w⟩
  · have hc' := hc
    simp only [Bool.not_eq_true, Bool.or_eq_false_iff, bne_eq_false_iff_eq] at hc'
    obtain ⟨h0, h1⟩ := Dv.bad_false hc'.1
    obtain ⟨k, rfl⟩ := Int.eq_ofNat_of_zero_le h0
    by_cases hb : d.burns = true
    · rw [show d.write k b = (5, d.die) by unfold Dv.write; rw [if_neg hc, if_pos hb]]
      exact (rwrite_dies h k (by omega) b hc'.2 hb).mono fun e w' ⟨he, h1, h2⟩ => ⟨he, rup_of h.lt h2 h1, h2⟩
    · rw [show d.write k b = (0, { d with late := d.late ++ [(k, b)], fuse := less d.fuse }) by unfold Dv.write; rw [if_neg hc, if_neg hb, Int.toNat_natCast]]
      exact (rwrite_goes h k (by omega) b hc'.2 (by simpa using hb) hl).mono fun e w' ⟨he, ⟨v, h1⟩, h2⟩ => ⟨he, ⟨_, _, h1⟩, h2⟩
end Go.Proofs.Ytmdojgkgohmghaa.Dev
