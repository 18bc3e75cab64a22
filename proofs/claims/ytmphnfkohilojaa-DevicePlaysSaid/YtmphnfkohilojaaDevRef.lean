/- Layer device: the document's device in memory: a struct of four cells, a row of strings, a row of writes. -/
import Derived.Test.YtmphnfkohilojaaDevMay
namespace Go.Proofs.Ytmphnfkohilojaa.Dev
open Go.RowKit Go.Own Go.DevL Go.Blk Go.Proofs.YtmphnfkohilojaaW.PrintLast Go.Proofs.YtmphnfkohilojaaW.PrintWords
set_option linter.unusedVariables false
set_option linter.unusedSimpArgs false
def lcells (x : Nat × ByteArray) : List Value := [.int .i64 (x.1 : Int), .string x.2]
def scell (s : ByteArray) : List Value := [.string s]
/-- The document's device d lies at block q, all of it in blocks of F. -/
structure RAt (F : Nat → Prop) (w : World) (q : Nat) (vf vl : Value) (d : Dv) : Prop where
  ok : d.OK
  fq : F q
  ff : ∀ k, vf.ownBlock = some k → F k ∧ k ≠ q
  fl : ∀ k, vl.ownBlock = some k → F k ∧ k ≠ q ∧ vf.ownBlock ≠ some k
  hq : w.heap[q]? = some (.cells #[vf, vl, .int .i64 d.fuse, .bool d.dead] 55 (0, 0))
  hf : w.ownsRow 0 9 1 vf d.firm.length (d.firm.flatMap scell)
  hl : w.ownsRow 0 72 2 vl d.late.length (d.late.flatMap lcells)
  lt : ∀ k, F k → k < w.heap.size
variable {F : Nat → Prop} {w w' : World} {q : Nat} {vf vl : Value} {d : Dv}
theorem RAt.keep {G : Nat → Prop} (h : RAt F w q vf vl d) (hF : Fr G w w') (hG : ∀ k, F k → ¬ G k) : RAt F w' q vf vl d :=
  { h with hq := hF.at h.hq (hG _ h.fq), hf := hF.row h.hf (fun k hk => hG _ (h.ff k hk).1), hl := hF.row h.hl (fun k hk => hG _ (h.fl k hk).1), lt := fun k hk => Nat.lt_of_lt_of_le (h.lt k hk) hF.size }
theorem RAt.below (h : RAt F w q vf vl d) (hb : Below w.heap.size w w') : RAt F w' q vf vl d := h.keep (Fr.of_below (F := fun _ => False) hb) (fun _ _ => id)
theorem RAt.mono {G : Nat → Prop} (h : RAt F w q vf vl d) (hG : ∀ k, F k → G k) (hlt : ∀ k, G k → k < w.heap.size) : RAt G w q vf vl d :=
  { h with fq := hG _ h.fq, ff := fun k hk => ⟨hG _ (h.ff k hk).1, (h.ff k hk).2⟩, fl := fun k hk => ⟨hG _ (h.fl k hk).1, (h.fl k hk).2⟩, lt := hlt }
/-- A cell of the struct is stored. -/
theorem RAt.set (h : RAt F w q vf vl d) (i : Nat) (u : Value) {vl' : Value} {d' : Dv} (hok : d'.OK) (hfl : ∀ k, vl'.ownBlock = some k → F k ∧ k ≠ q ∧ vf.ownBlock ≠ some k)
    (hc : (#[vf, vl, .int .i64 d.fuse, .bool d.dead] : Array Value).setIfInBounds i u = #[vf, vl', .int .i64 d'.fuse, .bool d'.dead])
    (hf : d'.firm = d.firm) (hl : w.ownsRow 0 72 2 vl' d'.late.length (d'.late.flatMap lcells)) : RAt F (w.setCell ⟨q, i, none⟩ u) q vf vl' d' where
  ok := hok
  fq := h.fq
  ff := h.ff
  fl := hfl
  hq := by rw [← hc]; exact set_at h.hq i u
  hf := by rw [hf]; exact row_kept h.hf fun k hk => Below.heap_setCell w ⟨q, i, none⟩ u k (h.ff k hk).2
  hl := row_kept hl fun k hk => Below.heap_setCell w ⟨q, i, none⟩ u k (hfl k hk).2.1
  lt := fun k hk => by rw [World.setCell]; simpa using h.lt k hk
theorem RAt.set_fuse (h : RAt F w q vf vl d) (f : Int) (h1 : -1 ≤ f) (h2 : f ≤ 9223372036854775807) : RAt F (w.setCell ⟨q, 2, none⟩ (.int .i64 f)) q vf vl { d with fuse := f } :=
  h.set 2 _ ⟨h.ok.n1, h.ok.n2, h.ok.sz, h.ok.la, h1, h2⟩ h.fl rfl rfl h.hl
theorem RAt.set_dead (h : RAt F w q vf vl d) (b : Bool) : RAt F (w.setCell ⟨q, 3, none⟩ (.bool b)) q vf vl { d with dead := b } :=
  h.set 3 _ ⟨h.ok.n1, h.ok.n2, h.ok.sz, h.ok.la, h.ok.f1, h.ok.f2⟩ h.fl rfl rfl h.hl
theorem RAt.frq (h : RAt F w q vf vl d) (i : Nat) (u : Value) : Fr F w (w.setCell ⟨q, i, none⟩ u) := Fr.setCell w h.fq u
theorem RAt.flen (h : RAt F w q vf vl d) : ∀ s ∈ d.firm, (scell s).length = 1 := fun _ _ => rfl
theorem RAt.llen (h : RAt F w q vf vl d) : ∀ x ∈ d.late, (lcells x).length = 2 := fun _ _ => rfl
theorem cell_late {w : World} {v : Value} {l : List (Nat × ByteArray)} (h : w.ownsRow 0 72 2 v l.length (l.flatMap lcells)) (i : Nat) (hi : i < l.length) :
    ∃ g cap, v = .slice (some ⟨g, 0, none⟩) l.length cap ∧ w.cell? ⟨g, i * 2, none⟩ = some (.int .i64 (l[i].1 : Int)) ∧ w.cell? ⟨g, i * 2 + 1, none⟩ = some (.string l[i].2) := by
  obtain ⟨g, cap, hv, _, hr⟩ := row_range h (fun _ _ => rfl) i hi
  exact ⟨g, cap, hv, hr 0 _ rfl, hr 1 _ rfl⟩
theorem cell_firm {w : World} {v : Value} {l : List ByteArray} (h : w.ownsRow 0 9 1 v l.length (l.flatMap scell)) (i : Nat) (hi : i < l.length) :
    ∃ g cap, v = .slice (some ⟨g, 0, none⟩) l.length cap ∧ w.cell? ⟨g, i, none⟩ = some (.string l[i]) ∧ w.frozen? ⟨g, i, none⟩ = false := by
  obtain ⟨g, cap, hv, _, hr⟩ := row_range h (fun _ _ => rfl) i hi
  refine ⟨g, cap, hv, by have := hr 0 _ rfl; simpa using this, ?_⟩
  rcases h.2 with ⟨rfl, _⟩ | ⟨g', cap', cur, e, _, hg, _⟩
  · simp at hv
  · rw [e] at hv
    simp only [Value.slice.injEq, Option.some.injEq, Addr.mk.injEq, and_true, true_and] at hv
    obtain ⟨rfl, _⟩ := hv
    simp [World.frozen?, hg]
/-! ### burn, Light -/
set_option maxHeartbeats 400000 in
theorem rburn_yes (h : RAt F w q vf vl d) (hb : d.burns = true) : Calls Try.prog 33 #[.pointer (some ⟨q, 0, none⟩)] w fun e w' => e = .returned (.bool false) ∧ RAt F w' q vf vl d.die ∧ Fr F w w' := by
  have hx := blk4 h.hq
  have H := Lib.hid h
  clear h
  have HB := Lib.hid hb
  clear hb
  go_enter Try.func33, Try.ntmps33
  go_wp2
  · go_ret
    exact ⟨rfl, H.out.set_dead true, H.out.frq _ _⟩
  · go_ret
    exact ⟨rfl, H.out.set_dead true, H.out.frq _ _⟩
  all_goals
    exfalso
    have := HB.out
    simp_all [Dv.burns]
set_option maxHeartbeats 400000 in
theorem rburn_no (h : RAt F w q vf vl d) (hb : d.burns = false) : Calls Try.prog 33 #[.pointer (some ⟨q, 0, none⟩)] w fun e w' => e = .returned (.bool true) ∧ RAt F w' q vf vl { d with fuse := less d.fuse } ∧ Fr F w w' := by
  have hx := blk4 h.hq
  have H := Lib.hid h
  clear h
  have HB := Lib.hid hb
  have hu := H.out.ok.f2
  clear hb
  go_enter Try.func33, Try.ntmps33
  go_wp2
  · exfalso
    have := HB.out
    simp_all [Dv.burns]
  · exfalso
    have := HB.out
    simp_all [Dv.burns]
  · go_ret
    have hlt : 0 < d.fuse := by assumption
    refine ⟨rfl, ?_, H.out.frq _ _⟩
    have h1 := H.out.set_fuse (d.fuse - 1) (by omega) (by omega)
    rw [show less d.fuse = d.fuse - 1 by unfold less; rw [if_pos hlt]]
    exact h1
  · go_ret
    have hlt : d.fuse ≤ 0 := by assumption
    refine ⟨rfl, ?_, Fr.refl _ _⟩
    rw [show less d.fuse = d.fuse by unfold less; rw [if_neg (by omega)]]
    exact H.out
set_option maxHeartbeats 400000 in
theorem rlight_calls (h : RAt F w q vf vl d) (n : Int) (hn0 : -9223372036854775808 ≤ n) (hn : n ≤ 9223372036854775807) : Calls Try.prog 30 #[.pointer (some ⟨q, 0, none⟩), .int .i64 n] w fun e w' => e = .returned (.tuple #[]) ∧ RAt F w' q vf vl (d.light n) ∧ Fr F w w' := by
  have hx := blk4 h.hq
  have H := Lib.hid h
  clear h
  by_cases hneg : n < 0
  · have e : d.light n = { d with fuse := -1 } := by
      unfold Dv.light
      split
      · rfl
      · congr 1 <;> omega
    rw [e]
    have h2 : Hid (RAt F ((w.setCell ⟨q, 2, none⟩ (.int .i64 n)).setCell ⟨q, 2, none⟩ (.int .i64 (-1))) q vf vl { d with fuse := -1 }) := by
      have hh := H.out
      exact { ok := ⟨hh.ok.n1, hh.ok.n2, hh.ok.sz, hh.ok.la, by simp, by simp⟩, fq := hh.fq, ff := hh.ff, fl := hh.fl, hq := set_at (set_at hh.hq 2 (.int .i64 n)) 2 (.int .i64 (-1)), hf := row_kept hh.hf fun k hk => by rw [Below.heap_setCell _ _ _ _ (hh.ff k hk).2, Below.heap_setCell _ _ _ _ (hh.ff k hk).2], hl := row_kept hh.hl fun k hk => by rw [Below.heap_setCell _ _ _ _ (hh.fl k hk).2.1, Below.heap_setCell _ _ _ _ (hh.fl k hk).2.1], lt := fun k hk => by simp only [World.setCell, Array.size_modify]; exact hh.lt k hk }
    have hy := blk4 (set_at H.out.hq 2 (.int .i64 n))
    go_enter Try.func30, Try.ntmps30
    go_wp2
    go_end0
    refine ⟨rfl, ?_, (H.out.frq _ _).trans (Fr.setCell _ H.out.fq _) (fun _ _ h => h)⟩
    exact h2.out
  · have e : d.light n = { d with fuse := n } := by unfold Dv.light; rw [if_neg (by omega)]
    rw [e]
    go_enter Try.func30, Try.ntmps30
    go_wp2
    go_end0
    exact ⟨rfl, H.out.set_fuse n (by omega) hn, H.out.frq _ _⟩
/-! ### Now, Read -/
def seen (d : Dv) (i k : Nat) : ByteArray := ((d.late.take k).foldl put d.firm).getD i ByteArray.empty
theorem seen_step (d : Dv) (hok : d.OK) (i k : Nat) (hi : i < d.firm.length) (hk : k < d.late.length) : seen d i (k + 1) = if d.late[k].1 = i then d.late[k].2 else seen d i k := by
  unfold seen
  rw [List.take_succ_eq_append_getElem hk, List.foldl_append]
  show (put ((d.late.take k).foldl put d.firm) d.late[k]).getD i ByteArray.empty = _
  unfold put
  have hl : ((d.late.take k).foldl (fun (l : List ByteArray) (x : Nat × ByteArray) => l.set x.1 x.2) d.firm).length = d.firm.length := length_puts _ _
  by_cases e : d.late[k].1 = i
  · rw [if_pos e, List.getD, e, List.getElem?_set_self (by rw [hl]; exact hi)]; rfl
  · rw [if_neg e, List.getD, List.getD, List.getElem?_set_ne e]
set_option maxHeartbeats 2000000 in
theorem rnow_calls (h : RAt F w q vf vl d) (i : Nat) (hi : i < d.firm.length) (hl : d.late.length ≤ 1000000) : Calls Try.prog 32 #[.pointer (some ⟨q, 0, none⟩), .int .i64 i] w fun e w' => e = .returned (.string (d.now.getD i ByteArray.empty)) ∧ w = w' := by
  have hx := blk4 h.hq
  have H := Lib.hid h
  have hn2 := h.ok.n2
  obtain ⟨gf, cf, rfl, hcf, _⟩ := cell_firm h.hf i hi
  obtain ⟨av, cv, rfl, _⟩ := row_form h.hl
  clear h
  have HN := Lib.hid (show d.now.getD i ByteArray.empty = seen d i d.late.length by unfold seen Dv.now; rw [List.take_length])
  rw [HN.out]
  have H0 := Lib.hid (show seen d i 0 = d.firm[i] by unfold seen; simp [List.getD, List.getElem?_eq_getElem hi])
  go_enter Try.func32, Try.ntmps32
  go_wp2
  go_loopw [5, 6] (fun s5 s6 wr => ∃ k : Nat, s6 = .int .i64 k ∧ k ≤ d.late.length ∧ s5 = .string (seen d i k) ∧ Hid (wr = w)) (fun _ s6 _ => d.late.length - (intOf s6).toNat)
  case atStart => exact ⟨0, by simp, Nat.zero_le _, by rw [H0.out], Lib.hid rfl⟩
  case round =>
    obtain ⟨k, rfl, hk, rfl, hw⟩ := hrel
    obtain rfl := hw.out
    clear hw
    by_cases hlt : k < d.late.length
    · obtain ⟨gl, cl, e, c0, c1⟩ := cell_late H.out.hl k hlt
      simp only [Value.slice.injEq, true_and] at e
      obtain ⟨rfl, rfl⟩ := e
      have HSS := Lib.hid (seen_step d H.out.ok i k hi hlt)
      obtain ⟨x, hx2⟩ : ∃ x, d.late[k] = x := ⟨_, rfl⟩
      rw [hx2] at c0 c1 HSS
      clear hx2
      by_cases he : x.1 = i
      · rw [he] at c0
        have HE := Lib.hid he
        clear he
        go_wp2
        go_roundw
        case rel => exact ⟨k + 1, by go_num, by omega, by rw [HSS.out, if_pos HE.out], by first | exact Lib.hid rfl | exact Lib.hid trivial⟩
        case measure => simp [intOf]; omega
      · have n0 : (((x.1 : Nat) : Int) == (i : Int)) = false := by rw [beq_eq_false_iff_ne]; omega
        have n1 : (x.1 == i) = false := by rw [beq_eq_false_iff_ne]; exact he
        have HE := Lib.hid he
        clear he
        go_wp2
        go_roundw
        case rel => exact ⟨k + 1, by go_num, by omega, by rw [HSS.out, if_neg HE.out], by first | exact Lib.hid rfl | exact Lib.hid trivial⟩
        case measure => simp [intOf]; omega
    · obtain rfl : k = d.late.length := by omega
      go_wp2
      go_ret
      exact ⟨rfl, rfl⟩
set_option maxHeartbeats 1000000 in
theorem rread_calls (h : RAt F w q vf vl d) (i : Int) (hl : d.late.length ≤ 1000000) : Calls Try.prog 24 #[.pointer (some ⟨q, 0, none⟩), .int .i64 i] w fun e w' => e = readE d i ∧ w = w' := by
  have hx := blk4 h.hq
  have H := Lib.hid h
  have hn2 := h.ok.n2
  obtain ⟨af, cf, rfl, _⟩ := row_form h.hf
  clear h
  by_cases hb : d.bad i = true
  · have hE : readE d i = .returned (.tuple #[.string ByteArray.empty, .int .i64 1]) := by unfold readE Dv.read; rw [if_pos hb]
    rw [hE]
    have HB := Lib.hid hb
    clear hb hE
    by_cases h0 : i < 0
    · go_enter Try.func24, Try.ntmps24
      go_wp2
      go_ret2
      exact ⟨rfl, rfl⟩
    · have h1 : (d.firm.length : Int) ≤ i := by
        have := HB.out
        simp only [Dv.bad, Bool.or_eq_true, decide_eq_true_eq] at this
        omega
      go_enter Try.func24, Try.ntmps24
      go_wp2
      go_ret2
      exact ⟨rfl, rfl⟩
  · have hb' : d.bad i = false := by simpa using hb
    obtain ⟨h0, h1⟩ := Dv.bad_false hb'
    obtain ⟨k, rfl⟩ := Int.eq_ofNat_of_zero_le h0
    have hk : k < d.firm.length := by omega
    by_cases hdd : d.dead = true
    · have hE : readE d k = .returned (.tuple #[.string ByteArray.empty, .int .i64 5]) := by unfold readE Dv.read; rw [if_neg hb, if_pos hdd]
      rw [hE]
      clear hb hE hb'
      go_enter Try.func24, Try.ntmps24
      go_wp2
      go_ret2
      exact ⟨rfl, rfl⟩
    · have hE : readE d k = .returned (.tuple #[.string (d.now.getD k ByteArray.empty), .int .i64 0]) := by unfold readE Dv.read; rw [if_neg hb, if_neg hdd]; rfl
      rw [hE]
      have hd : d.dead = false := by simpa using hdd
      have HNW := Lib.hid (rnow_calls H.out k hk hl)
      clear hb hE hb' hdd
      go_enter Try.func24, Try.ntmps24
      go_wp2_with (go_at_call 32; refine HNW.out.mono ?_; rintro e w1 ⟨rfl, rfl⟩)
      go_ret2
      exact ⟨rfl, rfl⟩
end Go.Proofs.Ytmphnfkohilojaa.Dev
