/- Layer wal: Commit. -/
import Derived.Test.YtmdojgkgohmghaaWalM1
import Derived.Test.YtmdojgkgohmghaaWalPlan
import Derived.Test.YtmdojgkgohmghaaGoto
namespace Go.Proofs.Ytmdojgkgohmghaa.Wal
open Go.RowKit Go.Own Go.Blk Go.DevL Go.XdrL Go.WalL Go.OpsL Go.Maps Go.Proofs.Ytmdojgkgohmghaa.P04 Go.Proofs.Ytmdojgkgohmghaa.Xdr Go.Proofs.YtmdojgkgohmghaaW.PrintLast Go.Proofs.YtmdojgkgohmghaaW.PrintWords
open Go.Proofs.Ytmdojgkgohmghaa.Dev hiding stop_here execOp_build execOp_alloc execOp_store execOp_load execOp_buildSlice execOp_makeSlice execOp_box execOp_copy execOp_append wpList_val wpList_none Up
set_option linter.unusedVariables false
set_option linter.unusedSimpArgs false
set_option maxRecDepth 100000
variable {F : Nat → Prop} {w w' wr wr' : World} {p q : Nat} {d d' d'' : Dv} {last c : Nat} {dead : Bool} {v v' : Value} {l : List ByteArray} {b : List (Int × ByteArray)} {e : Int}
theorem run_two32 (w : World) (a b : Int) : (Instr.buildSlice 101 2 #[(0, .int .u32 a), (1, .int .u32 b)]).run Try.prog w = .ok (.slice (some ⟨w.heap.size, 0, none⟩) 2 2) (w.alloc (.cells #[.int .u32 a, .int .u32 b] 38)) := by kernel_rfl
/-- What a commit keeps on its way. -/
structure CSt (F : Nat → Prop) (w wr : World) (p q : Nat) (v : Value) (l : List ByteArray) (d0 d' : Dv) (c : Nat) : Prop where
  dev : ∃ G, Dev G wr p d' ∧ Sub F w wr G ∧ ¬ G q ∧ ∀ k, v.ownBlock = some k → ¬ G k
  fr : Fr F w wr
  row : SR wr v l
  ge : ∀ k, v.ownBlock = some k → w.heap.size ≤ k
  late : d'.late.length ≤ d0.late.length + c
theorem CSt.below (h : CSt F w wr p q v l d d' c) (hb : Below wr.heap.size wr wr') : CSt F w wr' p q v l d d' c where
  dev := by
    obtain ⟨G, h1, h2, h3, h4⟩ := h.dev
    exact ⟨G, h1.below hb, h2.grow hb.size, h3, h4⟩
  fr := h.fr.trans (Fr.of_below (F := F) hb) (fun _ _ h => h)
  row := part_below h.row hb
  ge := h.ge
  late := h.late
theorem CSt.step (h : CSt F w wr p q v l d d' c) (hq : q < w.heap.size) {G : Nat → Prop} (hG : Sub F w wr G) (hgq : ¬ G q) (hv : ∀ k, v.ownBlock = some k → ¬ G k) (hd : Dev (Dev.Up G wr wr') wr' p d'') (hf : Fr G wr wr') (hl : d''.late.length ≤ d'.late.length + 1) : CSt F w wr' p q v l d d'' (c + 1) where
  dev := ⟨_, hd, hG.up h.fr.size hf.size, fun hk => by
      rcases hk with hk | hk
      · exact hgq hk
      · have := h.fr.size; omega, fun k hk hu => by
      rcases hu with hu | hu
      · exact hv k hk hu
      · have := (h.row.lt k hk).2; omega⟩
  fr := h.fr.trans hf (fun k hk hg => (hG k hg).elim id fun ⟨a, _⟩ => by omega)
  row := hf.part h.row hv
  ge := h.ge
  late := by have := h.late; omega
theorem CSt.add {x : ByteArray} (h : CSt F w wr p q v l d d' c) (hq : q < w.heap.size) (hf : Fr (fun k => v.ownBlock = some k) wr wr') (hr : SR wr' v' (l ++ [x])) (hn : ∀ k, v'.ownBlock = some k → v.ownBlock = some k ∨ wr.heap.size ≤ k) : CSt F w wr' p q v' (l ++ [x]) d d' c where
  dev := by
    obtain ⟨G, h1, h2, h3, h4⟩ := h.dev
    refine ⟨G, h1.keep hf (fun k hk e => h4 k e hk), h2.grow hf.size, h3, fun k hk hg => ?_⟩
    rcases hn k hk with e | e
    · exact h4 k e hg
    · have := h1.lt k hg; omega
  fr := h.fr.trans hf (fun k hk e => by have := h.ge k e; omega)
  row := hr
  ge := fun k hk => by
    rcases hn k hk with e | e
    · exact h.ge k e
    · have := h.fr.size; omega
  late := h.late
theorem LAt.cell0 (h : LAt w q p last dead) : w.cell? ⟨q, 0, none⟩ = some (.pointer (some ⟨p, 0, none⟩)) := (blk3 h.1).1
def commitPost (F : Nat → Prop) (w w' : World) (p q : Nat) (r : Int × Dv × Nat × Bool) (e : Ending) : Prop :=
  e = .returned (.int .i64 r.1) ∧ (∃ G, Dev G w' p r.2.1 ∧ Sub F w w' G ∧ ¬ G q) ∧ LAt w' q p r.2.2.1 r.2.2.2 ∧ Fr (fun k => F k ∨ k = q) w w'
theorem CSt.done (h : CSt F w wr p q v l d d' c) (hL : LAt w q p last dead) (hqF : ¬ F q) (h1 : last + 1 < 4294967296) : commitPost F w (wr.setCell ⟨q, 1, none⟩ (.int .u32 ((last : Int) + 1))) p q (0, d', last + 1, dead) (.returned (.int .i64 0)) := by
  have hf : Fr (· = q) wr (wr.setCell ⟨q, 1, none⟩ (.int .u32 ((last : Int) + 1))) := Fr.setCell (F := (· = q)) wr (p := ⟨q, 1, none⟩) rfl _
  refine ⟨rfl, ?_, ⟨?_, h1⟩, (h.fr.mono (fun _ _ => .inl)).trans hf (fun k _ e => .inr e)⟩
  · obtain ⟨G, h1, h2, h3, h4⟩ := h.dev
    exact ⟨G, h1.keep hf (fun k hk e => h3 (e ▸ hk)), h2.grow hf.size, h3⟩
  · have := set_at (hL.keep h.fr hqF).1 1 (.int .u32 ((last : Int) + 1))
    rw [show ((last + 1 : Nat) : Int) = (last : Int) + 1 by omega]
    simpa using this
theorem CSt.died (h : CSt F w wr p q v l d d' c) (hL : LAt w q p last dead) (hqF : ¬ F q) : commitPost F w (wr.setCell ⟨q, 2, none⟩ (.bool true)) p q (e, d', last, true) (.returned (.int .i64 e)) := by
  have hf : Fr (· = q) wr (wr.setCell ⟨q, 2, none⟩ (.bool true)) := Fr.setCell (F := (· = q)) wr (p := ⟨q, 2, none⟩) rfl _
  refine ⟨rfl, ?_, ⟨?_, hL.2⟩, (h.fr.mono (fun _ _ => .inl)).trans hf (fun k _ e => .inr e)⟩
  · obtain ⟨G, h1, h2, h3, h4⟩ := h.dev
    exact ⟨G, h1.keep hf (fun k hk e => h3 (e ▸ hk)), h2.grow hf.size, h3⟩
  · have := set_at (hL.keep h.fr hqF).1 2 (.bool true)
    simpa using this
theorem write_late' {i : Int} {x : ByteArray} (h : d.write i x = (e, d')) : d'.late.length ≤ d.late.length + 1 := by have := write_late d i x; rw [h] at this; exact this
theorem barrier_late (h : d.barrier = (e, d')) : d'.late.length ≤ d.late.length + 1 := by
  unfold Dv.barrier at h
  split at h
  · rw [← (Prod.mk.inj h).2]; simp [Dv.die]
  · rw [← (Prod.mk.inj h).2]; simp
theorem CSt.devAt (h : CSt F w wr p q v l d d' c) (hb : Below wr.heap.size wr wr') : ∃ G, Dev G wr' p d' ∧ Sub F w wr' G ∧ ¬ G q ∧ (∀ k, v.ownBlock = some k → ¬ G k) ∧ ¬ G wr.heap.size := by
  obtain ⟨G, h1, h2, h3, h4⟩ := h.dev
  exact ⟨G, h1.below hb, h2.grow hb.size, h3, h4, fun hg => by have := h1.lt _ hg; omega⟩
theorem cellS {g n cp i : Nat} {x : ByteArray} (h : partRow w 0 9 1 (.slice (some ⟨g, 0, none⟩) n cp) l.length (srow l)) (hi : l[i]? = some x) : w.cell? ⟨g, i, none⟩ = some (.string x) := by
  obtain ⟨hil, hx⟩ := List.getElem?_eq_some_iff.1 hi
  obtain ⟨g', c', e, hc⟩ := srow_get h i hil
  simp only [Value.slice.injEq, Option.some.injEq, Addr.mk.injEq, and_true, true_and] at e
  obtain ⟨rfl, _⟩ := e
  rw [hc, hx]
set_option maxHeartbeats 64000000 in
theorem commit_goes (h : LAt w q p last false) (hd : Dev F w p d) (hqF : ¬ F q) (A : Option Addr) (cap : Nat) (hA : ArrAt w A ncells 2 b) (hAF : ∀ a, A = some a → ¬ F a.block) (hfit : fit (sizeL d) b) (hlm : last ≠ 4294967295) (hl : d.late.length ≤ 900000) :
    Calls Try.prog 12 #[.pointer (some ⟨q, 0, none⟩), .slice A b.length cap] w fun e w' => commitPost F w w' p q (commitL d last false b) e := by
  have hlast : last + 1 < 4294967296 := by have := h.2; omega
  have hn2 := hd.ok.n2
  have hqw := h.lt
  have HRI := Lib.hid (right_calls h hd A cap hA (by have := hfit.2.1; omega))
  rw [decide_eq_true hfit] at HRI
  have hbl := hfit.2.1
  have HFT := Lib.hid (show ∀ i (hi : i < b.length), 0 ≤ b[i].1 ∧ b[i].1 < 1000 ∧ b[i].2.size ≤ 248 from fun i hi => by
    have h1 := hfit.2.2.1 b[i] (List.getElem_mem hi)
    have h2 : sizeL d = (d.firm.length : Int) - 41 := rfl
    exact ⟨h1.1, by omega, h1.2.2⟩)
  obtain ⟨E, M, T, U, K1, K2, K3, K4, hP⟩ := plan_of d b (last + 1)
  have hr : commitL d last false b = if (commitD d (last + 1) b).1 = 0 then (0, (commitD d (last + 1) b).2, last + 1, false) else ((commitD d (last + 1) b).1, (commitD d (last + 1) b).2, last, true) := by
    unfold commitL
    rw [if_neg (not_not_intro hfit), if_neg (by simp), if_neg hlm]
  obtain ⟨R, hR⟩ : ∃ R, commitD d (last + 1) b = R := ⟨_, rfl⟩
  rw [hR] at hP hr
  obtain ⟨r, hr'⟩ : ∃ r, commitL d last false b = r := ⟨_, rfl⟩
  rw [hr'] at hr ⊢
  have HRR := Lib.hid (show (∀ dd, R = (0, dd) → r = (0, dd, last + 1, false)) ∧ ∀ e dd, R = (e, dd) → e ≠ 0 → r = (e, dd, last, true) from
    ⟨fun dd e => by rw [hr, e, if_pos rfl], fun e1 dd e he => by rw [hr, e, if_neg he]⟩)
  have HP := Lib.hid hP
  obtain ⟨L, hL⟩ : ∃ L : Nat → List ByteArray, (∀ i, (L i).length = i) ∧ L 0 = [] ∧ (∀ i, L (i + 1) = L i ++ [E i]) ∧ ∀ n i, i < n → (L n)[i]? = some (E i) :=
    ⟨fun n => (List.range n).map E, fun i => by simp, rfl, fun i => by simp [List.range_succ], fun n i hi => by simp [hi]⟩
  have HL := Lib.hid hL
  have HLQ := Lib.hid h
  have HQF := Lib.hid hqF
  have HA := Lib.hid hA
  have HAF := Lib.hid hAF
  have HD0 := Lib.hid hd
  have hm : pad (⟨#[76, 67, 79, 77]⟩ ++ (num4 (last + 1) ++ num4 b.length)) = M := by rw [hP.mrk]; rfl
  have HPAD2 := Lib.hid (fun W => (show Calls Try.prog 35 #[.string (⟨#[76, 67, 79, 77]⟩ ++ (num4 (last + 1) ++ num4 b.length))] W fun e w' => e = .returned (.string M) ∧ Below W.heap.size W w' by rw [← hm]; exact padded_calls _ (by rw [ByteArray.size_append, ByteArray.size_append, num4_size, num4_size]; show 4 + _ ≤ 256; omega) W))
  have HNUM2 := Lib.hid (fun N W (h : W.heap[N]? = some (.cells #[.int .u32 ((last : Int) + 1), .int .u32 (b.length : Int)] 38 (0, 0))) => numbers_calls N 2 (last + 1) b.length (by omega) (by omega) W (by rw [show ((last + 1 : Nat) : Int) = (last : Int) + 1 by omega]; exact h))
  have hl1 : ((last : Int) = 4294967295) = False := eq_false (by omega)
  have hl2 : (last = 4294967295) = False := eq_false hlm
  have hw5 : IntKind.u32.wrap ((last : Int) + 1) = (last : Int) + 1 := by rw [IntKind.wrap_u32]; omega
  have hw6 : ((last : Int) + 1) % 4294967296 = (last : Int) + 1 := by omega
  have hw7 : (b.length : Int) % 4294967296 = (b.length : Int) := by omega
  have hw8 : IntKind.u32.wrap (b.length : Int) = (b.length : Int) := by rw [IntKind.wrap_u32]; omega
  clear h hd hqF hA hAF hfit hR hr hr' hP hL hm hlm
  go_enter Try.func12, Try.ntmps12
  go_wp2
  refine wp_scope_once 0 rfl ?_
  go_wp2_with fail
  refine HRI.out.mono ?_
  rintro e w1 ⟨rfl, hb⟩
  have hs0 : CSt F w w1 p q (.slice none 0 0) [] d d 0 :=
    ⟨⟨F, HD0.out.below hb, fun k hk => .inl hk, HQF.out, fun k hk => by simp [Value.ownBlock] at hk⟩, Fr.of_below hb, part_of_own (World.ownsRow_nil ..), fun k hk => by simp [Value.ownBlock] at hk, Nat.le_refl _⟩
  have HS0 := Lib.hid hs0
  obtain ⟨x0, y0, x1, y1, x2, y2⟩ := blk3 (HLQ.out.keep hs0.fr HQF.out).1
  clear hb hs0 HRI
  go_wp2_with fail
  go_loopw [6, 38] (fun s6 s38 wr => ∃ (i : Nat), i ≤ b.length ∧ s38 = .int .i64 (i : Int) ∧ ∃ d', Hid (CSt F w wr p q s6 (L i) d d' i) ∧ Hid (R = T i d')) (fun _ s38 _ => b.length - (intOf s38).toNat)
  case atStart => exact ⟨0, Nat.zero_le _, by simp, d, Lib.hid (by rw [HL.out.2.1]; exact HS0.out), Lib.hid HP.out.start⟩
  case round =>
    clear HS0 x0 y0 x1 y1 x2 y2
    obtain ⟨i, hi, rfl, d', HO, HRX⟩ := hrel
    obtain ⟨a8, c8, e8, -⟩ := part_form HO.out.row
    rw [HL.out.1] at e8
    subst e8
    by_cases hil : i < b.length
    · have hil' : ((i : Int) < (b.length : Int)) = True := eq_true (by omega)
      obtain ⟨blk, off, rfl, hbw, hcs0⟩ := (HA.out.keep HO.out.fr HAF.out) i hil
      obtain ⟨x, hx⟩ : ∃ x, b[i] = x := ⟨_, rfl⟩
      rw [hx] at hcs0
      have hrg : wr.rangeAt blk (off + i * 2) (ncells x) := fun j u hu => hcs0 j u hu
      have HLN := Lib.hid (run_loadN wr blk (off + i * 2) x hrg)
      obtain ⟨w6, hr6, hp6, hb6⟩ := fresh_sn wr x
      have HST6 := Lib.hid hr6
      have HO6 := Lib.hid (HO.out.below hb6)
      have hfx := HFT.out i hil
      rw [hx] at hfx
      have hex := HP.out.ent i hil
      rw [hx] at hex
      have hhx := HP.out.home i hil
      rw [hx] at hhx
      obtain ⟨gx, hgx⟩ : ∃ k, wr.heap.size = k := ⟨_, rfl⟩
      have hvg : ∀ k, (Value.slice a8 i c8).ownBlock = some k → k ≠ gx := fun k hk e => by have := (HO.out.row.lt k hk).2; omega
      have HVG := Lib.hid hvg
      have HB6 := Lib.hid hb6
      rw [hgx] at hp6
      have HGX := Lib.hid hgx
      have HX6 := Lib.hid hp6
      obtain ⟨xa, xs⟩ := x
      simp only at hfx hex hhx
      obtain ⟨hx0, hx1, hx2⟩ := hfx
      obtain ⟨xn, rfl⟩ := Int.eq_ofNat_of_zero_le hx0
      have hxn : xn < 1000 := by omega
      have HHX := Lib.hid hhx
      have hei : pad (num4 (41 + xn) ++ num4 (last + 1) ++ xs) = E i := by rw [hex]; unfold WalL.ent; rw [show (41 + (xn : Int)).toNat = 41 + xn by omega]
      obtain ⟨ei, heq⟩ : ∃ ei, E i = ei := ⟨_, rfl⟩
      rw [heq] at hei
      have HEI := Lib.hid heq
      have HI := Lib.hid (show i < b.length from hil)
      have hw1 : IntKind.i64.wrap (41 + (xn : Int)) = 41 + (xn : Int) := by rw [IntKind.wrap_i64]; omega
      have hw2 : IntKind.u32.wrap (41 + (xn : Int)) = 41 + (xn : Int) := by rw [IntKind.wrap_u32]; omega
      have hw3 : (41 + (xn : Int)) % 4294967296 = 41 + (xn : Int) := by omega
      have hw4 : IntKind.i64.wrap (1 + (i : Int)) = 1 + (i : Int) := by rw [IntKind.wrap_i64]; omega
      have HPAD := Lib.hid (fun W => (show Calls Try.prog 35 #[.string (num4 (41 + xn) ++ num4 (last + 1) ++ xs)] W fun e w' => e = .returned (.string ei) ∧ Below W.heap.size W w' by rw [← hei]; exact padded_calls _ (by rw [ByteArray.size_append, ByteArray.size_append, num4_size, num4_size]; omega) W))
      have HNUM := Lib.hid (fun N W (h : W.heap[N]? = some (.cells #[.int .u32 (41 + (xn : Int)), .int .u32 ((last : Int) + 1)] 38 (0, 0))) => numbers_calls N 2 (41 + xn) (last + 1) (by omega) (by omega) W (by rw [show ((41 + xn : Nat) : Int) = 41 + (xn : Int) by omega, show ((last + 1 : Nat) : Int) = (last : Int) + 1 by omega]; exact h))
      clear hvg hrg hr6 hp6 hb6 hx hgx hcs0 hhx hex hei heq
      go_wp2_with (first | ((with_reducible refine gate_dst (N := 42) rfl ?_); refine wpList_val rfl rfl (execOp_load rfl rfl HLN.out) ?_) | ((with_reducible refine gate_store (p := 9) rfl ?_); refine wpList_none rfl rfl (execOp_store rfl rfl rfl HST6.out) ?_; refine stop_here ?_))
      refine Lib.hid ?_
      rw [HGX.out]
      go_wp2_with fail
      refine start_ (n := 15) (S := fun w' => NAt w' gx ((xn : Int), xs)) (ds := []) #[false, false, false, false, false, false, false, false, false, false, false, false, false, false, false] (by kernel_rfl) rfl rfl (HX6.out.below (Below.refl _ _).drew) (fun hHeld => ?_)
      have HO7 := Lib.hid (HO6.out.below (Below.refl w6.heap.size w6).drew)
      have HX7 := Lib.hid (HX6.out.below (Below.refl w6.heap.size w6).drew)
      generalize w6.drew = w7 at HO7 HX7 hHeld ⊢
      refine pure_ (i := 0) (N := some 43) (v := ?_) (a' := ?_) #[true, false, false, false, false, false, false, false, false, false, false, false, false, false, false] rfl rfl (by kernel_rfl) (fun _ _ _ h => h) (Or.inl ⟨by rfl, ?_⟩) ?_ ?_
      rotate_left
      · intro w'
        go_simp
        with_reducible rfl
      rotate_left
      · simp only [Act.put, List.setIfInBounds_toArray, List.set_cons_zero, List.set_cons_succ, i64_w, i32_w]
        rfl
      refine pure_ (i := 1) (N := some 44) (v := ?_) (a' := ?_) #[true, true, false, false, false, false, false, false, false, false, false, false, false, false, false] rfl rfl (by kernel_rfl) (fun _ _ _ h => h) (Or.inl ⟨by rfl, ?_⟩) ?_ ?_
      rotate_left
      · intro w'
        go_simp
        with_reducible rfl
      rotate_left
      · simp only [Act.put, List.setIfInBounds_toArray, List.set_cons_zero, List.set_cons_succ, i64_w, i32_w]
        rfl
      refine take_ (i := 2) (N := some 45) (v := ?_) (a' := ?_) #[true, true, true, false, false, false, false, false, false, false, false, false, false, false, false] rfl rfl (by kernel_rfl) (fun _ _ _ h => h) (Or.inl ⟨by rfl, ?_⟩) hHeld ?_ ?_
      rotate_left
      · intro w' hS
        obtain ⟨c0, c1⟩ := hS.cells
        go_simp
        with_reducible rfl
      rotate_left
      · simp only [Act.put, List.setIfInBounds_toArray, List.set_cons_zero, List.set_cons_succ, i64_w, i32_w]
        rfl
      refine pure_ (i := 3) (N := some 46) (v := ?_) (a' := ?_) #[true, true, true, true, false, false, false, false, false, false, false, false, false, false, false] rfl rfl (by kernel_rfl) (fun _ _ _ h => h) (Or.inl ⟨by rfl, ?_⟩) ?_ ?_
      rotate_left
      · intro w'
        go_simp
        with_reducible rfl
      rotate_left
      · simp only [Act.put, List.setIfInBounds_toArray, List.set_cons_zero, List.set_cons_succ, i64_w, i32_w]
        rfl
      refine pure_ (i := 4) (N := some 47) (v := ?_) (a' := ?_) #[true, true, true, true, true, false, false, false, false, false, false, false, false, false, false] rfl rfl (by kernel_rfl) (fun _ _ _ h => h) (Or.inl ⟨by rfl, ?_⟩) ?_ ?_
      rotate_left
      · intro w'
        go_simp
        with_reducible rfl
      rotate_left
      · simp only [Act.put, List.setIfInBounds_toArray, List.set_cons_zero, List.set_cons_succ, i64_w, i32_w]
        rfl
      refine pure_ (i := 5) (N := some 48) (v := ?_) (a' := ?_) #[true, true, true, true, true, true, false, false, false, false, false, false, false, false, false] rfl rfl (by kernel_rfl) (fun _ _ _ h => h) (Or.inl ⟨by rfl, ?_⟩) ?_ ?_
      rotate_left
      · intro w'
        go_simp
        with_reducible rfl
      rotate_left
      · simp only [Act.put, List.setIfInBounds_toArray, List.set_cons_zero, List.set_cons_succ, i64_w, i32_w]
        rfl
      refine pure_ (i := 8) (N := some 51) (v := ?_) (a' := ?_) #[true, true, true, true, true, true, false, false, true, false, false, false, false, false, false] rfl rfl (by kernel_rfl) (fun _ _ _ h => h) (Or.inl ⟨by rfl, ?_⟩) ?_ ?_
      rotate_left
      · intro w'
        go_simp
        with_reducible rfl
      rotate_left
      · simp only [Act.put, List.setIfInBounds_toArray, List.set_cons_zero, List.set_cons_succ, i64_w, i32_w]
        rfl
      refine take_ (i := 9) (N := some 52) (v := ?_) (a' := ?_) #[true, true, true, true, true, true, false, false, true, true, false, false, false, false, false] rfl rfl (by kernel_rfl) (fun _ _ _ h => h) (Or.inl ⟨by rfl, ?_⟩) hHeld ?_ ?_
      rotate_left
      · intro w' hS
        obtain ⟨c0, c1⟩ := hS.cells
        go_simp
        with_reducible rfl
      rotate_left
      · simp only [Act.put, List.setIfInBounds_toArray, List.set_cons_zero, List.set_cons_succ, i64_w, i32_w]
        rfl
      refine one_ (i := 6) (N := some 49) #[true, true, true, true, true, true, true, false, true, true, false, false, false, false, false] rfl rfl (by kernel_rfl) (by decide) (fun K hK => ?_)
      refine value_ (by rfl) rfl (execOp_buildSlice (ps := #[(0, .int .u32 (41 + (xn : Int))), (1, .int .u32 ((last : Int) + 1))]) rfl rfl (run_two32 _ _ _)) ?_
      have hb0 : Below w7.heap.size w7 (w7.alloc (.cells #[.int .u32 (41 + (xn : Int)), .int .u32 ((last : Int) + 1)] 38)) := (Below.refl _ _).alloc (Nat.le_refl _) _
      have HAT := Lib.hid (alloc_at w7 (.cells #[.int .u32 (41 + (xn : Int)), .int .u32 ((last : Int) + 1)] 38))
      have HO8 := Lib.hid (HO7.out.below hb0)
      have HX8 := Lib.hid (HX7.out.below hb0)
      clear hb0
      obtain ⟨N, hN⟩ : ∃ N, w7.heap.size = N := ⟨_, rfl⟩
      rw [hN] at HAT ⊢
      clear hN
      generalize w7.alloc (.cells #[.int .u32 (41 + (xn : Int)), .int .u32 ((last : Int) + 1)] 38) = w8 at HAT HO8 HX8 ⊢
      refine hK.out _ _ HX8.out (fun hHeld => ?_)
      clear hK K
      refine norm_ (a' := ?_) ?_ ?_
      rotate_left
      · show Act.put _ (some 49) _ = _
        simp only [Act.put, List.setIfInBounds_toArray, List.set_cons_zero, List.set_cons_succ, i64_w, i32_w]
        rfl
      refine one_ (i := 7) (N := some 50) #[true, true, true, true, true, true, true, true, true, true, false, false, false, false, false] rfl rfl (by kernel_rfl) (by decide) (fun K hK => ?_)
      refine goes_ Try.func36 (by kernel_rfl) rfl #[.slice (some ⟨N, 0, none⟩) 2 2] (by rfl) rfl rfl (by (try simp only [List.map_toArray, List.map_cons, List.map_nil]); first | done | rfl) ?_
      refine (HNUM.out N _ HAT.out).mono ?_
      rintro e w9 ⟨rfl, hb⟩
      refine ⟨_, rfl, ?_⟩
      have HO9 := Lib.hid (HO8.out.below hb)
      have HX9 := Lib.hid (HX8.out.below hb)
      clear hb
      refine hK.out _ _ HX9.out (fun hHeld => ?_)
      clear hK K
      refine norm_ (a' := ?_) ?_ ?_
      rotate_left
      · show Act.put _ (some 50) _ = _
        simp only [Act.put, List.setIfInBounds_toArray, List.set_cons_zero, List.set_cons_succ, i64_w, i32_w]
        rfl
      refine pure_ (i := 10) (N := some 53) (v := ?_) (a' := ?_) #[true, true, true, true, true, true, true, true, true, true, true, false, false, false, false] rfl rfl (by kernel_rfl) (fun _ _ _ h => h) (Or.inl ⟨by rfl, ?_⟩) ?_ ?_
      rotate_left
      · intro w'
        have hcat : (9223372036854775807 < (num4 (41 + xn)).size + (num4 (last + 1)).size + xs.size) = False := eq_false (by rw [num4_size, num4_size]; omega)
        go_simp
        with_reducible rfl
      rotate_left
      · simp only [Act.put, List.setIfInBounds_toArray, List.set_cons_zero, List.set_cons_succ, i64_w, i32_w]
        rfl
      refine one_ (i := 11) (N := some 54) #[true, true, true, true, true, true, true, true, true, true, true, true, false, false, false] rfl rfl (by kernel_rfl) (by decide) (fun K hK => ?_)
      refine goes_ Try.func35 (by kernel_rfl) rfl #[.string (num4 (41 + xn) ++ num4 (last + 1) ++ xs)] (by rfl) rfl rfl (by (try simp only [List.map_toArray, List.map_cons, List.map_nil]); first | done | rfl) ?_
      refine (HPAD.out _).mono ?_
      rintro e w10 ⟨rfl, hb⟩
      refine ⟨_, rfl, ?_⟩
      have HO10 := Lib.hid (HO9.out.below hb)
      have HX10 := Lib.hid (HX9.out.below hb)
      clear hb
      refine hK.out _ _ HX10.out (fun hHeld => ?_)
      clear hK K
      refine norm_ (a' := ?_) ?_ ?_
      rotate_left
      · show Act.put _ (some 54) _ = _
        simp only [Act.put, List.setIfInBounds_toArray, List.set_cons_zero, List.set_cons_succ, i64_w, i32_w]
        rfl
      obtain ⟨hbs, u11, w11, hr11, ho11, hf11, hw11⟩ := sadds w10 HO10.out.row ei (by rw [HL.out.1]; omega)
      have HBS := Lib.hid hbs
      have HR11 := Lib.hid hr11
      have HO11 := Lib.hid (HO10.out.add hqw hf11 ho11 hw11)
      have HX11 := Lib.hid (show NAt w11 gx ((xn : Int), xs) from hf11.at HX10.out (fun e => HVG.out _ e rfl))
      have HX10' := Lib.hid (HX10.out.below (show Below w10.heap.size w10 (w10.alloc (.cells #[.string ei] 9)) from (Below.refl _ _).alloc (Nat.le_refl _) _))
      obtain ⟨a11, c11, e11, -⟩ := part_form ho11
      rw [show (L i ++ [ei]).length = i + 1 by rw [List.length_append, HL.out.1]; rfl] at e11
      subst e11
      clear hbs hr11 ho11 hf11 hw11
      refine one_ (i := 12) (N := some 55) #[true, true, true, true, true, true, true, true, true, true, true, true, true, false, false] rfl rfl (by kernel_rfl) (by decide) (fun K hK => ?_)
      refine value_ (by rfl) rfl (execOp_buildSlice (ps := #[(0, .string ei)]) rfl rfl HBS.out) ?_
      refine hK.out _ _ HX10'.out (fun hHeld => ?_)
      clear hK K
      refine norm_ (a' := ?_) ?_ ?_
      rotate_left
      · show Act.put _ (some 55) _ = _
        simp only [Act.put, List.setIfInBounds_toArray, List.set_cons_zero, List.set_cons_succ, i64_w, i32_w]
        rfl
      refine one_ (i := 13) (N := some 56) #[true, true, true, true, true, true, true, true, true, true, true, true, true, true, false] rfl rfl (by kernel_rfl) (by decide) (fun K hK => ?_)
      refine value_ (by rfl) rfl (execOp_append rfl rfl rfl HR11.out) ?_
      refine hK.out _ _ HX11.out (fun hHeld => ?_)
      clear hK K
      refine norm_ (a' := ?_) ?_ ?_
      rotate_left
      · show Act.put _ (some 56) _ = _
        simp only [Act.put, List.setIfInBounds_toArray, List.set_cons_zero, List.set_cons_succ, i64_w, i32_w]
        rfl
      refine pure_ (i := 14) (N := some 6) (v := ?_) (a' := ?_) #[true, true, true, true, true, true, true, true, true, true, true, true, true, true, true] rfl rfl (by kernel_rfl) (fun _ _ _ h => h) (Or.inl ⟨by rfl, ?_⟩) ?_ ?_
      rotate_left
      · intro w'
        go_simp
        with_reducible rfl
      rotate_left
      · simp only [Act.put, List.setIfInBounds_toArray, List.set_cons_zero, List.set_cons_succ, i64_w, i32_w]
        rfl
      refine done_ (by kernel_rfl) ?_
      have hlx : L (i + 1) = L i ++ [ei] := by rw [HL.out.2.2.1, HEI.out]
      rw [← hlx] at HO11
      clear hlx HX11
      obtain ⟨g, cg, eg, c1⟩ := srow_get HO11.out.row i (by rw [HL.out.1]; omega)
      simp only [Value.slice.injEq, true_and] at eg
      obtain ⟨rfl, -, -⟩ := eg
      have HLI := Lib.hid (show (L (i + 1))[i]? = some ei by rw [HL.out.2.2.2 _ _ (by omega), HEI.out])
      replace c1 := cellS (n := i + 1) (cp := c11) HO11.out.row HLI.out
      have c0 := (HLQ.out.keep HO11.out.fr HQF.out).cell0
      have hii : ((i : Int) < (i : Int) + 1) = True := eq_true (by omega)
      go_wp2_with fail
      refine start_ (n := 12) (S := fun w' => w'.cell? ⟨q, 0, none⟩ = some (.pointer (some ⟨p, 0, none⟩)) ∧ w'.cell? ⟨g, i, none⟩ = some (.string ei)) (ds := []) #[false, false, false, false, false, false, false, false, false, false, false, false] (by kernel_rfl) rfl rfl (⟨c0, c1⟩) (fun hHeld => ?_)
      have HO12 := Lib.hid (HO11.out.below (Below.refl w11.heap.size w11).drew)
      generalize w11.drew = w12 at HO12 hHeld ⊢
      clear c0 c1
      obtain ⟨G, hg1, hg2, hg3, hg4⟩ := HO12.out.dev
      have HG := Lib.hid (And.intro hg2 (And.intro hg3 hg4))
      have HWR := Lib.hid (write_any hg1 (1 + (i : Int)) ei (by have := HO12.out.late; omega))
      obtain ⟨⟨ew, dw⟩, hdw⟩ : ∃ r, d'.write (1 + (i : Int)) ei = r := ⟨_, rfl⟩
      rw [hdw] at HWR
      have HWT := Lib.hid hdw
      clear hdw
      clear hg1 hg2 hg3 hg4
      refine pure_ (i := 0) (N := some 57) (v := ?_) (a' := ?_) #[true, false, false, false, false, false, false, false, false, false, false, false] rfl rfl (by kernel_rfl) (fun _ _ _ h => h) (Or.inl ⟨by rfl, ?_⟩) ?_ ?_
      rotate_left
      · intro w'
        go_simp
        with_reducible rfl
      rotate_left
      · simp only [Act.put, List.setIfInBounds_toArray, List.set_cons_zero, List.set_cons_succ, i64_w, i32_w]
        rfl
      refine pure_ (i := 1) (N := some 58) (v := ?_) (a' := ?_) #[true, true, false, false, false, false, false, false, false, false, false, false] rfl rfl (by kernel_rfl) (fun _ _ _ h => h) (Or.inl ⟨by rfl, ?_⟩) ?_ ?_
      rotate_left
      · intro w'
        go_simp
        with_reducible rfl
      rotate_left
      · simp only [Act.put, List.setIfInBounds_toArray, List.set_cons_zero, List.set_cons_succ, i64_w, i32_w]
        rfl
      refine pure_ (i := 2) (N := some 59) (v := ?_) (a' := ?_) #[true, true, true, false, false, false, false, false, false, false, false, false] rfl rfl (by kernel_rfl) (fun _ _ _ h => h) (Or.inl ⟨by rfl, ?_⟩) ?_ ?_
      rotate_left
      · intro w'
        go_simp
        with_reducible rfl
      rotate_left
      · simp only [Act.put, List.setIfInBounds_toArray, List.set_cons_zero, List.set_cons_succ, i64_w, i32_w]
        rfl
      refine take_ (i := 3) (N := some 60) (v := ?_) (a' := ?_) #[true, true, true, true, false, false, false, false, false, false, false, false] rfl rfl (by kernel_rfl) (fun _ _ _ h => h) (Or.inl ⟨by rfl, ?_⟩) hHeld ?_ ?_
      rotate_left
      · intro w' hS
        have z0 := hS.1
        go_simp
        with_reducible rfl
      rotate_left
      · simp only [Act.put, List.setIfInBounds_toArray, List.set_cons_zero, List.set_cons_succ, i64_w, i32_w]
        rfl
      refine pure_ (i := 4) (N := some 61) (v := ?_) (a' := ?_) #[true, true, true, true, true, false, false, false, false, false, false, false] rfl rfl (by kernel_rfl) (fun _ _ _ h => h) (Or.inl ⟨by rfl, ?_⟩) ?_ ?_
      rotate_left
      · intro w'
        go_simp
        with_reducible rfl
      rotate_left
      · simp only [Act.put, List.setIfInBounds_toArray, List.set_cons_zero, List.set_cons_succ, i64_w, i32_w]
        rfl
      refine pure_ (i := 5) (N := some 62) (v := ?_) (a' := ?_) #[true, true, true, true, true, true, false, false, false, false, false, false] rfl rfl (by kernel_rfl) (fun _ _ _ h => h) (Or.inl ⟨by rfl, ?_⟩) ?_ ?_
      rotate_left
      · intro w'
        go_simp
        with_reducible rfl
      rotate_left
      · simp only [Act.put, List.setIfInBounds_toArray, List.set_cons_zero, List.set_cons_succ, i64_w, i32_w]
        rfl
      refine pure_ (i := 6) (N := some 63) (v := ?_) (a' := ?_) #[true, true, true, true, true, true, true, false, false, false, false, false] rfl rfl (by kernel_rfl) (fun _ _ _ h => h) (Or.inl ⟨by rfl, ?_⟩) ?_ ?_
      rotate_left
      · intro w'
        go_simp
        with_reducible rfl
      rotate_left
      · simp only [Act.put, List.setIfInBounds_toArray, List.set_cons_zero, List.set_cons_succ, i64_w, i32_w]
        rfl
      refine pure_ (i := 7) (N := some 64) (v := ?_) (a' := ?_) #[true, true, true, true, true, true, true, true, false, false, false, false] rfl rfl (by kernel_rfl) (fun _ _ _ h => h) (Or.inl ⟨by rfl, ?_⟩) ?_ ?_
      rotate_left
      · intro w'
        go_simp
        with_reducible rfl
      rotate_left
      · simp only [Act.put, List.setIfInBounds_toArray, List.set_cons_zero, List.set_cons_succ, i64_w, i32_w]
        rfl
      refine pure_ (i := 8) (N := some 65) (v := ?_) (a' := ?_) #[true, true, true, true, true, true, true, true, true, false, false, false] rfl rfl (by kernel_rfl) (fun _ _ _ h => h) (Or.inl ⟨by rfl, ?_⟩) ?_ ?_
      rotate_left
      · intro w'
        go_simp
        with_reducible rfl
      rotate_left
      · simp only [Act.put, List.setIfInBounds_toArray, List.set_cons_zero, List.set_cons_succ, i64_w, i32_w]
        rfl
      refine take_ (i := 9) (N := some 66) (v := ?_) (a' := ?_) #[true, true, true, true, true, true, true, true, true, true, false, false] rfl rfl (by kernel_rfl) (fun _ _ _ h => h) (Or.inl ⟨by rfl, ?_⟩) hHeld ?_ ?_
      rotate_left
      · intro w' hS
        have z0 := hS.2
        go_simp
        with_reducible rfl
      rotate_left
      · simp only [Act.put, List.setIfInBounds_toArray, List.set_cons_zero, List.set_cons_succ, i64_w, i32_w]
        rfl
      refine one_ (i := 10) (N := some 67) #[true, true, true, true, true, true, true, true, true, true, true, false] rfl rfl (by kernel_rfl) (by decide) (fun K hK => ?_)
      refine goes_ Try.func32 (by kernel_rfl) rfl #[.pointer (some ⟨p, 0, none⟩), .int .i64 (1 + (i : Int)), .string ei] (by rfl) rfl rfl (by (try simp only [List.map_toArray, List.map_cons, List.map_nil]); first | done | rfl) ?_
      refine (HWR.out).mono ?_
      rintro e w13 ⟨rfl, hd, hf⟩
      refine ⟨_, rfl, ?_⟩
      have HD := Lib.hid hd
      have HF := Lib.hid hf
      clear hd hf
      refine hK.out _ _ ⟨(HLQ.out.keep (HO12.out.step hqw HG.out.1 HG.out.2.1 HG.out.2.2 HD.out HF.out (write_late' HWT.out)).fr HQF.out).cell0, cellS (HF.out.part HO12.out.row HG.out.2.2) HLI.out⟩ (fun hHeld => ?_)
      clear hK K
      refine norm_ (a' := ?_) ?_ ?_
      rotate_left
      · show Act.put _ (some 67) _ = _
        simp only [Act.put, List.setIfInBounds_toArray, List.set_cons_zero, List.set_cons_succ, i64_w, i32_w]
        rfl
      refine pure_ (i := 11) (N := some 5) (v := ?_) (a' := ?_) #[true, true, true, true, true, true, true, true, true, true, true, true] rfl rfl (by kernel_rfl) (fun _ _ _ h => h) (Or.inl ⟨by rfl, ?_⟩) ?_ ?_
      rotate_left
      · intro w'
        go_simp
        with_reducible rfl
      rotate_left
      · simp only [Act.put, List.setIfInBounds_toArray, List.set_cons_zero, List.set_cons_succ, i64_w, i32_w]
        rfl
      refine done_ (by kernel_rfl) ?_
      have HO13 := Lib.hid (HO12.out.step hqw HG.out.1 HG.out.2.1 HG.out.2.2 HD.out HF.out (write_late' HWT.out))
      have HRT := Lib.hid (show R = andThen (ew, dw) (T (i + 1)) by rw [HRX.out, HP.out.jour i d' HI.out, HEI.out, HWT.out])
      clear HD HF HWT HG HO12 HRX HO11
      by_cases he0 : ew = 0
      · subst he0
        have HRY := Lib.hid (show R = T (i + 1) dw by rw [HRT.out, andThen_ok])
        clear HRT
        go_wp2
        refine ⟨⟨_, _, _, _, _, ⟨i + 1, by omega, ?_, dw, HO13, HRY⟩, rfl, rfl, rfl, rfl, rfl⟩, ?_⟩
        · first | rfl | go_num
        · simp [intOf]; omega
      · have he0' : (ew = 0) = False := eq_false he0
        have HRY := Lib.hid (show R = (ew, dw) by rw [HRT.out, andThen_no he0])
        have hrr := HRR.out.2 _ _ HRY.out he0
        subst hrr
        clear HRT HRY HRR
        obtain ⟨x0, y0, x1, y1, x2, y2⟩ := blk3 (HLQ.out.keep HO13.out.fr HQF.out).1
        go_wp2
        go_step3
        refine And.intro rfl ?_
        show Code.wp _ _ _ _ _
        go_wp2
        try rw [Exit.noGoto_ret]
        go_ret
        exact HO13.out.died HLQ.out HQF.out
    · have hil' : ((i : Int) < (b.length : Int)) = False := eq_false (by omega)
      obtain rfl : i = b.length := by omega
      have HRX1 := Lib.hid (show R = andThen d'.barrier K2 by rw [HRX.out, HP.out.jend, HP.out.k1])
      clear HRX
      obtain ⟨G, hg1, hg2, hg3, hg4⟩ := HO.out.dev
      have HG := Lib.hid (And.intro hg2 (And.intro hg3 hg4))
      have HBA := Lib.hid (barrier_any hg1)
      obtain ⟨⟨ew, d1⟩, hdw⟩ : ∃ r, d'.barrier = r := ⟨_, rfl⟩
      rw [hdw] at HBA
      have HBT := Lib.hid hdw
      clear hdw hg1 hg2 hg3 hg4
      obtain ⟨x0, y0, x1, y1, x2, y2⟩ := blk3 (HLQ.out.keep HO.out.fr HQF.out).1
      go_wp2_with fail
      refine HBA.out.mono ?_
      rintro e w1 ⟨rfl, hd, hf⟩
      have HO1 := Lib.hid (HO.out.step hqw HG.out.1 HG.out.2.1 HG.out.2.2 hd hf (barrier_late HBT.out))
      have HRT := Lib.hid (show R = andThen (ew, d1) K2 by rw [HRX1.out, HBT.out])
      clear hd hf HG HBA HBT HRX1 x0 y0 x1 y1 x2 y2
      by_cases he0 : ew = 0
      · subst he0
        have HRX2 := Lib.hid (show R = K2 d1 by rw [HRT.out, andThen_ok])
        clear HRT
        have c0 := (HLQ.out.keep HO1.out.fr HQF.out).cell0
        go_wp2_with fail
        refine start_ (n := 14) (S := fun w' => w'.cell? ⟨q, 0, none⟩ = some (.pointer (some ⟨p, 0, none⟩))) (ds := []) #[false, false, false, false, false, false, false, false, false, false, false, false, false, false] (by kernel_rfl) rfl rfl (c0) (fun hHeld => ?_)
        have HO2 := Lib.hid (HO1.out.below (Below.refl w1.heap.size w1).drew)
        generalize w1.drew = w2 at HO2 hHeld ⊢
        clear c0
        refine pure_ (i := 0) (N := some 78) (v := ?_) (a' := ?_) #[true, false, false, false, false, false, false, false, false, false, false, false, false, false] rfl rfl (by kernel_rfl) (fun _ _ _ h => h) (Or.inl ⟨by rfl, ?_⟩) ?_ ?_
        rotate_left
        · intro w'
          go_simp
          with_reducible rfl
        rotate_left
        · simp only [Act.put, List.setIfInBounds_toArray, List.set_cons_zero, List.set_cons_succ, i64_w, i32_w]
          rfl
        refine pure_ (i := 1) (N := some 79) (v := ?_) (a' := ?_) #[true, true, false, false, false, false, false, false, false, false, false, false, false, false] rfl rfl (by kernel_rfl) (fun _ _ _ h => h) (Or.inl ⟨by rfl, ?_⟩) ?_ ?_
        rotate_left
        · intro w'
          go_simp
          with_reducible rfl
        rotate_left
        · simp only [Act.put, List.setIfInBounds_toArray, List.set_cons_zero, List.set_cons_succ, i64_w, i32_w]
          rfl
        refine pure_ (i := 2) (N := some 80) (v := ?_) (a' := ?_) #[true, true, true, false, false, false, false, false, false, false, false, false, false, false] rfl rfl (by kernel_rfl) (fun _ _ _ h => h) (Or.inl ⟨by rfl, ?_⟩) ?_ ?_
        rotate_left
        · intro w'
          go_simp
          with_reducible rfl
        rotate_left
        · simp only [Act.put, List.setIfInBounds_toArray, List.set_cons_zero, List.set_cons_succ, i64_w, i32_w]
          rfl
        refine take_ (i := 3) (N := some 81) (v := ?_) (a' := ?_) #[true, true, true, true, false, false, false, false, false, false, false, false, false, false] rfl rfl (by kernel_rfl) (fun _ _ _ h => h) (Or.inl ⟨by rfl, ?_⟩) hHeld ?_ ?_
        rotate_left
        · intro w' hS
          have z0 := hS
          go_simp
          with_reducible rfl
        rotate_left
        · simp only [Act.put, List.setIfInBounds_toArray, List.set_cons_zero, List.set_cons_succ, i64_w, i32_w]
          rfl
        refine pure_ (i := 4) (N := some 82) (v := ?_) (a' := ?_) #[true, true, true, true, true, false, false, false, false, false, false, false, false, false] rfl rfl (by kernel_rfl) (fun _ _ _ h => h) (Or.inl ⟨by rfl, ?_⟩) ?_ ?_
        rotate_left
        · intro w'
          go_simp
          with_reducible rfl
        rotate_left
        · simp only [Act.put, List.setIfInBounds_toArray, List.set_cons_zero, List.set_cons_succ, i64_w, i32_w]
          rfl
        refine pure_ (i := 5) (N := some 83) (v := ?_) (a' := ?_) #[true, true, true, true, true, true, false, false, false, false, false, false, false, false] rfl rfl (by kernel_rfl) (fun _ _ _ h => h) (Or.inl ⟨by rfl, ?_⟩) ?_ ?_
        rotate_left
        · intro w'
          go_simp
          with_reducible rfl
        rotate_left
        · simp only [Act.put, List.setIfInBounds_toArray, List.set_cons_zero, List.set_cons_succ, i64_w, i32_w]
          rfl
        refine pure_ (i := 6) (N := some 84) (v := ?_) (a' := ?_) #[true, true, true, true, true, true, true, false, false, false, false, false, false, false] rfl rfl (by kernel_rfl) (fun _ _ _ h => h) (Or.inl ⟨by rfl, ?_⟩) ?_ ?_
        rotate_left
        · intro w'
          go_simp
          with_reducible rfl
        rotate_left
        · simp only [Act.put, List.setIfInBounds_toArray, List.set_cons_zero, List.set_cons_succ, i64_w, i32_w]
          rfl
        refine pure_ (i := 7) (N := some 85) (v := ?_) (a' := ?_) #[true, true, true, true, true, true, true, true, false, false, false, false, false, false] rfl rfl (by kernel_rfl) (fun _ _ _ h => h) (Or.inl ⟨by rfl, ?_⟩) ?_ ?_
        rotate_left
        · intro w'
          go_simp
          with_reducible rfl
        rotate_left
        · simp only [Act.put, List.setIfInBounds_toArray, List.set_cons_zero, List.set_cons_succ, i64_w, i32_w]
          rfl
        refine one_ (i := 8) (N := some 86) #[true, true, true, true, true, true, true, true, true, false, false, false, false, false] rfl rfl (by kernel_rfl) (by decide) (fun K hK => ?_)
        refine value_ (by rfl) rfl (execOp_buildSlice (ps := #[(0, .int .u32 ((last : Int) + 1)), (1, .int .u32 (b.length : Int))]) rfl rfl (run_two32 _ _ _)) ?_
        have hb0 : Below w2.heap.size w2 (w2.alloc (.cells #[.int .u32 ((last : Int) + 1), .int .u32 (b.length : Int)] 38)) := (Below.refl _ _).alloc (Nat.le_refl _) _
        have HAT := Lib.hid (alloc_at w2 (.cells #[.int .u32 ((last : Int) + 1), .int .u32 (b.length : Int)] 38))
        have HO3 := Lib.hid (HO2.out.below hb0)
        clear hb0
        obtain ⟨N, hN⟩ : ∃ N, w2.heap.size = N := ⟨_, rfl⟩
        rw [hN] at HAT ⊢
        clear hN
        generalize w2.alloc (.cells #[.int .u32 ((last : Int) + 1), .int .u32 (b.length : Int)] 38) = w3 at HAT HO3 ⊢
        refine hK.out _ _ (HLQ.out.keep HO3.out.fr HQF.out).cell0 (fun hHeld => ?_)
        clear hK K
        refine norm_ (a' := ?_) ?_ ?_
        rotate_left
        · show Act.put _ (some 86) _ = _
          simp only [Act.put, List.setIfInBounds_toArray, List.set_cons_zero, List.set_cons_succ, i64_w, i32_w]
          rfl
        refine one_ (i := 9) (N := some 87) #[true, true, true, true, true, true, true, true, true, true, false, false, false, false] rfl rfl (by kernel_rfl) (by decide) (fun K hK => ?_)
        refine goes_ Try.func36 (by kernel_rfl) rfl #[.slice (some ⟨N, 0, none⟩) 2 2] (by rfl) rfl rfl (by (try simp only [List.map_toArray, List.map_cons, List.map_nil]); first | done | rfl) ?_
        refine (HNUM2.out N _ HAT.out).mono ?_
        rintro e w4 ⟨rfl, hb⟩
        refine ⟨_, rfl, ?_⟩
        have HO4 := Lib.hid (HO3.out.below hb)
        clear hb
        refine hK.out _ _ (HLQ.out.keep HO4.out.fr HQF.out).cell0 (fun hHeld => ?_)
        clear hK K
        refine norm_ (a' := ?_) ?_ ?_
        rotate_left
        · show Act.put _ (some 87) _ = _
          simp only [Act.put, List.setIfInBounds_toArray, List.set_cons_zero, List.set_cons_succ, i64_w, i32_w]
          rfl
        refine pure_ (i := 10) (N := some 88) (v := ?_) (a' := ?_) #[true, true, true, true, true, true, true, true, true, true, true, false, false, false] rfl rfl (by kernel_rfl) (fun _ _ _ h => h) (Or.inl ⟨by rfl, ?_⟩) ?_ ?_
        rotate_left
        · intro w'
          have hcat : (9223372036854775807 < (4 + ((num4 (last + 1)).size + (num4 b.length).size))) = False := eq_false (by rw [num4_size, num4_size]; omega)
          go_simp
          with_reducible rfl
        rotate_left
        · simp only [Act.put, List.setIfInBounds_toArray, List.set_cons_zero, List.set_cons_succ, i64_w, i32_w]
          rfl
        refine one_ (i := 11) (N := some 89) #[true, true, true, true, true, true, true, true, true, true, true, true, false, false] rfl rfl (by kernel_rfl) (by decide) (fun K hK => ?_)
        refine goes_ Try.func35 (by kernel_rfl) rfl #[.string (⟨#[76, 67, 79, 77]⟩ ++ (num4 (last + 1) ++ num4 b.length))] (by rfl) rfl rfl (by (try simp only [List.map_toArray, List.map_cons, List.map_nil]); first | done | rfl) ?_
        refine (HPAD2.out _).mono ?_
        rintro e w5 ⟨rfl, hb⟩
        refine ⟨_, rfl, ?_⟩
        have HO5 := Lib.hid (HO4.out.below hb)
        clear hb
        refine hK.out _ _ (HLQ.out.keep HO5.out.fr HQF.out).cell0 (fun hHeld => ?_)
        clear hK K
        refine norm_ (a' := ?_) ?_ ?_
        rotate_left
        · show Act.put _ (some 89) _ = _
          simp only [Act.put, List.setIfInBounds_toArray, List.set_cons_zero, List.set_cons_succ, i64_w, i32_w]
          rfl
        obtain ⟨G, hg1, hg2, hg3, hg4⟩ := HO5.out.dev
        have HG := Lib.hid (And.intro hg2 (And.intro hg3 hg4))
        have HWR := Lib.hid (write_any hg1 0 M (by have := HO5.out.late; omega))
        obtain ⟨⟨ew, dw⟩, hdw⟩ : ∃ r, d1.write 0 M = r := ⟨_, rfl⟩
        rw [hdw] at HWR
        have HWT := Lib.hid hdw
        clear hdw
        clear hg1 hg2 hg3 hg4
        refine one_ (i := 12) (N := some 90) #[true, true, true, true, true, true, true, true, true, true, true, true, true, false] rfl rfl (by kernel_rfl) (by decide) (fun K hK => ?_)
        refine goes_ Try.func32 (by kernel_rfl) rfl #[.pointer (some ⟨p, 0, none⟩), .int .i64 0, .string M] (by rfl) rfl rfl (by (try simp only [List.map_toArray, List.map_cons, List.map_nil]); first | done | rfl) ?_
        refine (HWR.out).mono ?_
        rintro e w6 ⟨rfl, hd, hf⟩
        refine ⟨_, rfl, ?_⟩
        have HD := Lib.hid hd
        have HF := Lib.hid hf
        clear hd hf
        refine hK.out _ _ (HLQ.out.keep (HO5.out.step hqw HG.out.1 HG.out.2.1 HG.out.2.2 HD.out HF.out (write_late' HWT.out)).fr HQF.out).cell0 (fun hHeld => ?_)
        clear hK K
        refine norm_ (a' := ?_) ?_ ?_
        rotate_left
        · show Act.put _ (some 90) _ = _
          simp only [Act.put, List.setIfInBounds_toArray, List.set_cons_zero, List.set_cons_succ, i64_w, i32_w]
          rfl
        refine pure_ (i := 13) (N := some 5) (v := ?_) (a' := ?_) #[true, true, true, true, true, true, true, true, true, true, true, true, true, true] rfl rfl (by kernel_rfl) (fun _ _ _ h => h) (Or.inl ⟨by rfl, ?_⟩) ?_ ?_
        rotate_left
        · intro w'
          go_simp
          with_reducible rfl
        rotate_left
        · simp only [Act.put, List.setIfInBounds_toArray, List.set_cons_zero, List.set_cons_succ, i64_w, i32_w]
          rfl
        refine done_ (by kernel_rfl) ?_
        have HO6 := Lib.hid (HO5.out.step hqw HG.out.1 HG.out.2.1 HG.out.2.2 HD.out HF.out (write_late' HWT.out))
        have HRT := Lib.hid (show R = andThen (ew, dw) K3 by rw [HRX2.out, HP.out.k2, HWT.out])
        clear HD HF HWT HG HO5 HRX2 HO1 HO2 HO3 HO4
        by_cases he0 : ew = 0
        · subst he0
          have HRX3 := Lib.hid (show R = andThen dw.barrier K4 by rw [HRT.out, andThen_ok, HP.out.k3])
          clear HRT
          obtain ⟨G, hg1, hg2, hg3, hg4⟩ := HO6.out.dev
          have HG := Lib.hid (And.intro hg2 (And.intro hg3 hg4))
          have HBA := Lib.hid (barrier_any hg1)
          obtain ⟨⟨ew, d2⟩, hdw⟩ : ∃ r, dw.barrier = r := ⟨_, rfl⟩
          rw [hdw] at HBA
          have HBT := Lib.hid hdw
          clear hdw hg1 hg2 hg3 hg4
          obtain ⟨x0, y0, x1, y1, x2, y2⟩ := blk3 (HLQ.out.keep HO6.out.fr HQF.out).1
          go_wp2_with fail
          refine HBA.out.mono ?_
          rintro e w7 ⟨rfl, hd, hf⟩
          have HO7 := Lib.hid (HO6.out.step hqw HG.out.1 HG.out.2.1 HG.out.2.2 hd hf (barrier_late HBT.out))
          have HRT := Lib.hid (show R = andThen (ew, d2) K4 by rw [HRX3.out, HBT.out])
          clear hd hf HG HBA HBT HRX3 x0 y0 x1 y1 x2 y2
          by_cases he0 : ew = 0
          · subst he0
            have HRX4 := Lib.hid (show R = K4 d2 by rw [HRT.out, andThen_ok])
            clear HRT
            go_wp2_with fail
            go_loopw [102] (fun s102 wr => ∃ (i : Nat), i ≤ b.length ∧ s102 = .int .i64 (i : Int) ∧ ∃ d', Hid (CSt F w wr p q (.slice a8 b.length c8) (L b.length) d d' (b.length + 1 + 1 + 1 + i)) ∧ Hid (R = U i d')) (fun s102 _ => b.length - (intOf s102).toNat)
            case atStart => exact ⟨0, Nat.zero_le _, by simp, d2, HO7, Lib.hid (by rw [HRX4.out, HP.out.k4])⟩
            case round =>
              clear HO7 HRX4
              obtain ⟨i, hi, rfl, d', HO, HRX⟩ := hrel
              by_cases hil : i < b.length
              · have hil' : ((i : Int) < (b.length : Int)) = True := eq_true (by omega)
                obtain ⟨blk, off, rfl, hbw, hcs0⟩ := (HA.out.keep HO.out.fr HAF.out) i hil
                obtain ⟨x, hx⟩ : ∃ x, b[i] = x := ⟨_, rfl⟩
                rw [hx] at hcs0
                have hrg : wr.rangeAt blk (off + i * 2) (ncells x) := fun j u hu => hcs0 j u hu
                have HLN := Lib.hid (run_loadN wr blk (off + i * 2) x hrg)
                obtain ⟨w6, hr6, hp6, hb6⟩ := fresh_sn wr x
                have HST6 := Lib.hid hr6
                have HO6 := Lib.hid (HO.out.below hb6)
                have hfx := HFT.out i hil
                rw [hx] at hfx
                have hex := HP.out.ent i hil
                rw [hx] at hex
                have hhx := HP.out.home i hil
                rw [hx] at hhx
                obtain ⟨gx, hgx⟩ : ∃ k, wr.heap.size = k := ⟨_, rfl⟩
                have hvg : ∀ k, (Value.slice a8 b.length c8).ownBlock = some k → k ≠ gx := fun k hk e => by have := (HO.out.row.lt k hk).2; omega
                have HVG := Lib.hid hvg
                have HB6 := Lib.hid hb6
                rw [hgx] at hp6
                have HGX := Lib.hid hgx
                have HX6 := Lib.hid hp6
                obtain ⟨xa, xs⟩ := x
                simp only at hfx hex hhx
                obtain ⟨hx0, hx1, hx2⟩ := hfx
                obtain ⟨xn, rfl⟩ := Int.eq_ofNat_of_zero_le hx0
                have hxn : xn < 1000 := by omega
                have HHX := Lib.hid hhx
                have hei : pad (num4 (41 + xn) ++ num4 (last + 1) ++ xs) = E i := by rw [hex]; unfold WalL.ent; rw [show (41 + (xn : Int)).toNat = 41 + xn by omega]
                obtain ⟨ei, heq⟩ : ∃ ei, E i = ei := ⟨_, rfl⟩
                rw [heq] at hei
                have HEI := Lib.hid heq
                have HI := Lib.hid (show i < b.length from hil)
                have hw1 : IntKind.i64.wrap (41 + (xn : Int)) = 41 + (xn : Int) := by rw [IntKind.wrap_i64]; omega
                have hw2 : IntKind.u32.wrap (41 + (xn : Int)) = 41 + (xn : Int) := by rw [IntKind.wrap_u32]; omega
                have hw3 : (41 + (xn : Int)) % 4294967296 = 41 + (xn : Int) := by omega
                have hw4 : IntKind.i64.wrap (1 + (i : Int)) = 1 + (i : Int) := by rw [IntKind.wrap_i64]; omega
                have HPAD := Lib.hid (fun W => (show Calls Try.prog 35 #[.string (num4 (41 + xn) ++ num4 (last + 1) ++ xs)] W fun e w' => e = .returned (.string ei) ∧ Below W.heap.size W w' by rw [← hei]; exact padded_calls _ (by rw [ByteArray.size_append, ByteArray.size_append, num4_size, num4_size]; omega) W))
                have HNUM := Lib.hid (fun N W (h : W.heap[N]? = some (.cells #[.int .u32 (41 + (xn : Int)), .int .u32 ((last : Int) + 1)] 38 (0, 0))) => numbers_calls N 2 (41 + xn) (last + 1) (by omega) (by omega) W (by rw [show ((41 + xn : Nat) : Int) = 41 + (xn : Int) by omega, show ((last + 1 : Nat) : Int) = (last : Int) + 1 by omega]; exact h))
                clear hvg hrg hr6 hp6 hb6 hx hgx hcs0 hhx hex hei heq
                go_wp2_with (first | ((with_reducible refine gate_dst (N := 106) rfl ?_); refine wpList_val rfl rfl (execOp_load rfl rfl HLN.out) ?_) | ((with_reducible refine gate_store (p := 11) rfl ?_); refine wpList_none rfl rfl (execOp_store rfl rfl rfl HST6.out) ?_; refine stop_here ?_))
                refine Lib.hid ?_
                rw [HGX.out]
                go_wp2_with fail
                obtain ⟨g, cg, eg, c1⟩ := srow_get HO6.out.row i (by rw [HL.out.1]; exact HI.out)
                simp only [Value.slice.injEq, true_and] at eg
                obtain ⟨rfl, -, -⟩ := eg
                have HLI := Lib.hid (show (L b.length)[i]? = some ei by rw [HL.out.2.2.2 _ _ HI.out, HEI.out])
                replace c1 := cellS (n := b.length) (cp := c8) HO6.out.row HLI.out
                have c0 := (HLQ.out.keep HO6.out.fr HQF.out).cell0
                refine start_ (n := 13) (S := fun w' => w'.cell? ⟨q, 0, none⟩ = some (.pointer (some ⟨p, 0, none⟩)) ∧ w'.cell? ⟨g, i, none⟩ = some (.string ei) ∧ NAt w' gx ((xn : Int), xs)) (ds := []) #[false, false, false, false, false, false, false, false, false, false, false, false, false] (by kernel_rfl) rfl rfl (⟨c0, c1, HX6.out.below (Below.refl _ _).drew⟩) (fun hHeld => ?_)
                have HO12 := Lib.hid (HO6.out.below (Below.refl w6.heap.size w6).drew)
                have HX12 := Lib.hid (HX6.out.below (Below.refl w6.heap.size w6).drew)
                have HDV := Lib.hid (HO.out.devAt (wr' := w6.drew) (HB6.out.trans ((Below.refl w6.heap.size w6).drew.mono HB6.out.size)))
                rw [HGX.out] at HDV
                generalize w6.drew = w12 at HO12 HX12 HDV hHeld ⊢
                clear c0 c1
                obtain ⟨G, hg1, hg2, hg3, hg4, hg5⟩ := HDV.out
                have HGX1 := Lib.hid hg5
                have HG := Lib.hid (And.intro hg2 (And.intro hg3 hg4))
                have HWR := Lib.hid (write_any hg1 (41 + (xn : Int)) ei (by have := HO12.out.late; omega))
                obtain ⟨⟨ew, dw⟩, hdw⟩ : ∃ r, d'.write (41 + (xn : Int)) ei = r := ⟨_, rfl⟩
                rw [hdw] at HWR
                have HWT := Lib.hid hdw
                clear hdw
                clear hg1 hg2 hg3 hg4 hg5 HDV
                refine pure_ (i := 0) (N := some 107) (v := ?_) (a' := ?_) #[true, false, false, false, false, false, false, false, false, false, false, false, false] rfl rfl (by kernel_rfl) (fun _ _ _ h => h) (Or.inl ⟨by rfl, ?_⟩) ?_ ?_
                rotate_left
                · intro w'
                  go_simp
                  with_reducible rfl
                rotate_left
                · simp only [Act.put, List.setIfInBounds_toArray, List.set_cons_zero, List.set_cons_succ, i64_w, i32_w]
                  rfl
                refine pure_ (i := 1) (N := some 108) (v := ?_) (a' := ?_) #[true, true, false, false, false, false, false, false, false, false, false, false, false] rfl rfl (by kernel_rfl) (fun _ _ _ h => h) (Or.inl ⟨by rfl, ?_⟩) ?_ ?_
                rotate_left
                · intro w'
                  go_simp
                  with_reducible rfl
                rotate_left
                · simp only [Act.put, List.setIfInBounds_toArray, List.set_cons_zero, List.set_cons_succ, i64_w, i32_w]
                  rfl
                refine pure_ (i := 2) (N := some 109) (v := ?_) (a' := ?_) #[true, true, true, false, false, false, false, false, false, false, false, false, false] rfl rfl (by kernel_rfl) (fun _ _ _ h => h) (Or.inl ⟨by rfl, ?_⟩) ?_ ?_
                rotate_left
                · intro w'
                  go_simp
                  with_reducible rfl
                rotate_left
                · simp only [Act.put, List.setIfInBounds_toArray, List.set_cons_zero, List.set_cons_succ, i64_w, i32_w]
                  rfl
                refine take_ (i := 3) (N := some 110) (v := ?_) (a' := ?_) #[true, true, true, true, false, false, false, false, false, false, false, false, false] rfl rfl (by kernel_rfl) (fun _ _ _ h => h) (Or.inl ⟨by rfl, ?_⟩) hHeld ?_ ?_
                rotate_left
                · intro w' hS
                  have z0 := hS.1
                  go_simp
                  with_reducible rfl
                rotate_left
                · simp only [Act.put, List.setIfInBounds_toArray, List.set_cons_zero, List.set_cons_succ, i64_w, i32_w]
                  rfl
                refine pure_ (i := 4) (N := some 111) (v := ?_) (a' := ?_) #[true, true, true, true, true, false, false, false, false, false, false, false, false] rfl rfl (by kernel_rfl) (fun _ _ _ h => h) (Or.inl ⟨by rfl, ?_⟩) ?_ ?_
                rotate_left
                · intro w'
                  go_simp
                  with_reducible rfl
                rotate_left
                · simp only [Act.put, List.setIfInBounds_toArray, List.set_cons_zero, List.set_cons_succ, i64_w, i32_w]
                  rfl
                refine take_ (i := 5) (N := some 112) (v := ?_) (a' := ?_) #[true, true, true, true, true, true, false, false, false, false, false, false, false] rfl rfl (by kernel_rfl) (fun _ _ _ h => h) (Or.inl ⟨by rfl, ?_⟩) hHeld ?_ ?_
                rotate_left
                · intro w' hS
                  obtain ⟨z0, z1⟩ := hS.2.2.cells
                  go_simp
                  with_reducible rfl
                rotate_left
                · simp only [Act.put, List.setIfInBounds_toArray, List.set_cons_zero, List.set_cons_succ, i64_w, i32_w]
                  rfl
                refine pure_ (i := 6) (N := some 113) (v := ?_) (a' := ?_) #[true, true, true, true, true, true, true, false, false, false, false, false, false] rfl rfl (by kernel_rfl) (fun _ _ _ h => h) (Or.inl ⟨by rfl, ?_⟩) ?_ ?_
                rotate_left
                · intro w'
                  go_simp
                  with_reducible rfl
                rotate_left
                · simp only [Act.put, List.setIfInBounds_toArray, List.set_cons_zero, List.set_cons_succ, i64_w, i32_w]
                  rfl
                refine pure_ (i := 7) (N := some 114) (v := ?_) (a' := ?_) #[true, true, true, true, true, true, true, true, false, false, false, false, false] rfl rfl (by kernel_rfl) (fun _ _ _ h => h) (Or.inl ⟨by rfl, ?_⟩) ?_ ?_
                rotate_left
                · intro w'
                  go_simp
                  with_reducible rfl
                rotate_left
                · simp only [Act.put, List.setIfInBounds_toArray, List.set_cons_zero, List.set_cons_succ, i64_w, i32_w]
                  rfl
                refine pure_ (i := 8) (N := some 115) (v := ?_) (a' := ?_) #[true, true, true, true, true, true, true, true, true, false, false, false, false] rfl rfl (by kernel_rfl) (fun _ _ _ h => h) (Or.inl ⟨by rfl, ?_⟩) ?_ ?_
                rotate_left
                · intro w'
                  go_simp
                  with_reducible rfl
                rotate_left
                · simp only [Act.put, List.setIfInBounds_toArray, List.set_cons_zero, List.set_cons_succ, i64_w, i32_w]
                  rfl
                refine pure_ (i := 9) (N := some 116) (v := ?_) (a' := ?_) #[true, true, true, true, true, true, true, true, true, true, false, false, false] rfl rfl (by kernel_rfl) (fun _ _ _ h => h) (Or.inl ⟨by rfl, ?_⟩) ?_ ?_
                rotate_left
                · intro w'
                  go_simp
                  with_reducible rfl
                rotate_left
                · simp only [Act.put, List.setIfInBounds_toArray, List.set_cons_zero, List.set_cons_succ, i64_w, i32_w]
                  rfl
                refine take_ (i := 10) (N := some 117) (v := ?_) (a' := ?_) #[true, true, true, true, true, true, true, true, true, true, true, false, false] rfl rfl (by kernel_rfl) (fun _ _ _ h => h) (Or.inl ⟨by rfl, ?_⟩) hHeld ?_ ?_
                rotate_left
                · intro w' hS
                  have z0 := hS.2.1
                  go_simp
                  with_reducible rfl
                rotate_left
                · simp only [Act.put, List.setIfInBounds_toArray, List.set_cons_zero, List.set_cons_succ, i64_w, i32_w]
                  rfl
                refine one_ (i := 11) (N := some 118) #[true, true, true, true, true, true, true, true, true, true, true, true, false] rfl rfl (by kernel_rfl) (by decide) (fun K hK => ?_)
                refine goes_ Try.func32 (by kernel_rfl) rfl #[.pointer (some ⟨p, 0, none⟩), .int .i64 (41 + (xn : Int)), .string ei] (by rfl) rfl rfl (by (try simp only [List.map_toArray, List.map_cons, List.map_nil]); first | done | rfl) ?_
                refine (HWR.out).mono ?_
                rintro e w13 ⟨rfl, hd, hf⟩
                refine ⟨_, rfl, ?_⟩
                have HD := Lib.hid hd
                have HF := Lib.hid hf
                clear hd hf
                refine hK.out _ _ ⟨(HLQ.out.keep (HO12.out.step hqw HG.out.1 HG.out.2.1 HG.out.2.2 HD.out HF.out (write_late' HWT.out)).fr HQF.out).cell0, cellS (HF.out.part HO12.out.row HG.out.2.2) HLI.out, HF.out.at HX12.out HGX1.out⟩ (fun hHeld => ?_)
                clear hK K
                refine norm_ (a' := ?_) ?_ ?_
                rotate_left
                · show Act.put _ (some 118) _ = _
                  simp only [Act.put, List.setIfInBounds_toArray, List.set_cons_zero, List.set_cons_succ, i64_w, i32_w]
                  rfl
                refine pure_ (i := 12) (N := some 5) (v := ?_) (a' := ?_) #[true, true, true, true, true, true, true, true, true, true, true, true, true] rfl rfl (by kernel_rfl) (fun _ _ _ h => h) (Or.inl ⟨by rfl, ?_⟩) ?_ ?_
                rotate_left
                · intro w'
                  go_simp
                  with_reducible rfl
                rotate_left
                · simp only [Act.put, List.setIfInBounds_toArray, List.set_cons_zero, List.set_cons_succ, i64_w, i32_w]
                  rfl
                refine done_ (by kernel_rfl) ?_
                have HO13 := Lib.hid (HO12.out.step hqw HG.out.1 HG.out.2.1 HG.out.2.2 HD.out HF.out (write_late' HWT.out))
                have HRT := Lib.hid (show R = andThen (ew, dw) (U (i + 1)) by rw [HRX.out, HHX.out, HEI.out, HWT.out])
                clear HD HF HWT HG HO12 HRX HO6 HX6 HX12
                by_cases he0 : ew = 0
                · subst he0
                  have HRY := Lib.hid (show R = U (i + 1) dw by rw [HRT.out, andThen_ok])
                  clear HRT
                  go_wp2
                  go_roundw
                  case rel => exact ⟨i + 1, by omega, by first | rfl | go_num, dw, HO13, HRY⟩
                  case measure => simp [intOf]; omega
                · have he0' : (ew = 0) = False := eq_false he0
                  have HRY := Lib.hid (show R = (ew, dw) by rw [HRT.out, andThen_no he0])
                  have hrr := HRR.out.2 _ _ HRY.out he0
                  subst hrr
                  clear HRT HRY HRR
                  obtain ⟨x0, y0, x1, y1, x2, y2⟩ := blk3 (HLQ.out.keep HO13.out.fr HQF.out).1
                  go_wp2
                  go_step3
                  refine And.intro rfl ?_
                  show Code.wp _ _ _ _ _
                  go_wp2
                  try rw [Exit.noGoto_ret]
                  go_ret
                  exact HO13.out.died HLQ.out HQF.out
              · have hil' : ((i : Int) < (b.length : Int)) = False := eq_false (by omega)
                obtain rfl : i = b.length := by omega
                have HRX6 := Lib.hid (show R = andThen d'.barrier (fun d => (0, d)) by rw [HRX.out, HP.out.hend]; unfold andThen; split; exact Prod.ext (by assumption) rfl; rfl)
                clear HRX
                obtain ⟨G, hg1, hg2, hg3, hg4⟩ := HO.out.dev
                have HG := Lib.hid (And.intro hg2 (And.intro hg3 hg4))
                have HBA := Lib.hid (barrier_any hg1)
                obtain ⟨⟨ew, d3⟩, hdw⟩ : ∃ r, d'.barrier = r := ⟨_, rfl⟩
                rw [hdw] at HBA
                have HBT := Lib.hid hdw
                clear hdw hg1 hg2 hg3 hg4
                obtain ⟨x0, y0, x1, y1, x2, y2⟩ := blk3 (HLQ.out.keep HO.out.fr HQF.out).1
                go_wp2_with fail
                refine HBA.out.mono ?_
                rintro e w9 ⟨rfl, hd, hf⟩
                have HO9 := Lib.hid (HO.out.step hqw HG.out.1 HG.out.2.1 HG.out.2.2 hd hf (barrier_late HBT.out))
                have HRT := Lib.hid (show R = andThen (ew, d3) (fun d => (0, d)) by rw [HRX6.out, HBT.out])
                clear hd hf HG HBA HBT HRX6 x0 y0 x1 y1 x2 y2
                by_cases he0 : ew = 0
                · subst he0
                  have HRX7 := Lib.hid (show R = (fun d => ((0 : Int), d)) d3 by rw [HRT.out, andThen_ok])
                  clear HRT
                  have hrr := HRR.out.1 _ HRX7.out
                  subst hrr
                  clear HRX7 HRR
                  obtain ⟨x0, y0, x1, y1, x2, y2⟩ := blk3 (HLQ.out.keep HO9.out.fr HQF.out).1
                  go_wp2
                  try rw [jump_ret]
                  try rw [Exit.noGoto_ret]
                  go_ret
                  exact HO9.out.done HLQ.out HQF.out hlast
                · have he0' : (ew = 0) = False := eq_false he0
                  have HRY := Lib.hid (show R = (ew, d3) by rw [HRT.out, andThen_no he0])
                  have hrr := HRR.out.2 _ _ HRY.out he0
                  subst hrr
                  clear HRT HRY HRR
                  obtain ⟨x0, y0, x1, y1, x2, y2⟩ := blk3 (HLQ.out.keep HO9.out.fr HQF.out).1
                  go_wp2
                  go_step3
                  refine And.intro rfl ?_
                  show Code.wp _ _ _ _ _
                  go_wp2
                  try rw [Exit.noGoto_ret]
                  go_ret
                  exact HO9.out.died HLQ.out HQF.out
          · have he0' : (ew = 0) = False := eq_false he0
            have HRY := Lib.hid (show R = (ew, d2) by rw [HRT.out, andThen_no he0])
            have hrr := HRR.out.2 _ _ HRY.out he0
            subst hrr
            clear HRT HRY HRR
            obtain ⟨x0, y0, x1, y1, x2, y2⟩ := blk3 (HLQ.out.keep HO7.out.fr HQF.out).1
            go_wp2
            go_step3
            refine And.intro rfl ?_
            show Code.wp _ _ _ _ _
            go_wp2
            try rw [Exit.noGoto_ret]
            go_ret
            exact HO7.out.died HLQ.out HQF.out
        · have he0' : (ew = 0) = False := eq_false he0
          have HRY := Lib.hid (show R = (ew, dw) by rw [HRT.out, andThen_no he0])
          have hrr := HRR.out.2 _ _ HRY.out he0
          subst hrr
          clear HRT HRY HRR
          obtain ⟨x0, y0, x1, y1, x2, y2⟩ := blk3 (HLQ.out.keep HO6.out.fr HQF.out).1
          go_wp2
          go_step3
          refine And.intro rfl ?_
          show Code.wp _ _ _ _ _
          go_wp2
          try rw [Exit.noGoto_ret]
          go_ret
          exact HO6.out.died HLQ.out HQF.out
      · have he0' : (ew = 0) = False := eq_false he0
        have HRY := Lib.hid (show R = (ew, d1) by rw [HRT.out, andThen_no he0])
        have hrr := HRR.out.2 _ _ HRY.out he0
        subst hrr
        clear HRT HRY HRR
        obtain ⟨x0, y0, x1, y1, x2, y2⟩ := blk3 (HLQ.out.keep HO1.out.fr HQF.out).1
        go_wp2
        go_step3
        refine And.intro rfl ?_
        show Code.wp _ _ _ _ _
        go_wp2
        try rw [Exit.noGoto_ret]
        go_ret
        exact HO1.out.died HLQ.out HQF.out
end Go.Proofs.Ytmdojgkgohmghaa.Wal
