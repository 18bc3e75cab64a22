/- What is handed in is neither changed nor kept, and answers are new memory: the call returns true whatever the input. No condition. -/
import Derived.Test.YtkcacfnefhakbaaHoldAny
import Derived.Test.YtkcacfnefhakbaaHoldOpen
import Derived.Test.YtkcacfnefhakbaaP12x6
import Derived.Test.YtkcacfnefhakbaaP12x1
namespace Go.Proofs.Ytkcacfnefhakbaa.holdKeeps
open Go.RowKit Go.Shelf Go.Blk Go.Sees Go.Proofs.Ytkcacfnefhakbaa.HoldL Go.Proofs.Ytkcacfnefhakbaa.P12 Go.Proofs.Ytkcacfnefhakbaa.Opens Go.Proofs.YtkcacfnefhakbaaW.PrintWords Go.Proofs.YtkcacfnefhakbaaW.PrintLast Go.Proofs.YtkcacfnefhakbaaW.PrintMore
set_option linter.unusedVariables false
set_option linter.unusedSimpArgs false

theorem same_loop (f e u c : Int) (fc g : Bool) (l : List S40) (hl : l.length ≤ 4096) : ∀ (d k i : Nat), l.length - i ≤ d → d < k → lamellaref12_Same.l0 k i f e u c fc g l f e u c fc g l = some true := by
  intro d
  induction d with
  | zero =>
    intro k i hd hk
    obtain ⟨k, rfl⟩ : ∃ m, k = m + 1 := ⟨k - 1, by omega⟩
    simp only [lamellaref12_Same.l0]
    rw [if_neg (by omega)]
  | succ d ih =>
    intro k i hd hk
    obtain ⟨k, rfl⟩ : ∃ m, k = m + 1 := ⟨k - 1, by omega⟩
    simp only [lamellaref12_Same.l0]
    by_cases hlt : i < l.length
    · rw [if_pos (by omega), if_pos (by omega), if_pos (by omega), if_neg (by simp), show wrap64 ((i : Int) + 1) = ((i + 1 : Nat) : Int) by rw [w64 _ (by omega)]; omega]
      exact ih k (i + 1) (by omega) (by omega)
    · rw [if_neg (by omega)]
theorem same_f (f e u c : Int) (fc g : Bool) (l : List S40) (hl : l.length ≤ 4096) (k : Nat) (hk : 4200 ≤ k) : lamellaref12_Same.f k f e u c fc g l f e u c fc g l = some true := by
  obtain ⟨k, rfl⟩ : ∃ m, k = m + 1 := ⟨k - 1, by omega⟩
  unfold lamellaref12_Same.f
  simp only [if_true, bne_self_eq_false, Bool.false_eq_true, if_false]
  simp only [lamellaref12_Same.j0, Bool.false_eq_true, if_false]
  exact same_loop f e u c fc g l hl 4096 k 0 (by omega) (by omega)
theorem inf25 : (Try.prog.info? 25).map (fun i => (i.zero, i.size, i.bytes)) = some (some (.agg zlock), 7, 48) := by kernel_rfl
theorem row_one25 {W : World} {g base : Nat} {okp : Nat → Prop} {y : S25} {v : Value} (h : W.heap[g]? = some (.cells (lockX y v) 25 (0, 0))) (hR : Kd.R k40 40 W base okp v y.f6) : ReadsRow (k25.M W base okp) 7 W (some ⟨g, 0, none⟩) 1 [y] := by
  refine ⟨rfl, by decide, fun _ => ⟨_, rfl, fun j p hj => ?_⟩⟩
  match j, hj with
  | 0, hj =>
    obtain rfl : y = p := by simpa using hj
    refine ⟨[.int .u32 y.f0, .int .u32 y.f1, .int .u32 y.f2, .int .u32 y.f3, .bool y.f4, .bool y.f5, v], rfl, k25_mkM W base okp y hR, fun i u hi => ?_⟩
    have c := cell_at h i
    have e : (⟨g, 0, none⟩ : Addr).add (0 * 7 + i) = ⟨g, i, none⟩ := by rw [Addr.add_lit]; simp
    rw [e, c, ← Array.getElem?_toList]
    exact hi
theorem R_new {W : World} {base : Nat} {v s : Value} {l : List S40} (h : Kd.R k40 40 W base (fun _ => True) v l) (hs : ∀ k, s.ownBlock = some k → k < base) : Kd.R k40 40 W base (fun k => some k ≠ s.ownBlock) v l :=
  Kd.R_mono (Kd.R_bound h) (fun k hk => by
    intro e
    have := hs k e.symm
    have := hk.2.1
    omega)
theorem R_set {W : World} {base b o : Nat} {ok : Nat → Prop} {v : Value} {l : List S40} (h : Kd.R k40 40 W base ok v l) (hb : b < base) (u : Value) : Kd.R k40 40 (W.setCell ⟨b, o, none⟩ u) base ok v l :=
  Kd.R_mono (Kd.R_far (Kd.R_bound h) (p := ⟨b, o, none⟩) (fun k hk => by have := hk.2.1; show k ≠ b; omega) u) (fun _ hk => hk.1)

theorem kept {w w1 : World} {p : Addr} {v : Value} (hb : Below w.heap.size w w1) (h : w.cell? p = some v) : w1.cell? p = some v := (hb.cell (World.block_lt_of_cell? w _ h)).trans h
/-- two locks' cells, and what lay there -/
abbrev Two (W : World) (p0 p1 p2 p3 p4 p5 p6 q0 q1 q2 q3 q4 q5 q6 : Addr) (y : S25) (a b : Value) (w' : World) : Prop :=
  (w'.cell? p0 = some (.int .u32 y.f0) ∧ w'.cell? p1 = some (.int .u32 y.f1) ∧ w'.cell? p2 = some (.int .u32 y.f2) ∧ w'.cell? p3 = some (.int .u32 y.f3) ∧ w'.cell? p4 = some (.bool y.f4) ∧ w'.cell? p5 = some (.bool y.f5) ∧ w'.cell? p6 = some a) ∧
  (w'.cell? q0 = some (.int .u32 y.f0) ∧ w'.cell? q1 = some (.int .u32 y.f1) ∧ w'.cell? q2 = some (.int .u32 y.f2) ∧ w'.cell? q3 = some (.int .u32 y.f3) ∧ w'.cell? q4 = some (.bool y.f4) ∧ w'.cell? q5 = some (.bool y.f5) ∧ w'.cell? q6 = some b) ∧ Below W.heap.size W w'
theorem Two.keep {W w w1 : World} {p0 p1 p2 p3 p4 p5 p6 q0 q1 q2 q3 q4 q5 q6 : Addr} {y : S25} {a b : Value} (h : Two W p0 p1 p2 p3 p4 p5 p6 q0 q1 q2 q3 q4 q5 q6 y a b w) (hb : Below w.heap.size w w1) : Two W p0 p1 p2 p3 p4 p5 p6 q0 q1 q2 q3 q4 q5 q6 y a b w1 := by
  obtain ⟨⟨a0, a1, a2, a3, a4, a5, a6⟩, ⟨b0, b1, b2, b3, b4, b5, b6⟩, hB⟩ := h
  exact ⟨⟨kept hb a0, kept hb a1, kept hb a2, kept hb a3, kept hb a4, kept hb a5, kept hb a6⟩, ⟨kept hb b0, kept hb b1, kept hb b2, kept hb b3, kept hb b4, kept hb b5, kept hb b6⟩, hB.trans (hb.mono hB.size)⟩

attribute [local go_sem high] eqA40
set_option maxRecDepth 100000 in
set_option maxHeartbeats 8000000 in
theorem keeps_calls (f e u c : Int) (fc g : Bool) (A0 : Option Addr) (c0 : Nat) (l : List S40) (cl m sz : Int) (w : World) (hr0 : Kd.C k40 w A0 l.length l) (hc0 : l.length ≤ c0) (hl : l.length ≤ 100) (hN : ∀ x ∈ l, Nn x) (hcl : 0 ≤ cl ∧ cl ≤ 4294967295) :
    Calls Try.prog 6 #[.agg (lockA f e u c fc g (.slice A0 l.length c0)), .int .u32 cl, .int .u32 m, .int .u32 sz] w fun ex w' => ex = .returned (.bool true) ∧ Below w.heap.size w w' := by
  obtain ⟨xa, na, ka, hla, hA⟩ := ask_any f e u c fc g l cl m hl hN hcl
  obtain ⟨xb, nb, hlb, hB⟩ := return_any f e u c fc g l cl hl
  obtain ⟨xc, nc, hlc, hC⟩ := settle_any f e u c fc g l sz hl
  obtain ⟨xd, nd, hld, hD⟩ := shrink_any f e u c fc g l sz hl
  have HLA := Lib.hid hla
  have HLB := Lib.hid hlb
  have HLC := Lib.hid hlc
  have HLD := Lib.hid hld
  have HASK := Lib.hid hA
  have HRET := Lib.hid hB
  have HSET := Lib.hid hC
  have HSHR := Lib.hid hD
  clear hla hlb hlc hld hA hB hC hD
  have HR := Lib.hid hr0
  have HC0 := Lib.hid hc0
  have HL := Lib.hid hl
  have BX := Lib.hid (alloc_at w (.cells (lockA f e u c fc g (.slice A0 l.length c0)) 25))
  have hgt : decide ((l.length : Int) > 100) = false := decide_eq_false (by omega)
  have hgt' : decide ((100 : Int) < (l.length : Int)) = false := decide_eq_false (by omega)
  have hgt2 : decide (100 < l.length) = false := decide_eq_false (by omega)
  have hw3 : IntKind.i64.wrap ((l.length : Int) + 3) = l.length + 3 := IntWalk.i64_in _ (by omega)
  have hmk : ∀ W, (Instr.makeSlice 23 (.int .i64 (l.length : Int)) (.int .i64 ((l.length : Int) + 3))).run Try.prog W = .ok (.slice (some ⟨W.heap.size, 0, none⟩) l.length (l.length + 3)) (W.alloc (.cells (madeCells zrow ((l.length + 3) * 2)) 40)) := make_run l hl
  clear hr0 hc0 hl hN hcl
  go_enter Try.func6, Try.ntmps6
  go_wp2_with fail
  go_at_call 8
  refine (alive_calls _).mono ?_
  rintro ex w1 ⟨rfl, hb⟩
  have HB1 := Lib.hid ((boxed w (.cells (lockA f e u c fc g (.slice A0 l.length c0)) 25)).trans (hb.mono (by simp)))
  have BX1 := Lib.hid (below_old BX.out hb)
  have hlt1 := lt_of BX1.out
  have hn1 : ¬ w.heap.size = w1.heap.size := by omega
  have hn2 : ¬ w1.heap.size = w.heap.size := by omega
  have hx := fun o1 o2 => blk7 (alloc_old (alloc_old BX1.out o1) o2)
  have hx1 := fun o1 => blk7 (alloc_old BX1.out o1)
  have hx0 := blk7 BX1.out
  clear hb
  go_wp2_with ((with_reducible refine gate_builtin (b := .copy) (xs := #[.tmp 45, .tmp 47]) rfl ?_); refine stop_here ?_)
  refine Lib.hid ?_
  have hs1 : (w1.alloc (.cells (lockA f e u c fc g (.slice (some ⟨w1.heap.size + 1, 0, none⟩) l.length (l.length + 3))) 25)).heap.size = w1.heap.size + 1 := by simp
  have hbr : ((w1.alloc (.cells (lockA f e u c fc g (.slice (some ⟨w1.heap.size + 1, 0, none⟩) l.length (l.length + 3))) 25)).alloc (.cells (madeCells zrow ((l.length + 3) * 2)) 40)).heap[w1.heap.size + 1]? = some (.cells (madeCells zrow ((l.length + 3) * 2)) 40 (0, 0)) := by have := alloc_at (w1.alloc (.cells (lockA f e u c fc g (.slice (some ⟨w1.heap.size + 1, 0, none⟩) l.length (l.length + 3))) 25)) (.cells (madeCells zrow ((l.length + 3) * 2)) 40); rwa [hs1] at this
  have b15 : Below w1.heap.size w1 ((w1.alloc (.cells (lockA f e u c fc g (.slice (some ⟨w1.heap.size + 1, 0, none⟩) l.length (l.length + 3))) 25)).alloc (.cells (madeCells zrow ((l.length + 3) * 2)) 40)) := by have h1 := boxed w1 (.cells (lockA f e u c fc g (.slice (some ⟨w1.heap.size + 1, 0, none⟩) l.length (l.length + 3))) 25); exact h1.alloc h1.size _
  have hcp := run_copy40 ((w1.alloc (.cells (lockA f e u c fc g (.slice (some ⟨w1.heap.size + 1, 0, none⟩) l.length (l.length + 3))) 25)).alloc (.cells (madeCells zrow ((l.length + 3) * 2)) 40)) 3 (w1.heap.size + 1) (l.length + 3) A0 c0 l _ hbr (by rw [size_madeCells]; omega) (Kd.C_below HR.out (HB1.out.trans (b15.mono HB1.out.size)))
  have hroom := room_R ((w1.alloc (.cells (lockA f e u c fc g (.slice (some ⟨w1.heap.size + 1, 0, none⟩) l.length (l.length + 3))) 25)).alloc (.cells (madeCells zrow ((l.length + 3) * 2)) 40)) (w1.heap.size + 1) l hbr HL.out
  have hbp := below_past (Nat.le_refl (w1.heap.size + 1)) (F40 l) _ 0 (Below.refl (w1.heap.size + 1) ((w1.alloc (.cells (lockA f e u c fc g (.slice (some ⟨w1.heap.size + 1, 0, none⟩) l.length (l.length + 3))) 25)).alloc (.cells (madeCells zrow ((l.length + 3) * 2)) 40)))
  have hlr : ((w1.alloc (.cells (lockA f e u c fc g (.slice (some ⟨w1.heap.size + 1, 0, none⟩) l.length (l.length + 3))) 25)).alloc (.cells (madeCells zrow ((l.length + 3) * 2)) 40)).heap[w1.heap.size]? = some (.cells (lockA f e u c fc g (.slice (some ⟨w1.heap.size + 1, 0, none⟩) l.length (l.length + 3))) 25 (0, 0)) := alloc_old (alloc_at w1 _) _
  have hxx := alloc_old (alloc_old BX1.out (.cells (lockA f e u c fc g (.slice (some ⟨w1.heap.size + 1, 0, none⟩) l.length (l.length + 3))) 25)) (.cells (madeCells zrow ((l.length + 3) * 2)) 40)
  generalize hw5 : ((w1.alloc (.cells (lockA f e u c fc g (.slice (some ⟨w1.heap.size + 1, 0, none⟩) l.length (l.length + 3))) 25)).alloc (.cells (madeCells zrow ((l.length + 3) * 2)) 40)) = w5 at hcp hroom hbp hbr b15 hlr hxx ⊢
  generalize hw6 : w5.setCells (w1.heap.size + 1) 0 (F40 l) = w6 at hcp hroom hbp
  have HRM6 := Lib.hid hroom
  have BR6 := Lib.hid (below_old' hlr (by omega) hbp)
  have BX6 := Lib.hid (below_old' hxx (by omega) hbp)
  have HB6 := Lib.hid (HB1.out.trans ((b15.trans (hbp.mono (by omega))).mono HB1.out.size))
  have HS6 := Lib.hid (show w1.heap.size + 1 + 1 ≤ w6.heap.size from lt_of_own hroom)
  clear hx hx0 hx1 hroom hbp hbr b15 hlr hxx hw6 hs1
  have hx := blk7 BR6.out
  have hx2 := blk7 BX6.out
  have hx5 := blk7 (show w5.heap[w.heap.size]? = _ from by rw [← hw5]; exact alloc_old (alloc_old BX1.out _) _)
  clear hx5 hw5
  go_wp2_with fail
  go_at_call 17
  refine (HASK.out _ _ _ (room_C HRM6.out) (by omega)).mono ?_
  rintro ex w7 ⟨va, rfl, ho, hb⟩
  obtain ⟨Aa, ca, rfl⟩ := Kd.R_slice ho
  have up := boxed w7 (.cells (lockX xa (.slice Aa xa.f6.length ca)) 25)
  have Ra7 := Lib.hid (Kd.R_below (Kd.R_lower ho HS6.out) up)
  have Ba7 := Lib.hid (alloc_at w7 (.cells (lockX xa (.slice Aa xa.f6.length ca)) 25))
  have HRM7 := Lib.hid (Kd.R_below (Kd.R_below HRM6.out hb) up)
  have BR7 := Lib.hid (below_old (below_old BR6.out hb) up)
  have BX7 := Lib.hid (below_old (below_old BX6.out hb) up)
  have HB7 := Lib.hid ((HB6.out.trans (hb.mono HB6.out.size)).trans (up.mono (Nat.le_trans HB6.out.size hb.size)))
  have HS7 := Lib.hid (Nat.le_trans HS6.out (Nat.le_trans hb.size up.size))
  clear ho hb hx hx2 up hcp
  have hx := blk7 BR7.out
  have hx2 := blk7 BX7.out
  have hxa := blk7 Ba7.out
  go_wp2_with fail
  go_at_call 19
  refine (HRET.out _ _ _ (room_C HRM7.out) (by omega)).mono ?_
  rintro ex w8 ⟨vb, rfl, ho, hb⟩
  obtain ⟨Ab, cb, rfl⟩ := Kd.R_slice ho
  have up := boxed w8 (.cells (lockX xb (.slice Ab xb.f6.length cb)) 25)
  have Rb8 := Lib.hid (Kd.R_below (Kd.R_lower ho HS7.out) up)
  have Ra8 := Lib.hid (Kd.R_below (Kd.R_below Ra7.out hb) up)
  have Ba8 := Lib.hid (below_old (below_old Ba7.out hb) up)
  have Bb8 := Lib.hid (alloc_at w8 (.cells (lockX xb (.slice Ab xb.f6.length cb)) 25))
  have HRM8 := Lib.hid (Kd.R_below (Kd.R_below HRM7.out hb) up)
  have BR8 := Lib.hid (below_old (below_old BR7.out hb) up)
  have BX8 := Lib.hid (below_old (below_old BX7.out hb) up)
  have HB8 := Lib.hid ((HB7.out.trans (hb.mono HB7.out.size)).trans (up.mono (Nat.le_trans HB7.out.size hb.size)))
  have HS8 := Lib.hid (Nat.le_trans HS7.out (Nat.le_trans hb.size up.size))
  clear ho hb hx hx2 up hxa
  have hx := blk7 BR8.out
  have hx2 := blk7 BX8.out
  have hxa := blk7 Ba8.out
  have hxb := blk7 Bb8.out
  go_wp2_with fail
  go_at_call 20
  refine (HSET.out _ _ _ (room_C HRM8.out) (by omega)).mono ?_
  rintro ex w9 ⟨vc, rfl, ho, hb⟩
  obtain ⟨Ac, cc, rfl⟩ := Kd.R_slice ho
  have up := boxed w9 (.cells (lockX xc (.slice Ac xc.f6.length cc)) 25)
  have Rc9 := Lib.hid (Kd.R_below (Kd.R_lower ho HS8.out) up)
  have Ra9 := Lib.hid (Kd.R_below (Kd.R_below Ra8.out hb) up)
  have Ba9 := Lib.hid (below_old (below_old Ba8.out hb) up)
  have Rb9 := Lib.hid (Kd.R_below (Kd.R_below Rb8.out hb) up)
  have Bb9 := Lib.hid (below_old (below_old Bb8.out hb) up)
  have Bc9 := Lib.hid (alloc_at w9 (.cells (lockX xc (.slice Ac xc.f6.length cc)) 25))
  have HRM9 := Lib.hid (Kd.R_below (Kd.R_below HRM8.out hb) up)
  have BR9 := Lib.hid (below_old (below_old BR8.out hb) up)
  have BX9 := Lib.hid (below_old (below_old BX8.out hb) up)
  have HB9 := Lib.hid ((HB8.out.trans (hb.mono HB8.out.size)).trans (up.mono (Nat.le_trans HB8.out.size hb.size)))
  have HS9 := Lib.hid (Nat.le_trans HS8.out (Nat.le_trans hb.size up.size))
  clear ho hb hx hx2 up hxa hxb
  have hx := blk7 BR9.out
  have hx2 := blk7 BX9.out
  have hxa := blk7 Ba9.out
  have hxb := blk7 Bb9.out
  have hxc := blk7 Bc9.out
  go_wp2_with fail
  go_at_call 21
  refine (HSHR.out _ _ _ (room_C HRM9.out) (by omega)).mono ?_
  rintro ex w10 ⟨vd, rfl, ho, hb⟩
  obtain ⟨Ad, cd, rfl⟩ := Kd.R_slice ho
  have up := boxed w10 (.cells (lockX xd (.slice Ad xd.f6.length cd)) 25)
  have Rd10 := Lib.hid (Kd.R_below (Kd.R_lower ho HS9.out) up)
  have Ra10 := Lib.hid (Kd.R_below (Kd.R_below Ra9.out hb) up)
  have Ba10 := Lib.hid (below_old (below_old Ba9.out hb) up)
  have Rb10 := Lib.hid (Kd.R_below (Kd.R_below Rb9.out hb) up)
  have Bb10 := Lib.hid (below_old (below_old Bb9.out hb) up)
  have Rc10 := Lib.hid (Kd.R_below (Kd.R_below Rc9.out hb) up)
  have Bc10 := Lib.hid (below_old (below_old Bc9.out hb) up)
  have Bd10 := Lib.hid (alloc_at w10 (.cells (lockX xd (.slice Ad xd.f6.length cd)) 25))
  have HRM10 := Lib.hid (Kd.R_below (Kd.R_below HRM9.out hb) up)
  have BR10 := Lib.hid (below_old (below_old BR9.out hb) up)
  have BX10 := Lib.hid (below_old (below_old BX9.out hb) up)
  have HB10 := Lib.hid ((HB9.out.trans (hb.mono HB9.out.size)).trans (up.mono (Nat.le_trans HB9.out.size hb.size)))
  have HS10 := Lib.hid (Nat.le_trans HS9.out (Nat.le_trans hb.size up.size))
  clear ho hb hx hx2 up hxa hxb hxc
  have hx := blk7 BR10.out
  have hx2 := blk7 BX10.out
  have hxa := blk7 Ba10.out
  have hxb := blk7 Bb10.out
  have hxc := blk7 Bc10.out
  have hxd := blk7 Bd10.out
  go_wp2_with fail
  have hs10 : (w10.alloc (.cells (lockX xd (.slice Ad xd.f6.length cd)) 25)).heap.size = w10.heap.size + 1 := by simp
  have hall := all_R xa xb xc xd Ra10.out Rb10.out Rc10.out Rd10.out HS10.out
  have up := boxed (w10.alloc (.cells (lockX xd (.slice Ad xd.f6.length cd)) 25)) (.cells #[.int .u32 xa.f0, .int .u32 xa.f1, .int .u32 xa.f2, .int .u32 xa.f3, .bool xa.f4, .bool xa.f5, .slice Aa xa.f6.length ca, .int .u32 xb.f0, .int .u32 xb.f1, .int .u32 xb.f2, .int .u32 xb.f3, .bool xb.f4, .bool xb.f5, .slice Ab xb.f6.length cb, .int .u32 xc.f0, .int .u32 xc.f1, .int .u32 xc.f2, .int .u32 xc.f3, .bool xc.f4, .bool xc.f5, .slice Ac xc.f6.length cc, .int .u32 xd.f0, .int .u32 xd.f1, .int .u32 xd.f2, .int .u32 xd.f3, .bool xd.f4, .bool xd.f5, .slice Ad xd.f6.length cd] 25)
  have hrm := Kd.R_below HRM10.out up
  have hbr := below_old BR10.out up
  have hbx := below_old BX10.out up
  have hbw := HB10.out.trans (up.mono HB10.out.size)
  have hs11 := Nat.le_trans HS10.out up.size
  rw [hs10] at hall
  generalize hw11 : ((w10.alloc (.cells (lockX xd (.slice Ad xd.f6.length cd)) 25)).alloc (.cells #[.int .u32 xa.f0, .int .u32 xa.f1, .int .u32 xa.f2, .int .u32 xa.f3, .bool xa.f4, .bool xa.f5, .slice Aa xa.f6.length ca, .int .u32 xb.f0, .int .u32 xb.f1, .int .u32 xb.f2, .int .u32 xb.f3, .bool xb.f4, .bool xb.f5, .slice Ab xb.f6.length cb, .int .u32 xc.f0, .int .u32 xc.f1, .int .u32 xc.f2, .int .u32 xc.f3, .bool xc.f4, .bool xc.f5, .slice Ac xc.f6.length cc, .int .u32 xd.f0, .int .u32 xd.f1, .int .u32 xd.f2, .int .u32 xd.f3, .bool xd.f4, .bool xd.f5, .slice Ad xd.f6.length cd] 25)) = w11 at hall hrm hbr hbx hbw hs11 ⊢
  have ALL := Lib.hid hall
  have HRM11 := Lib.hid hrm
  have BR11 := Lib.hid hbr
  have BX11 := Lib.hid hbx
  have HB11 := Lib.hid hbw
  have HS11 := Lib.hid hs11
  clear hs11 hw11 hall hrm hbr hbx hbw up hs10 hx hx2 hxa hxb hxc hxd
  obtain ⟨L4, hL4⟩ : ∃ L4, [xa, xb, xc, xd] = L4 := ⟨_, rfl⟩
  have HL4n := Lib.hid (show L4.length = 4 by rw [← hL4]; rfl)
  have HL4 := Lib.hid (show ∀ x ∈ L4, x.f6.length ≤ 101 by
    intro x hx
    rw [← hL4] at hx
    simp only [List.mem_cons, List.not_mem_nil, or_false] at hx
    rcases hx with rfl | rfl | rfl | rfl
    · exact HLA.out
    · exact HLB.out
    · exact HLC.out
    · exact HLD.out)
  rw [hL4] at ALL
  clear hL4
  go_loopg [20, 21] 4 (fun gg s20 s21 wr => ∃ i : Nat, s21 = .int .i64 i ∧ i ≤ 4 ∧ 4 - i ≤ gg ∧ Hid (Kd.R k25 25 wr w11.heap.size (fun _ => True) s20 (L4.take i)) ∧ Hid (Below w11.heap.size w11 wr))
  case atStart => exact ⟨0, by simp, by omega, by omega, Lib.hid (Kd.R_nil _ _ _ _ _), Lib.hid (Below.refl _ _)⟩
  case round =>
    obtain ⟨i, rfl, hi, hgg, HM, HBW⟩ := hrel
    by_cases hlt : i < 4
    · have hltz : decide ((i : Int) < 4) = true := decide_eq_true (by omega)
      have hq2 : (0 ≤ (i : Int)) = True := eq_true (by omega)
      have hq3 : ((i : Int) < 4) = True := eq_true (by omega)
      have hw2 : IntKind.i64.wrap ((i : Int) + 1) = i + 1 := IntWalk.i64_in _ (by omega)
      have HAr := Lib.hid (Kd.R_below ALL.out HBW.out)
      obtain ⟨ad, A6, c6, e', h0, h1, h2, h3, h4, h5, h6, hl6, hC6⟩ := at_T25 (Kd.R_reads' HAr.out).2.2 i (by omega) (by have := HL4n.out; omega)
      cases e'
      obtain ⟨y, hy⟩ : ∃ y, rd_T25 L4 i = y := ⟨_, rfl⟩
      have hyi : L4[i]'(by have := HL4n.out; omega) = y := by rw [← hy]; unfold rd_T25; simp [List.getD, show i < L4.length by have := HL4n.out; omega]
      have HYL := Lib.hid (HL4.out y (by rw [← hyi]; exact List.getElem_mem _))
      have HTK := Lib.hid (show L4.take (i + 1) = L4.take i ++ [y] by rw [List.take_succ_eq_append_getElem (by have := HL4n.out; omega), hyi])
      rw [hy] at h0 h1 h2 h3 h4 h5 h6 hl6 hC6
      simp only [Int.toNat_natCast, Addr.add_lit, Nat.zero_add] at h0 h1 h2 h3 h4 h5 h6
      obtain ⟨T, hT⟩ : ∃ T, L4.take i = T := ⟨_, rfl⟩
      rw [hT] at HM HTK
      have HTL := Lib.hid (show T.length ≤ 4 by rw [← hT, List.length_take]; omega)
      clear hT
      obtain ⟨As, cs, rfl⟩ := Kd.R_slice HM.out
      have HC6 := Lib.hid hC6
      have HL6 := Lib.hid hl6
      have h6' := fun o => ((boxed wr o).cell (World.block_lt_of_cell? wr _ h6)).trans h6
      have h6'' := fun o1 o2 => (((boxed wr o1).alloc (boxed wr o1).size o2).cell (World.block_lt_of_cell? wr _ h6)).trans h6
      clear hC6 hl6 hy hyi
      go_wp2_with ((with_reducible refine gate_builtin (b := .append) (xs := #[.tmp 94, .tmp 99]) rfl ?_); refine stop_here ?_)
      refine Lib.hid ?_
      at_builtin
      have hsy : (wr.alloc (.cells (lockX y (.slice A6 y.f6.length c6)) 25)).heap.size = wr.heap.size + 1 := by simp
      have by1 := alloc_at wr (.cells (lockX y (.slice A6 y.f6.length c6)) 25)
      have up1 := boxed wr (.cells (lockX y (.slice A6 y.f6.length c6)) 25)
      generalize hwy : (wr.alloc (.cells (lockX y (.slice A6 y.f6.length c6)) 25)) = wy at hsy by1 up1 ⊢
      refine Kd.R_append_rows k40 (w0 := wy) wy.heap.size rfl (.tmp 94) (.tmp 99) 23 40 (.agg #[(.int .u32 0), (.int .u32 0)]) 8 rfl Try.underlying23 inf40 rfl (by decide) (by omega) (.slice (some ⟨wy.heap.size, 0, none⟩) 0 0) ([] : List S40) y.f6 A6 _ _ (fun _ => True) (fun _ => False) (by rw [hsy]; rfl) rfl ⟨fun _ _ => trivial, [], World.ownsRow_made wy #[] 0 (Nat.le_refl _) (Nat.zero_le _) (by simp), Reps.none _ _⟩ (Kd.C_below (Kd.C_below HC6.out up1) (boxed wy _)) (fun _ _ h => h) (fun _ h => h.elim) (fun _ _ => trivial) (boxed wy _) (boxed wy (.cells #[] 40)).size (by have := HYL.out; simp; omega) ?_
      intro v1 wA ho hb hg hat
      clear hg hat
      rw [List.nil_append] at ho
      obtain ⟨A1, c1, rfl⟩ := Kd.R_slice ho
      have HOA := Lib.hid ho
      have BYA := Lib.hid (below_old by1 hb)
      have HWA := Lib.hid (up1.trans (hb.mono up1.size))
      have HSY := Lib.hid hsy
      clear ho hb hsy by1 up1 hwy h0 h1 h2 h3 h4 h5 h6 h6' h6''
      have hxy := blk7 BYA.out
      go_wp2_with ((with_reducible refine gate_builtin (b := .append) (xs := #[.tmp 102, .tmp 104]) rfl ?_); refine stop_here ?_)
      refine Lib.hid ?_
      at_builtin
      have rB := R_set (o := 6) HOA.out (show wr.heap.size < wy.heap.size by rw [HSY.out]; omega) (.slice A1 y.f6.length c1)
      have bB := HWA.out.setCell (p := ⟨wr.heap.size, 6, none⟩) (Nat.le_refl wr.heap.size) (.slice A1 y.f6.length c1)
      have hsB : (wA.setCell ⟨wr.heap.size, 6, none⟩ (.slice A1 y.f6.length c1)).heap.size = wA.heap.size := by simp
      generalize hwB : (wA.setCell ⟨wr.heap.size, 6, none⟩ (.slice A1 y.f6.length c1)) = wB at rB bB hsB ⊢
      rw [← hsB]
      have hmB := Kd.R_below HM.out bB
      have hb2 := HBW.out.trans (bB.mono HBW.out.size)
      have okR := Kd.R_lower (R_new rB (fun k hk => by have h1 := Kd.R_lt HM.out k hk; have h2 := HSY.out; omega)) (show w11.heap.size ≤ wy.heap.size by have h1 := HBW.out.size; have h2 := HSY.out; omega)
      refine Kd.R_append_rows k25 (Rr := k25.M (wB.alloc (.cells (lockX y (.slice A1 y.f6.length c1)) 25)) w11.heap.size (fun k => some k ≠ (Value.slice As T.length cs).ownBlock)) (w0 := w11) w11.heap.size rfl (.tmp 102) (.tmp 104) 45 25 (.agg zlock) 48 rfl Try.underlying45 inf25 rfl (by decide) (by omega) (.slice As T.length cs) T [y] (some ⟨wB.heap.size, 0, none⟩) 1 1 (fun _ => True) (fun k => some k ≠ (Value.slice As T.length cs).ownBlock) rfl rfl (Kd.R_below hmB (boxed wB _)) (row_one25 (alloc_at wB _) (Kd.R_below okR (boxed wB _))) (fun _ _ h => h) (fun k h => ⟨trivial, h⟩) (fun _ _ => trivial) (hb2.alloc hb2.size _) (Nat.le_trans hb2.size (boxed wB (.cells (lockX y (.slice A1 y.f6.length c1)) 25)).size) (by have := HTL.out; omega) ?_
      intro v2 wD ho hb hg hat
      clear hg hat
      have HOD := Lib.hid ho
      have HBD := Lib.hid hb
      clear ho hb rB bB hsB hwB hmB hb2 okR hxy
      go_wp2
      go_roundg (4 - (i + 1))
      case measure => omega
      case rel => exact ⟨i + 1, by simp, by omega, by omega, Lib.hid (by rw [HTK.out]; exact HOD.out), HBD⟩
    · have hltz : decide ((i : Int) < 4) = false := decide_eq_false (by omega)
      obtain rfl : i = 4 := by omega
      have HM4 := Lib.hid (show Kd.R k25 25 wr w11.heap.size (fun _ => True) _ L4 by have h := HM.out; rwa [List.take_of_length_le (by have := HL4n.out; omega)] at h)
      obtain ⟨As, cs, e4⟩ := Kd.R_slice HM4.out
      rw [HL4n.out] at e4
      subst e4
      have HAr := Lib.hid (Kd.R_below ALL.out HBW.out)
      have HRMr := Lib.hid (Kd.R_below HRM11.out HBW.out)
      have BRr := Lib.hid (below_old BR11.out HBW.out)
      have BXr := Lib.hid (below_old BX11.out HBW.out)
      have HBr := Lib.hid (HB11.out.trans (HBW.out.mono HB11.out.size))
      have hx := blk7 BRr.out
      have hx2 := blk7 BXr.out
      go_wp2_with fail
      go_at_call 11
      refine (lamellaref12_Same.calls 4200 f e u c fc g (some ⟨w1.heap.size + 1, 0, none⟩) (l.length + 3) l f e u c fc g A0 c0 l true wr (room_C HRMr.out) (by omega) (Kd.C_below HR.out HBr.out) HC0.out (same_f f e u c fc g l (by have := HL.out; omega) 4200 (by omega))).mono ?_
      rintro ex wS ⟨rfl, hb⟩
      have HRMS := Lib.hid (Kd.R_below HRMr.out hb)
      have BRS := Lib.hid (below_old BRr.out hb)
      have ALS := Lib.hid (Kd.R_below HAr.out hb)
      have WAS := Lib.hid (Kd.R_below (Kd.R_lower HM4.out HS11.out) hb)
      have HBS := Lib.hid (HBr.out.trans (hb.mono HBr.out.size))
      have HSS := Lib.hid (Nat.le_trans HS11.out (Nat.le_trans HBW.out.size hb.size))
      clear hb hx hx2
      have hx := blk7 BRS.out
      have hq1 : ((l.length : Int) + 3 ≤ (l.length : Int) + 3) = True := eq_true (Int.le_refl _)
      go_wp2_with fail
      go_loopg [24] 3 (fun gg s24 wr2 => ∃ kk : Nat, s24 = .int .i64 kk ∧ l.length ≤ kk ∧ kk ≤ l.length + 3 ∧ l.length + 3 - kk ≤ gg ∧ Hid (Below wS.heap.size wS wr2))
      case atStart => exact ⟨l.length, by simp, Nat.le_refl _, by omega, by omega, Lib.hid (Below.refl _ _)⟩
      case round =>
        obtain ⟨kk, rfl, hk1, hk2, hgg2, HBK⟩ := hrel
        have HMW := Lib.hid (Kd.R_below HRMS.out HBK.out)
        by_cases hlt2 : kk < l.length + 3
        · have hltz2 : decide ((kk : Int) < (l.length : Int) + 3) = true := decide_eq_true (by omega)
          obtain ⟨ad, e', h0, h1⟩ := at_T40 (Kd.R_reads' HMW.out).2.2 kk (by omega) (by simp; omega)
          cases e'
          rw [room_z l kk hk1] at h0 h1
          simp only [Int.toNat_natCast, Addr.add_lit, Nat.zero_add] at h0 h1
          have hq2 : (0 ≤ (kk : Int)) = True := eq_true (by omega)
          have hq3 : ((kk : Int) < (l.length : Int) + 3) = True := eq_true (by omega)
          have hw2 : IntKind.i64.wrap ((kk : Int) + 1) = kk + 1 := IntWalk.i64_in _ (by have := HL.out; omega)
          clear hx
          go_wp2
          go_roundg (l.length + 3 - (kk + 1))
          case measure => omega
          case rel => exact ⟨kk + 1, by simp, by omega, by omega, by omega, HBK⟩
        · have hltz2 : decide ((kk : Int) < (l.length : Int) + 3) = false := decide_eq_false (by omega)
          have BRK := Lib.hid (below_old BRS.out HBK.out)
          have ALK := Lib.hid (Kd.R_below ALS.out HBK.out)
          have WAK := Lib.hid (Kd.R_below WAS.out HBK.out)
          have HBK2 := Lib.hid (HBS.out.trans (HBK.out.mono HBS.out.size))
          have HSK := Lib.hid (Nat.le_trans HSS.out HBK.out.size)
          clear hx
          go_wp2_with fail
          go_loopg [25] l.length (fun gg s25 wr3 => ∃ (jj : Nat) (mm : List S40), s25 = .int .i64 jj ∧ jj ≤ l.length ∧ l.length - jj ≤ gg ∧ mm.length = l.length ∧ Hid (Kd.R k40 40 wr3 (w1.heap.size + 1) (fun _ => True) (.slice (some ⟨w1.heap.size + 1, 0, none⟩) l.length (l.length + 3)) mm) ∧ Hid (Below (w1.heap.size + 1) wS wr3)
            ∧ Hid (Kd.R k25 25 wr3 (w1.heap.size + 1 + 1) (fun _ => True) (.slice (some ⟨w10.heap.size + 1, 0, none⟩) 4 4) L4) ∧ Hid (Kd.R k25 25 wr3 (w1.heap.size + 1 + 1) (fun _ => True) (.slice As 4 cs) L4))
          case atStart => exact ⟨0, l, by simp, Nat.zero_le _, by omega, rfl, Lib.hid (by have h1 := Kd.R_take (m := l.length) HMW.out (by simp); rwa [List.take_left] at h1), Lib.hid (HBK.out.mono (by have := HSS.out; omega)), ALK, WAK⟩
          case round =>
            obtain ⟨jj, mm, rfl, hj1, hgg3, hml, HMM, HBN, ALN, WAN⟩ := hrel
            have BRN := Lib.hid (below_old' BRS.out (show w1.heap.size < w1.heap.size + 1 by omega) HBN.out)
            have hx := blk7 BRN.out
            by_cases hlt3 : jj < l.length
            · have hltz3 : decide ((jj : Int) < (l.length : Int)) = true := decide_eq_true (by omega)
              obtain ⟨ad, cs2, e', hcl, hK, hcc⟩ := Kd.C_get (Kd.R_reads' HMM.out).2.2 z40 (jj : Int) (by omega) (by omega)
              cases e'
              have HCC := Lib.hid hcc
              have HCL := Lib.hid hcl
              clear hcc hcl hK
              have hq2 : (0 ≤ (jj : Int)) = True := eq_true (by omega)
              have hq3 : ((jj : Int) < (l.length : Int)) = True := eq_true (by omega)
              have hw2 : IntKind.i64.wrap ((jj : Int) + 1) = jj + 1 := IntWalk.i64_in _ (by have := HL.out; omega)
              go_wp2_with ((with_reducible refine gate_ (.store 40 (.tmp 142) (.tmp 141)) rfl ?_); refine stop_here ?_)
              refine Lib.hid ?_
              refine Kd.R_store k40 (w0 := wS) (w1.heap.size + 1) rfl rfl 40 (.tmp 142) (.tmp 141) rfl 40 (jj : Int) 0 mm ⟨99, 9⟩ (opn ⟨99, 9⟩) [.int .u32 99, .int .u32 9] cs2 (fun _ => True) (fun _ => False) rfl (by simp; rfl) rfl rfl ?ht ?h1 HMM.out ?h0 ?hi HCL.out ?hcc (Nat.le_of_eq rfl) ?hM (fun _ h => h.elim) HBN.out ?_
              case ht => exact (by
                obtain ⟨i0, h1, h2⟩ := Option.map_eq_some_iff.1 inf40
                simp only [Prod.mk.injEq] at h2
                rw [h1]; simp [h2.2.1])
              case h1 =>
                intro q hq
                simp only [List.mem_cons, List.not_mem_nil, or_false] at hq
                rcases hq with rfl | rfl <;> rfl
              case h0 => omega
              case hi => omega
              case hcc =>
                intro t u h
                have := HCC.out t u h
                rw [Addr.add_lit, Nat.zero_add] at this
                exact this
              case hM =>
                have e : cs2.drop 2 = [] := List.drop_eq_nil_of_le (by rw [HCL.out]; decide)
                simp only [List.take_zero, List.nil_append, Nat.zero_add, List.length_cons, List.length_nil]
                rw [e, List.append_nil]
                exact k40_mkM _ _ _ _
              intro w3 ho3 hb3 hg3
              have HM3 := Lib.hid ho3
              have HB3' := Lib.hid hb3
              have AL3 := Lib.hid (keep_locks ALN.out hg3)
              have WA3 := Lib.hid (keep_locks WAN.out hg3)
              clear ho3 hb3 hg3 hx
              go_wp2
              go_roundg (l.length - (jj + 1))
              case measure => omega
              case rel => exact ⟨jj + 1, _, by simp, by omega, by omega, by simpa using hml, HM3, HB3', AL3, WA3⟩
            · have hltz3 : decide ((jj : Int) < (l.length : Int)) = false := decide_eq_false (by omega)
              have HBF := Lib.hid (HBS.out.trans (HBN.out.mono (by have := HB1.out.size; omega)))
              go_wp2_with fail
              clear hx hltz3 hltz2 hltz
              go_loopg [26] 4 (fun gg s26 wr4 => ∃ ii : Nat, s26 = .int .i64 ii ∧ ii ≤ 4 ∧ 4 - ii ≤ gg ∧ Hid (Kd.R k25 25 wr4 (w1.heap.size + 1 + 1) (fun _ => True) (.slice (some ⟨w10.heap.size + 1, 0, none⟩) 4 4) L4) ∧ Hid (Kd.R k25 25 wr4 (w1.heap.size + 1 + 1) (fun _ => True) (.slice As 4 cs) L4) ∧ Hid (Below w.heap.size w wr4))
              case atStart => exact ⟨0, by simp, by omega, by omega, ALN, WAN, HBF⟩
              case round =>
                obtain ⟨ii, rfl, hi4, hgg4, ALZ, WAZ, HBZ⟩ := hrel
                by_cases hlt4 : ii < 4
                · have hltz4 : decide ((ii : Int) < 4) = true := decide_eq_true (by omega)
                  have hq2 : (0 ≤ (ii : Int)) = True := eq_true (by omega)
                  have hq3 : ((ii : Int) < 4) = True := eq_true (by omega)
                  have hw2 : IntKind.i64.wrap ((ii : Int) + 1) = ii + 1 := IntWalk.i64_in _ (by omega)
                  obtain ⟨ad, A6, c6, e', h0, h1, h2, h3, h4, h5, h6, hl6, hC6⟩ := at_T25 (Kd.R_reads' ALZ.out).2.2 ii (by omega) (by have := HL4n.out; omega)
                  cases e'
                  obtain ⟨ad2, B6, d6, e', g0, g1, g2, g3, g4, g5, g6, gl6, gC6⟩ := at_T25 (Kd.R_reads' WAZ.out).2.2 ii (by omega) (by have := HL4n.out; omega)
                  obtain ⟨y, hy⟩ : ∃ y, rd_T25 L4 ii = y := ⟨_, rfl⟩
                  have hyi : L4[ii]'(by have := HL4n.out; omega) = y := by rw [← hy]; unfold rd_T25; simp [List.getD, show ii < L4.length by have := HL4n.out; omega]
                  have HYL := Lib.hid (HL4.out y (by rw [← hyi]; exact List.getElem_mem _))
                  clear hyi
                  rw [hy] at h0 h1 h2 h3 h4 h5 h6 hl6 hC6 g0 g1 g2 g3 g4 g5 g6 gl6 gC6
                  clear hy
                  simp only [Int.toNat_natCast, Addr.add_lit, Nat.zero_add] at h0 h1 h2 h3 h4 h5 h6
                  simp only [Int.toNat_natCast] at g0 g1 g2 g3 g4 g5 g6
                  subst e'
                  have HCA := Lib.hid hC6
                  have HCB := Lib.hid gC6
                  have HLA6 := Lib.hid hl6
                  have HLB6 := Lib.hid gl6
                  have START := Lib.hid (show Two wr ⟨w10.heap.size + 1, ii * 7, none⟩ ⟨w10.heap.size + 1, ii * 7 + 1, none⟩ ⟨w10.heap.size + 1, ii * 7 + 2, none⟩ ⟨w10.heap.size + 1, ii * 7 + 3, none⟩ ⟨w10.heap.size + 1, ii * 7 + 4, none⟩ ⟨w10.heap.size + 1, ii * 7 + 5, none⟩ ⟨w10.heap.size + 1, ii * 7 + 6, none⟩ (ad2.add (ii * 7)) ⟨(ad2.add (ii * 7)).block, (ad2.add (ii * 7)).off + 1, none⟩ ⟨(ad2.add (ii * 7)).block, (ad2.add (ii * 7)).off + 2, none⟩ ⟨(ad2.add (ii * 7)).block, (ad2.add (ii * 7)).off + 3, none⟩ ⟨(ad2.add (ii * 7)).block, (ad2.add (ii * 7)).off + 4, none⟩ ⟨(ad2.add (ii * 7)).block, (ad2.add (ii * 7)).off + 5, none⟩ ⟨(ad2.add (ii * 7)).block, (ad2.add (ii * 7)).off + 6, none⟩ y (.slice A6 y.f6.length c6) (.slice B6 y.f6.length d6) wr from ⟨⟨h0, h1, h2, h3, h4, h5, h6⟩, ⟨g0, g1, g2, g3, g4, g5, g6⟩, Below.refl _ _⟩)
                  clear hC6 gC6 hl6 gl6 h0 h1 h2 h3 h4 h5 h6 g0 g1 g2 g3 g4 g5 g6
                  go_wp2_with fail
                  refine start_ (n := 10) (S := (fun w' => Two wr ⟨w10.heap.size + 1, ii * 7, none⟩ ⟨w10.heap.size + 1, ii * 7 + 1, none⟩ ⟨w10.heap.size + 1, ii * 7 + 2, none⟩ ⟨w10.heap.size + 1, ii * 7 + 3, none⟩ ⟨w10.heap.size + 1, ii * 7 + 4, none⟩ ⟨w10.heap.size + 1, ii * 7 + 5, none⟩ ⟨w10.heap.size + 1, ii * 7 + 6, none⟩ (ad2.add (ii * 7)) ⟨(ad2.add (ii * 7)).block, (ad2.add (ii * 7)).off + 1, none⟩ ⟨(ad2.add (ii * 7)).block, (ad2.add (ii * 7)).off + 2, none⟩ ⟨(ad2.add (ii * 7)).block, (ad2.add (ii * 7)).off + 3, none⟩ ⟨(ad2.add (ii * 7)).block, (ad2.add (ii * 7)).off + 4, none⟩ ⟨(ad2.add (ii * 7)).block, (ad2.add (ii * 7)).off + 5, none⟩ ⟨(ad2.add (ii * 7)).block, (ad2.add (ii * 7)).off + 6, none⟩ y (.slice A6 y.f6.length c6) (.slice B6 y.f6.length d6) w')) (ds := []) #[false, false, false, false, false, false, false, false, false, false] (by kernel_rfl) rfl rfl (Two.keep START.out (Below.refl _ wr).drew) (fun hHeld => ?_)
                  refine pure_ (i := 0) (N := some 149) (v := ?_) (a' := ?_) #[true, false, false, false, false, false, false, false, false, false] rfl rfl (by kernel_rfl) (fun _ _ _ h => h) (Or.inl ⟨by rfl, ?_⟩) ?_ ?_
                  rotate_left
                  · intro w'
                    go_simp
                    with_reducible rfl
                  rotate_left
                  · simp only [Act.put, List.setIfInBounds_toArray, List.set_cons_zero, List.set_cons_succ, i64_w, i32_w]
                    rfl
                  refine pure_ (i := 1) (N := some 150) (v := ?_) (a' := ?_) #[true, true, false, false, false, false, false, false, false, false] rfl rfl (by kernel_rfl) (fun _ _ _ h => h) (Or.inl ⟨by rfl, ?_⟩) ?_ ?_
                  rotate_left
                  · intro w'
                    go_simp
                    with_reducible rfl
                  rotate_left
                  · simp only [Act.put, List.setIfInBounds_toArray, List.set_cons_zero, List.set_cons_succ, i64_w, i32_w]
                    rfl
                  refine pure_ (i := 2) (N := some 151) (v := ?_) (a' := ?_) #[true, true, true, false, false, false, false, false, false, false] rfl rfl (by kernel_rfl) (fun _ _ _ h => h) (Or.inl ⟨by rfl, ?_⟩) ?_ ?_
                  rotate_left
                  · intro w'
                    go_simp
                    with_reducible rfl
                  rotate_left
                  · simp only [Act.put, List.setIfInBounds_toArray, List.set_cons_zero, List.set_cons_succ, i64_w, i32_w]
                    rfl
                  refine take_ (i := 3) (N := some 152) (v := ?_) (a' := ?_) #[true, true, true, true, false, false, false, false, false, false] rfl rfl (by kernel_rfl) (fun _ _ _ h => h) (Or.inl ⟨by rfl, ?_⟩) hHeld ?_ ?_
                  rotate_left
                  · rintro w' ⟨⟨s0, s1, s2, s3, s4, s5, s6⟩, ⟨t0, t1, t2, t3, t4, t5, t6⟩, s10⟩
                    go_simp
                    with_reducible rfl
                  rotate_left
                  · simp only [Act.put, List.setIfInBounds_toArray, List.set_cons_zero, List.set_cons_succ, i64_w, i32_w]
                    rfl
                  refine pure_ (i := 4) (N := some 153) (v := ?_) (a' := ?_) #[true, true, true, true, true, false, false, false, false, false] rfl rfl (by kernel_rfl) (fun _ _ _ h => h) (Or.inl ⟨by rfl, ?_⟩) ?_ ?_
                  rotate_left
                  · intro w'
                    go_simp
                    with_reducible rfl
                  rotate_left
                  · simp only [Act.put, List.setIfInBounds_toArray, List.set_cons_zero, List.set_cons_succ, i64_w, i32_w]
                    rfl
                  refine pure_ (i := 5) (N := some 154) (v := ?_) (a' := ?_) #[true, true, true, true, true, true, false, false, false, false] rfl rfl (by kernel_rfl) (fun _ _ _ h => h) (Or.inl ⟨by rfl, ?_⟩) ?_ ?_
                  rotate_left
                  · intro w'
                    go_simp
                    with_reducible rfl
                  rotate_left
                  · simp only [Act.put, List.setIfInBounds_toArray, List.set_cons_zero, List.set_cons_succ, i64_w, i32_w]
                    rfl
                  refine pure_ (i := 6) (N := some 155) (v := ?_) (a' := ?_) #[true, true, true, true, true, true, true, false, false, false] rfl rfl (by kernel_rfl) (fun _ _ _ h => h) (Or.inl ⟨by rfl, ?_⟩) ?_ ?_
                  rotate_left
                  · intro w'
                    go_simp
                    with_reducible rfl
                  rotate_left
                  · simp only [Act.put, List.setIfInBounds_toArray, List.set_cons_zero, List.set_cons_succ, i64_w, i32_w]
                    rfl
                  refine take_ (i := 7) (N := some 156) (v := ?_) (a' := ?_) #[true, true, true, true, true, true, true, true, false, false] rfl rfl (by kernel_rfl) (fun _ _ _ h => h) (Or.inl ⟨by rfl, ?_⟩) hHeld ?_ ?_
                  rotate_left
                  · rintro w' ⟨⟨s0, s1, s2, s3, s4, s5, s6⟩, ⟨t0, t1, t2, t3, t4, t5, t6⟩, s10⟩
                    go_simp
                    with_reducible rfl
                  rotate_left
                  · simp only [Act.put, List.setIfInBounds_toArray, List.set_cons_zero, List.set_cons_succ, i64_w, i32_w]
                    rfl
                  refine one_ (i := 8) (N := some 157) #[true, true, true, true, true, true, true, true, true, false] rfl rfl (by kernel_rfl) (by decide) (fun K hK => ?_)
                  refine goes_ Try.func11 (by kernel_rfl) rfl #[.agg (lockX y (.slice A6 y.f6.length c6)), .agg (lockX y (.slice B6 y.f6.length d6))] (by rfl) rfl rfl (by (try simp only [List.map_toArray, List.map_cons, List.map_nil]); first | done | rfl) ?_
                  refine (lamellaref12_Same.calls 4200 y.f0 y.f1 y.f2 y.f3 y.f4 y.f5 A6 c6 y.f6 y.f0 y.f1 y.f2 y.f3 y.f4 y.f5 B6 d6 y.f6 true _ (Kd.C_below HCA.out hHeld.2.2) HLA6.out (Kd.C_below HCB.out hHeld.2.2) HLB6.out (same_f y.f0 y.f1 y.f2 y.f3 y.f4 y.f5 y.f6 (by have := HYL.out; omega) 4200 (by omega))).mono ?_
                  rintro e w2 ⟨rfl, hb⟩
                  refine ⟨_, rfl, ?_⟩
                  refine hK.out _ _ (Two.keep hHeld hb) (fun hHeld => ?_)
                  clear hb
                  clear hK K
                  refine norm_ (a' := ?_) ?_ ?_
                  rotate_left
                  · show Act.put _ (some 157) _ = _
                    simp only [Act.put, List.setIfInBounds_toArray, List.set_cons_zero, List.set_cons_succ, i64_w, i32_w]
                    rfl
                  refine pure_ (i := 9) (N := some 158) (v := ?_) (a' := ?_) #[true, true, true, true, true, true, true, true, true, true] rfl rfl (by kernel_rfl) (fun _ _ _ h => h) (Or.inl ⟨by rfl, ?_⟩) ?_ ?_
                  rotate_left
                  · intro w'
                    go_simp
                    with_reducible rfl
                  rotate_left
                  · simp only [Act.put, List.setIfInBounds_toArray, List.set_cons_zero, List.set_cons_succ, i64_w, i32_w]
                    rfl
                  refine done_ (by kernel_rfl) ?_
                  have HF := Lib.hid hHeld.2.2
                  clear hHeld
                  go_wp2
                  go_roundg (4 - (ii + 1))
                  case measure => omega
                  case rel => exact ⟨ii + 1, by simp, by omega, by omega, Lib.hid (Kd.R_below ALZ.out HF.out), Lib.hid (Kd.R_below WAZ.out HF.out), Lib.hid (HBZ.out.trans (HF.out.mono HBZ.out.size))⟩
                · have hltz4 : decide ((ii : Int) < 4) = false := decide_eq_false (by omega)
                  go_wp2_with fail
                  go_at_call 8
                  refine (alive_calls _).mono ?_
                  rintro ex wL ⟨rfl, hb⟩
                  have HBL := Lib.hid (HBZ.out.trans (hb.mono HBZ.out.size))
                  clear hb
                  go_wp2
                  go_ret
                  exact ⟨rfl, HBL.out⟩

set_option maxHeartbeats 1000000 in
theorem long_calls (f e u c : Int) (fc g : Bool) (A0 : Option Addr) (n c0 : Nat) (cl m sz : Int) (w : World) (hn : 100 < n) :
    Calls Try.prog 6 #[.agg (lockA f e u c fc g (.slice A0 n c0)), .int .u32 cl, .int .u32 m, .int .u32 sz] w fun ex w' => ex = .returned (.bool true) ∧ Below w.heap.size w w' := by
  have BX := Lib.hid (alloc_at w (.cells (lockA f e u c fc g (.slice A0 n c0)) 25))
  have hgt : decide ((n : Int) > 100) = true := decide_eq_true (by omega)
  have hgt' : decide ((100 : Int) < (n : Int)) = true := decide_eq_true (by omega)
  have hgt2 : decide (100 < n) = true := decide_eq_true hn
  clear hn
  go_enter Try.func6, Try.ntmps6
  go_wp2_with fail
  go_at_call 8
  refine (alive_calls _).mono ?_
  rintro ex w1 ⟨rfl, hb⟩
  have HB1 := Lib.hid ((boxed w (.cells (lockA f e u c fc g (.slice A0 n c0)) 25)).trans (hb.mono (by simp)))
  have hx := blk7 (below_old BX.out hb)
  clear hb
  go_wp2_with fail
  go_at_call 8
  refine (alive_calls _).mono ?_
  rintro ex w2 ⟨rfl, hb⟩
  have HB2 := Lib.hid (HB1.out.trans (hb.mono HB1.out.size))
  clear hb
  go_wp2
  go_ret
  exact ⟨rfl, HB2.out⟩

theorem holdKeeps_walk (a0 : Array Value) (a1 : Int) (a2 : Int) (a3 : Int) (w : World) (w0 : Sees Try.prog w 140737488351232 5 25 a0.toList) (w1 : (Lit.int .u32 a1).wf = true) (w2 : (Lit.int .u32 a2).wf = true) (w3 : (Lit.int .u32 a3).wf = true) :
    Calls Try.prog 6 #[.agg a0, .int .u32 a1, .int .u32 a2, .int .u32 a3] w fun e w' => e = .returned (.bool true) ∧ Below w.heap.size w w' := by
  obtain ⟨f, e, u, c, fc, g, A, cp, l, rfl, hc, hC, hn, -, -⟩ := sees_lock w0
  by_cases hl : l.length ≤ 100
  · exact keeps_calls f e u c fc g A cp l a1 a2 a3 w hC hc hl hn ⟨(bounds_u32 w1).1, by have := (bounds_u32 w1).2; omega⟩
  · exact long_calls f e u c fc g A l.length cp a1 a2 a3 w (by omega)
end Go.Proofs.Ytkcacfnefhakbaa.holdKeeps
