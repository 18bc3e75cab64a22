/- Layer device in memory: a struct of five cells, two rows of blocks, a row of writes. Layer device: reading. Layer device: writing. Layer device: a barrier. Layer device: a crash. Layer device: a new one. Layer device: each of its functions, in one contract; no device; blocks of one kind. -/
import Derived.Test.YtmdojgkgohmghaaChecked
import Derived.Test.YtmdojgkgohmghaaOwn
import Derived.Test.YtmdojgkgohmghaaDevPlain
import Derived.Test.YtmdojgkgohmghaaBlk
import Derived.Test.YtmdojgkgohmghaaWLast
import Derived.Test.YtmdojgkgohmghaaWMore
import Derived.Laws.BitsAllLaws
namespace Go.Proofs.Ytmdojgkgohmghaa.Dev
open Go.RowKit Go.Own Go.DevL Go.Blk
set_option linter.unusedVariables false
def wcells (x : Nat × ByteArray) : List Value := .int .i64 (x.1 : Int) :: bcells x.2
/-- The device d lies at block p, all of it in blocks of F. -/
structure At (F : Nat → Prop) (w : World) (p gf gn : Nat) (vl : Value) (d : Dv) : Prop where
  ok : d.OK
  fp : F p
  ff : F gf
  fn : F gn
  fl : ∀ k, vl.ownBlock = some k → F k
  n1 : p ≠ gf ∧ p ≠ gn ∧ gf ≠ gn
  n2 : ∀ k, vl.ownBlock = some k → k ≠ p ∧ k ≠ gf ∧ k ≠ gn
  hp : w.heap[p]? = some (.cells #[.slice (some ⟨gf, 0, none⟩) d.firm.length d.firm.length, .slice (some ⟨gn, 0, none⟩) d.firm.length d.firm.length, vl, .int .i64 d.fuse, .bool d.dead] 74 (0, 0))
  hf : w.heap[gf]? = some (.cells (d.firm.flatMap bcells).toArray 85 (0, 0))
  hn : w.heap[gn]? = some (.cells (d.now.flatMap bcells).toArray 85 (0, 0))
  hl : w.ownsRow 0 87 257 vl d.late.length (d.late.flatMap wcells)
  lt : ∀ k, F k → k < w.heap.size
variable {F : Nat → Prop} {w w' : World} {p gf gn : Nat} {vl : Value} {d : Dv}
theorem lens {l : List ByteArray} (h : ∀ b ∈ l, b.size = 256) : ∀ b ∈ l, (bcells b).length = 256 := fun b hb => (bcells_length b).trans (h b hb)
theorem At.lensn (h : At F w p gf gn vl d) : ∀ b ∈ d.now, (bcells b).length = 256 := lens h.ok.now_size
theorem At.lensl (h : At F w p gf gn vl d) : ∀ x ∈ d.late, (wcells x).length = 257 := fun x hx => by simp [wcells, bcells_length, (h.ok.la x hx).2]
/-- Blocks of others may turn. -/
theorem At.keep {G : Nat → Prop} (h : At F w p gf gn vl d) (hF : Fr G w w') (hG : ∀ k, F k → ¬ G k) : At F w' p gf gn vl d :=
  { h with hp := hF.at h.hp (hG _ h.fp), hf := hF.at h.hf (hG _ h.ff), hn := hF.at h.hn (hG _ h.fn), hl := hF.row h.hl (fun k hk => hG _ (h.fl k hk)), lt := fun k hk => Nat.lt_of_lt_of_le (h.lt k hk) hF.size }
theorem At.below (h : At F w p gf gn vl d) (hb : Below w.heap.size w w') : At F w' p gf gn vl d := h.keep (Fr.of_below (F := fun _ => False) hb) (fun _ _ => id)
theorem At.drew (h : At F w p gf gn vl d) : At F w.drew p gf gn vl d := h.keep (Fr.drew (fun _ => False) w) (fun _ _ => id)
/-- A cell of the struct is stored. -/
theorem At.set (h : At F w p gf gn vl d) (i : Nat) (u : Value) {vl' : Value} {d' : Dv} (hok : d'.OK) (hfl : ∀ k, vl'.ownBlock = some k → F k) (hn2 : ∀ k, vl'.ownBlock = some k → k ≠ p ∧ k ≠ gf ∧ k ≠ gn)
    (hc : (#[.slice (some ⟨gf, 0, none⟩) d.firm.length d.firm.length, .slice (some ⟨gn, 0, none⟩) d.firm.length d.firm.length, vl, .int .i64 d.fuse, .bool d.dead] : Array Value).setIfInBounds i u = #[.slice (some ⟨gf, 0, none⟩) d'.firm.length d'.firm.length, .slice (some ⟨gn, 0, none⟩) d'.firm.length d'.firm.length, vl', .int .i64 d'.fuse, .bool d'.dead])
    (hf : d'.firm = d.firm) (hn : d'.now = d.now) (hl : w.ownsRow 0 87 257 vl' d'.late.length (d'.late.flatMap wcells)) : At F (w.setCell ⟨p, i, none⟩ u) p gf gn vl' d' where
  ok := hok
  fp := h.fp
  ff := h.ff
  fn := h.fn
  fl := hfl
  n1 := h.n1
  n2 := hn2
  hp := by rw [← hc]; exact set_at h.hp i u
  hf := by rw [hf]; exact set_far h.hf (fun e => h.n1.1 e.symm) u
  hn := by rw [hn]; exact set_far h.hn (fun e => h.n1.2.1 e.symm) u
  hl := row_kept hl fun k hk => Below.heap_setCell w ⟨p, i, none⟩ u k (hn2 k hk).1
  lt := fun k hk => by rw [World.setCell]; simpa using h.lt k hk
theorem At.set_fuse (h : At F w p gf gn vl d) (f : Int) (h1 : -1 ≤ f) (h2 : f ≤ 9223372036854775807) : At F (w.setCell ⟨p, 3, none⟩ (.int .i64 f)) p gf gn vl { d with fuse := f } :=
  h.set 3 _ ⟨h.ok.n1, h.ok.n2, h.ok.sz, h.ok.la, h1, h2⟩ h.fl h.n2 rfl rfl rfl h.hl
theorem At.set_dead (h : At F w p gf gn vl d) (b : Bool) : At F (w.setCell ⟨p, 4, none⟩ (.bool b)) p gf gn vl { d with dead := b } :=
  h.set 4 _ ⟨h.ok.n1, h.ok.n2, h.ok.sz, h.ok.la, h.ok.f1, h.ok.f2⟩ h.fl h.n2 rfl rfl rfl h.hl
theorem At.frp (h : At F w p gf gn vl d) (i : Nat) (u : Value) : Fr F w (w.setCell ⟨p, i, none⟩ u) := Fr.setCell w h.fp u
/-! ### what does no more than look -/
set_option maxHeartbeats 400000 in
theorem dead_calls (h : At F w p gf gn vl d) : Calls Try.prog 29 #[.pointer (some ⟨p, 0, none⟩)] w fun e w' => e = .returned (.bool d.dead) ∧ w = w' := by
  have hx := blk5 h.hp
  clear h
  obtain ⟨x0, y0, x1, y1, x2, y2, x3, y3, x4, y4⟩ := hx
  go_enter Try.func29, Try.ntmps29
  go_wp2
  go_ret
  exact ⟨rfl, rfl⟩
set_option maxHeartbeats 400000 in
theorem blocks_calls (h : At F w p gf gn vl d) : Calls Try.prog 28 #[.pointer (some ⟨p, 0, none⟩)] w fun e w' => e = .returned (.int .i64 d.firm.length) ∧ w = w' := by
  have hx := blk5 h.hp
  clear h
  obtain ⟨x0, y0, x1, y1, x2, y2, x3, y3, x4, y4⟩ := hx
  go_enter Try.func28, Try.ntmps28
  go_wp2
  go_ret
  exact ⟨rfl, rfl⟩
set_option maxHeartbeats 400000 in
theorem fuse_calls (h : At F w p gf gn vl d) (n : Int) (hn : n ≤ 9223372036854775807) : Calls Try.prog 20 #[.pointer (some ⟨p, 0, none⟩), .int .i64 n] w fun e w' => e = .returned (.tuple #[]) ∧ At F w' p gf gn vl (d.light n) ∧ Fr F w w' := by
  have hx := blk5 h.hp
  have H := Lib.hid h
  clear h
  obtain ⟨x0, y0, x1, y1, x2, y2, x3, y3, x4, y4⟩ := hx
  go_enter Try.func20, Try.ntmps20
  go_wp2
  · go_end0
    refine ⟨rfl, ?_, H.out.frp _ _⟩
    have h1 := H.out.set_fuse (-1) (by omega) (by omega)
    have e : d.light n = { d with fuse := -1 } := by
      unfold Dv.light
      split
      · rfl
      · congr 1 <;> omega
    rw [e]; exact h1
  · go_end0
    refine ⟨rfl, ?_, H.out.frp _ _⟩
    have h1 := H.out.set_fuse n (by omega) hn
    have e : d.light n = { d with fuse := n } := by unfold Dv.light; rw [if_neg (by omega)]
    rw [e]; exact h1
set_option maxHeartbeats 400000 in
theorem burn_yes (h : At F w p gf gn vl d) (hb : d.burns = true) : Calls Try.prog 48 #[.pointer (some ⟨p, 0, none⟩)] w fun e w' => e = .returned (.int .i64 5) ∧ At F w' p gf gn vl d.die ∧ Fr F w w' := by
  have hx := blk5 h.hp
  have H := Lib.hid h
  clear h
  obtain ⟨x0, y0, x1, y1, x2, y2, x3, y3, x4, y4⟩ := hx
  have HB := Lib.hid hb
  clear hb
  go_enter Try.func48, Try.ntmps48
  go_wp2
  · go_ret
    exact ⟨rfl, H.out.set_dead true, H.out.frp _ _⟩
  · go_ret
    exact ⟨rfl, H.out.set_dead true, H.out.frp _ _⟩
  all_goals
    exfalso
    have := HB.out
    simp_all [Dv.burns]
set_option maxHeartbeats 400000 in
theorem burn_no (h : At F w p gf gn vl d) (hb : d.burns = false) : Calls Try.prog 48 #[.pointer (some ⟨p, 0, none⟩)] w fun e w' => e = .returned (.int .i64 0) ∧ At F w' p gf gn vl { d with fuse := less d.fuse } ∧ Fr F w w' := by
  have hx := blk5 h.hp
  have H := Lib.hid h
  clear h
  obtain ⟨x0, y0, x1, y1, x2, y2, x3, y3, x4, y4⟩ := hx
  have HB := Lib.hid hb
  have hu := H.out.ok.f2
  clear hb
  go_enter Try.func48, Try.ntmps48
  go_wp2
  · exfalso
    have := HB.out
    simp_all [Dv.burns]
  · exfalso
    have := HB.out
    simp_all [Dv.burns]
  · go_ret
    have hlt : 0 < d.fuse := by assumption
    refine ⟨rfl, ?_, H.out.frp _ _⟩
    have h1 := H.out.set_fuse (d.fuse - 1) (by omega) (by omega)
    rw [show less d.fuse = d.fuse - 1 by unfold less; rw [if_pos hlt]]
    exact h1
  · go_ret
    have hlt : d.fuse ≤ 0 := by assumption
    refine ⟨rfl, ?_, Fr.refl _ _⟩
    rw [show less d.fuse = d.fuse by unfold less; rw [if_neg (by omega)]]
    exact H.out
end Go.Proofs.Ytmdojgkgohmghaa.Dev
namespace Go.Proofs.Ytmdojgkgohmghaa.Dev
open Go.RowKit Go.Own Go.DevL Go.Blk
set_option linter.unusedVariables false
set_option maxRecDepth 100000
variable {F : Nat → Prop} {w w' : World} {p gf gn : Nat} {vl : Value} {d : Dv}
def readE (d : Dv) (i : Int) : Ending := .returned (.tuple #[.string (d.read i).1, .int .i64 (d.read i).2])
set_option maxHeartbeats 400000 in
theorem read_calls (h : At F w p gf gn vl d) (i : Int) : Calls Try.prog 37 #[.pointer (some ⟨p, 0, none⟩), .int .i64 i] w fun e w' => e = readE d i ∧ w = w' := by
  have hx := blk5 h.hp
  have H := Lib.hid h
  clear h
  obtain ⟨x0, y0, x1, y1, x2, y2, x3, y3, x4, y4⟩ := hx
  by_cases hb : d.bad i = true
  · have hE : readE d i = .returned (.tuple #[.string ByteArray.empty, .int .i64 1]) := by unfold readE Dv.read; rw [if_pos hb]
    rw [hE]
    have hn2 := H.out.ok.n2
    have HB := Lib.hid hb
    clear hb hE
    go_enter Try.func37, Try.ntmps37
    by_cases h0 : i < 0
    · go_wp2
      go_ret2
      exact ⟨rfl, rfl⟩
    · have h1 : (d.firm.length : Int) ≤ i := by
        have := HB.out
        simp only [Dv.bad, Bool.or_eq_true, decide_eq_true_eq] at this
        omega
      go_wp2
      go_ret2
      exact ⟨rfl, rfl⟩
  · have hb' : d.bad i = false := by simpa using hb
    obtain ⟨h0, h1⟩ := Dv.bad_false hb'
    obtain ⟨k, rfl⟩ := Int.eq_ofNat_of_zero_le h0
    have hk : k < d.firm.length := by omega
    by_cases hdd : d.dead = true
    · have hE : readE d k = .returned (.tuple #[.string ByteArray.empty, .int .i64 5]) := by unfold readE Dv.read; rw [if_neg hb, if_pos hdd]
      rw [hE]
      have hn2 := H.out.ok.n2
      clear hb hE hb'
      go_enter Try.func37, Try.ntmps37
      go_wp2
      go_ret2
      exact ⟨rfl, rfl⟩
    · have hE : readE d k = .returned (.tuple #[.string (d.now.getD k ByteArray.empty), .int .i64 0]) := by unfold readE Dv.read; rw [if_neg hb, if_neg hdd]; rfl
      rw [hE]
      have hd : d.dead = false := by simpa using hdd
      have hn2 := H.out.ok.n2
      have HC := run_convert_row (P := Try.prog) w 95 5 9 Try.underlying95 Try.underlying5 Try.underlying9 gn _ d.now 256 H.out.ok.now_size H.out.hn k (by rw [H.out.ok.now_length]; exact hk) 256
      clear hb hE hb' hdd
      go_enter Try.func37, Try.ntmps37
      go_wp2
      go_ret2
      exact ⟨rfl, rfl⟩
set_option maxHeartbeats 400000 in
theorem settled_calls (h : At F w p gf gn vl d) (i : Int) : Calls Try.prog 26 #[.pointer (some ⟨p, 0, none⟩), .int .i64 i] w fun e w' => e = .returned (.string (d.settled i)) ∧ w = w' := by
  have hx := blk5 h.hp
  have H := Lib.hid h
  clear h
  obtain ⟨x0, y0, x1, y1, x2, y2, x3, y3, x4, y4⟩ := hx
  by_cases hb : d.bad i = true
  · have hE : d.settled i = ByteArray.empty := by unfold Dv.settled; rw [if_pos hb]
    rw [hE]
    have hn2 := H.out.ok.n2
    have HB := Lib.hid hb
    clear hb hE
    go_enter Try.func26, Try.ntmps26
    by_cases h0 : i < 0
    · go_wp2
      go_ret
      exact ⟨rfl, rfl⟩
    · have h1 : (d.firm.length : Int) ≤ i := by
        have := HB.out
        simp only [Dv.bad, Bool.or_eq_true, decide_eq_true_eq] at this
        omega
      go_wp2
      go_ret
      exact ⟨rfl, rfl⟩
  · have hb' : d.bad i = false := by simpa using hb
    obtain ⟨h0, h1⟩ := Dv.bad_false hb'
    obtain ⟨k, rfl⟩ := Int.eq_ofNat_of_zero_le h0
    have hk : k < d.firm.length := by omega
    have hE : d.settled k = d.firm.getD k ByteArray.empty := by unfold Dv.settled; rw [if_neg hb]; rfl
    rw [hE]
    have hn2 := H.out.ok.n2
    have HC := run_convert_row (P := Try.prog) w 95 5 9 Try.underlying95 Try.underlying5 Try.underlying9 gf _ d.firm 256 H.out.ok.sz H.out.hf k hk 256
    clear hb hE hb'
    go_enter Try.func26, Try.ntmps26
    go_wp2
    go_ret
    refine ⟨?_, rfl⟩
    show Ending.returned (.string d.firm[k]) = _
    simp [List.getD, List.getElem?_eq_getElem hk]
end Go.Proofs.Ytmdojgkgohmghaa.Dev
/- Operations on rows of 256 cells, by law. -/
namespace Go.Proofs.Ytmdojgkgohmghaa.Dev
open Go.RowKit Go.Own Go.DevL Go.Blk
set_option linter.unusedVariables false
/-- A write of noughts. -/
def zw (i : Int) : List Value := .int .i64 i :: List.replicate 256 (.int .u8 0)
theorem run_build_w (w : World) (i : Int) : (Instr.build 87 #[(0, .int .i64 i)]).run Try.prog w = .ok (.agg (zw i).toArray) w := by kernel_rfl
theorem run_alloc_w (w : World) : (Instr.alloc 87 true (.tuple #[])).run Try.prog w = .ok (.pointer (some ⟨w.heap.size, 0, none⟩)) (w.alloc (.cells (zw 0).toArray 87)) := by kernel_rfl
theorem info_w : (Try.prog.info? 87).map (fun i => (i.zero, i.size, i.bytes)) = some (some (.agg (zw 0).toArray), 257, 264) := by kernel_rfl
theorem info_b : (Try.prog.info? 85).map (·.size) = some 256 := by kernel_rfl
theorem info_b3 : (Try.prog.info? 85).map (fun i => (i.zero, i.size, i.bytes)) = some (some (.agg (List.replicate 256 (Value.int .u8 0)).toArray), 256, 256) := by kernel_rfl
theorem info_u8 : (Try.prog.info? 5).map (·.size) = some 1 := by kernel_rfl
theorem zw_length (i : Int) : (zw i).length = 257 := by unfold zw; rw [List.length_cons, List.length_replicate]
theorem zw_one (i : Int) : ∀ v ∈ (zw i).toArray.toList, v.oneCell' = true := fun v hv => by
  simp only [zw, List.mem_cons, List.mem_replicate] at hv
  rcases hv with rfl | ⟨_, rfl⟩ <;> rfl
theorem wcells_length {x : Nat × ByteArray} (h : x.2.size = 256) : (wcells x).length = 257 := by simp [wcells, bcells_length, h]
theorem wcells_one (x : Nat × ByteArray) : ∀ v ∈ wcells x, v.oneCell' = true := fun v hv => by
  simp only [wcells, List.mem_cons] at hv
  rcases hv with rfl | hv
  · rfl
  · exact bcells_one _ v hv
theorem byteCells_eq (b : ByteArray) : Lib.byteCells b.data.toList = bcells b := rfl
theorem over_zw (i : Nat) (b : ByteArray) (hb : b.size = 256) : ((zw i).toArray.toList.take 1 ++ Lib.byteCells b.data.toList ++ (zw i).toArray.toList.drop (1 + b.size)) = wcells (i, b) := by
  rw [hb, byteCells_eq, List.drop_eq_nil_of_le (by rw [List.toList_toArray, zw_length]; omega), List.append_nil]
  rfl
theorem bit_go (keep : Int) (k : Nat) (h0 : 0 ≤ keep) (h1 : keep < 18446744073709551616) : (bits .and .u64 (keep / 2 ^ (k % 64)) 1 == 1) = bit keep k := by
  obtain ⟨n, rfl⟩ := Int.eq_ofNat_of_zero_le h0
  have e : ((n : Int) / 2 ^ (k % 64)) = ((n / 2 ^ (k % 64) : Nat) : Int) := by rw [Int.natCast_ediv, Int.natCast_pow]; rfl
  have hb : n / 2 ^ (k % 64) < 18446744073709551616 := Nat.lt_of_le_of_lt (Nat.div_le_self _ _) (by omega)
  have h := u64_and_nat (n / 2 ^ (k % 64)) 1 hb (by decide)
  rw [e]
  rw [show ((1 : Int)) = ((1 : Nat) : Int) from rfl, h, Nat.and_one_is_mod]
  unfold bit
  rw [Int.toNat_natCast, Bool.eq_iff_iff]
  simp only [beq_iff_eq]
  omega
theorem stop_here {p : Prop} (h : Hid p) : p := h.out
section
variable {P : Program} {ops : Array Oper} {rest : List Oper} {o : Oper} {a : Act} {w w1 : World} {Q : Exit → Act → World → Prop} {K : Act → World → Prop}
theorem execOp_build {t : TypeId} {parts : Array (Nat × Operand)} {ps : Array (Nat × Value)} {v : Value} (ho : o.op = .build t parts) (hp : parts.toList.map (fun x => (x.1, a.eval x.2)) = ps.toList) (hr : (Instr.build t ps).run P w = .ok v w1) : (execOp a.eval o).run P w = .ok (.value v) w1 := by
  unfold execOp
  simp only [ho]
  have hp' : (parts.map fun (i, x) => (i, a.eval x)) = ps := Array.toList_inj.1 ((Array.toList_map ..).trans hp)
  rw [hp', Sem.run_bind, hr]
  rfl
theorem execOp_alloc {t : TypeId} {v : Value} (ho : o.op = .alloc t) (hr : (Instr.alloc t true (.tuple #[])).run P w = .ok v w1) : (execOp a.eval o).run P w = .ok (.value v) w1 := by
  unfold execOp
  simp only [ho]
  rw [Sem.run_bind, hr]
  rfl
theorem execOp_store {t : TypeId} {x y : Operand} {X Y : Value} (ho : o.op = .store t x y) (hx : a.eval x = X) (hy : a.eval y = Y) (hr : (Instr.storeAt t X Y).run P w = .ok () w1) : (execOp a.eval o).run P w = .ok .skip w1 := by
  subst hx; subst hy
  unfold execOp
  simp only [ho]
  rw [Sem.run_bind, hr]
  rfl
theorem execOp_load {t : TypeId} {x : Operand} {X : Value} {v : Value} (ho : o.op = .load t x) (hx : a.eval x = X) (hr : (Instr.loadAt t X).run P w = .ok v w1) : (execOp a.eval o).run P w = .ok (.value v) w1 := by
  subst hx
  unfold execOp
  simp only [ho]
  rw [Sem.run_bind, hr]
  rfl
theorem execOp_buildSlice {t : TypeId} {n : Nat} {parts : Array (Nat × Operand)} {ps : Array (Nat × Value)} {v : Value} (ho : o.op = .buildSlice t n parts) (hp : parts.toList.map (fun x => (x.1, a.eval x.2)) = ps.toList) (hr : (Instr.buildSlice t n ps).run P w = .ok v w1) : (execOp a.eval o).run P w = .ok (.value v) w1 := by
  unfold execOp
  simp only [ho]
  have hp' : (parts.map fun (i, x) => (i, a.eval x)) = ps := Array.toList_inj.1 ((Array.toList_map ..).trans hp)
  rw [hp', Sem.run_bind, hr]
  rfl
theorem execOp_makeSlice {t : TypeId} {x y : Operand} {X Y v : Value} (ho : o.op = .makeSlice t x y) (hx : a.eval x = X) (hy : a.eval y = Y) (hr : (Instr.makeSlice t X Y).run P w = .ok v w1) : (execOp a.eval o).run P w = .ok (.value v) w1 := by
  subst hx; subst hy
  unfold execOp
  simp only [ho]
  rw [Sem.run_bind, hr]
  rfl
theorem execOp_box {t : TypeId} {x : Operand} {X v : Value} (ho : o.op = .box t x) (hx : a.eval x = X) (hr : (Instr.box t X).run P w = .ok v w1) : (execOp a.eval o).run P w = .ok (.value v) w1 := by
  subst hx
  unfold execOp
  simp only [ho]
  rw [Sem.run_bind, hr]
  rfl
theorem execOp_copy {dT sT : TypeId} {x y : Operand} {X Y v : Value} (ho : o.op = .call { callee := .builtin .copy, args := #[x, y], argTypes := #[dT, sT] }) (hx : a.eval x = X) (hy : a.eval y = Y) (hr : (Builtin.copy_ #[dT, sT] o.type #[X, Y]).run P w = .ok v w1) : (execOp a.eval o).run P w = .ok (.value v) w1 := by
  subst hx; subst hy
  unfold execOp
  simp [ho, resolve, invoke, builtin, hr, Result.andThen]
theorem execOp_append {t : TypeId} {x y : Operand} {X Y v : Value} (ho : o.op = .call { callee := .builtin .append, args := #[x, y], argTypes := #[t, t] }) (hx : a.eval x = X) (hy : a.eval y = Y) (hr : (Builtin.append_ #[t, t] o.type #[X, Y]).run P w = .ok v w1) : (execOp a.eval o).run P w = .ok (.value v) w1 := by
  subst hx; subst hy
  unfold execOp
  simp [ho, resolve, invoke, builtin, hr, Result.andThen]
theorem wpList_val {N : Tmp} {v : Value} (hgd : o.guard = none) (hd : o.dst = some N) (hr : (execOp a.eval o).run P w = .ok (.value v) w1) (h : wpList P ops Q rest (a.put (some N) v) w1) : wpList P ops Q (o :: rest) a w := by
  refine wpList_plain hgd fun K hK => ?_
  unfold Oper.wp
  rw [hr]
  refine hK _ _ ?_
  rw [hd]
  exact h
theorem wpList_none (hgd : o.guard = none) (hd : o.dst = none) (hr : (execOp a.eval o).run P w = .ok .skip w1) (h : wpList P ops Q rest a w1) : wpList P ops Q (o :: rest) a w := by
  refine wpList_plain hgd fun K hK => ?_
  unfold Oper.wp
  rw [hr]
  refine hK _ _ ?_
  rw [hd]
  exact h
end
end Go.Proofs.Ytmdojgkgohmghaa.Dev
namespace Go.Proofs.Ytmdojgkgohmghaa.Dev
open Go.RowKit Go.Own Go.DevL Go.Blk Go.Proofs.YtmdojgkgohmghaaW.PrintLast Go.Proofs.YtmdojgkgohmghaaW.PrintWords
set_option linter.unusedVariables false
set_option maxRecDepth 100000
set_option linter.unusedSimpArgs false
variable {F : Nat → Prop} {w w' : World} {p gf gn : Nat} {vl : Value} {d : Dv}
set_option maxHeartbeats 1000000 in
theorem write_bad (h : At F w p gf gn vl d) (i : Int) (b : ByteArray) (hb : (d.bad i || b.size != 256) = true) : Calls Try.prog 32 #[.pointer (some ⟨p, 0, none⟩), .int .i64 i, .string b] w fun e w' => e = .returned (.int .i64 1) ∧ w = w' := by
  have hx := blk5 h.hp
  have H := Lib.hid h
  have hn2 := H.out.ok.n2
  clear h
  obtain ⟨x0, y0, x1, y1, x2, y2, x3, y3, x4, y4⟩ := hx
  have HB := Lib.hid hb
  clear hb
  go_enter Try.func32, Try.ntmps32
  by_cases h0 : i < 0
  · go_wp2
    go_ret
    exact ⟨rfl, rfl⟩
  · by_cases h1 : (d.firm.length : Int) ≤ i
    · go_wp2
      go_ret
      exact ⟨rfl, rfl⟩
    · have h2 : b.size ≠ 256 := by
        have := HB.out
        simp only [Dv.bad, Bool.or_eq_true, decide_eq_true_eq, bne_iff_ne, ne_eq] at this
        omega
      go_wp2
      go_ret
      exact ⟨rfl, rfl⟩
set_option maxHeartbeats 1000000 in
theorem write_dies (h : At F w p gf gn vl d) (i : Nat) (hi : i < d.firm.length) (b : ByteArray) (hs : b.size = 256) (hb : d.burns = true) : Calls Try.prog 32 #[.pointer (some ⟨p, 0, none⟩), .int .i64 i, .string b] w fun e w' => e = .returned (.int .i64 5) ∧ At F w' p gf gn vl d.die ∧ Fr F w w' := by
  have hx := blk5 h.hp
  have hn2 := h.ok.n2
  have HBU := Lib.hid (burn_yes h hb)
  clear h hb
  obtain ⟨x0, y0, x1, y1, x2, y2, x3, y3, x4, y4⟩ := hx
  go_enter Try.func32, Try.ntmps32
  go_wp2_with (go_at_call 48; refine HBU.out.mono ?_; rintro e w1 ⟨rfl, h1, h2⟩; have H1 := Lib.hid h1; have H2 := Lib.hid h2; clear h1 h2 x0 y0 x1 y1 x2 y2 x3 y3 x4 y4)
  go_ret
  exact ⟨rfl, H1.out, H2.out⟩
set_option maxHeartbeats 4000000 in
theorem write_goes (h : At F w p gf gn vl d) (i : Nat) (hi : i < d.firm.length) (b : ByteArray) (hs : b.size = 256) (hb : d.burns = false) (hl : d.late.length ≤ 1000000) :
    Calls Try.prog 32 #[.pointer (some ⟨p, 0, none⟩), .int .i64 i, .string b] w fun e w' => e = .returned (.int .i64 0) ∧ (∃ vl', At (fun k => F k ∨ (w.heap.size ≤ k ∧ k < w'.heap.size)) w' p gf gn vl' { d with late := d.late ++ [(i, b)], fuse := less d.fuse }) ∧ Fr F w w' := by
  have hx := blk5 h.hp
  have hn2 := h.ok.n2
  have HBU := Lib.hid (burn_no h hb)
  have HL := Lib.hid hl
  have HS := Lib.hid hs
  have HI := Lib.hid hi
  clear h hb hl
  obtain ⟨x0, y0, x1, y1, x2, y2, x3, y3, x4, y4⟩ := hx
  go_enter Try.func32, Try.ntmps32
  go_wp2_with (first | (go_at_call 48; refine HBU.out.mono ?_; rintro e w1 ⟨rfl, h1, h2⟩; have H1 := Lib.hid h1; have H2 := Lib.hid h2; clear h1 h2 x0 y0 x1 y1 x2 y2 x3 y3 x4 y4) | ((with_reducible refine gate_dst (N := 33) rfl ?_); refine wpList_val rfl rfl (execOp_build (ps := #[(0, .int .i64 (i : Int))]) rfl rfl (run_build_w _ _)) ?_) | ((with_reducible refine gate_dst (N := 8) rfl ?_); refine wpList_val rfl rfl (execOp_alloc rfl (run_alloc_w _)) ?_; refine stop_here ?_))
  refine Lib.hid ?_
  have HZ := run_storeAt_row (P := Try.prog) (w1.alloc (.cells (zw 0).toArray 87)) w1.heap.size 0 87 (zw 0) 87 (zw i).toArray (alloc_at w1 _) (by rw [List.size_toArray, zw_length, zw_length]; omega) (by rw [List.size_toArray, zw_length]; exact (info_parts info_w).elim fun i h => by rw [h.1]; exact congrArg some h.2.2.1) (zw_one _)
  refine wpList_none rfl rfl (execOp_store rfl rfl rfl HZ) ?_
  clear HZ
  rw [List.toList_toArray, over_all (by rw [zw_length, zw_length]; omega)]
  obtain ⟨G, hG⟩ : ∃ G, w1.heap.size = G := ⟨_, rfl⟩
  rw [hG]
  have HB2 : Hid (Below w1.heap.size w1 ((w1.alloc (.cells (zw 0).toArray 87)).setRow G (zw i).toArray)) := below_setRow ((Below.refl _ _).alloc (Nat.le_refl _) _) (by omega) _
  have BG2 : Hid (((w1.alloc (.cells (zw 0).toArray 87)).setRow G (zw i).toArray).heap[G]? = some (.cells (zw i).toArray 87 (0, 0))) := setRow_heap _ G _ _ _ _ (by rw [← hG]; exact alloc_at w1 _)
  generalize (w1.alloc (.cells (zw 0).toArray 87)).setRow G (zw i).toArray = w2 at HB2 BG2 ⊢
  have HFG : Hid (¬ F G) := fun hf => by have := H1.out.lt _ hf; omega
  have HWG : Hid (w.heap.size ≤ G) := by have := H2.out.size; rw [← hG]; exact this
  have HA2 := Lib.hid (H1.out.below HB2.out)
  have HF2 := Lib.hid (H2.out.trans (Fr.of_below (F := F) HB2.out) (fun _ _ h => h))
  clear H1 H2 HB2 hG
  have HCP := Lib.run_copy_row_string (P := Try.prog) w2 95 9 3 5 G 1 256 256 b (zw i).toArray 87 Try.underlying95 info_u8 BG2.out (by omega) (by rw [List.size_toArray, zw_length]; omega)
  rw [over_zw i b hs] at HCP
  have HCPH := Lib.hid HCP
  clear HCP
  go_wp2_with ((with_reducible refine gate_dst (N := 37) rfl ?_); refine wpList_val rfl rfl (execOp_copy rfl rfl rfl HCPH.out) ?_; refine stop_here ?_)
  refine Lib.hid ?_
  have HA3 := Lib.hid (HA2.out.keep (Fr.setRow (F := fun k => k = G) w2 (g := G) rfl (wcells (i, b)).toArray) (fun k hk e => HFG.out (e ▸ hk)))
  have HF3 := Lib.hid (HF2.out.trans (Fr.setRow (F := fun k => k = G) w2 (g := G) rfl (wcells (i, b)).toArray) (fun k hk e => by have := HWG.out; omega))
  have BG3 := Lib.hid (setRow_heap w2 G _ (wcells (i, b)).toArray _ _ BG2.out)
  generalize w2.setRow G (wcells (i, b)).toArray = w3 at HA3 HF3 BG3 ⊢
  clear HCPH HA2 HF2 BG2
  have hxa := blk5 HA3.out.hp
  clear hs
  go_wp2
  have HV := Lib.hid (row_form HA3.out.hl)
  have HB3 := Lib.hid HA3.out.hl
  have HW := Lib.hid (wcells_length (x := (i, b)) HS.out)
  clear hxa
  refine start_ (n := 11) (S := fun w' => w'.heap[p]? = some (.cells #[.slice (some ⟨gf, 0, none⟩) d.firm.length d.firm.length, .slice (some ⟨gn, 0, none⟩) d.firm.length d.firm.length, vl, .int .i64 (less d.fuse), .bool d.dead] 74 (0, 0)) ∧ w'.heap[G]? = some (.cells (wcells (i, b)).toArray 87 (0, 0))) (ds := [10]) #[false, false, false, false, false, false, false, false, false, false, false] (by kernel_rfl) rfl rfl (⟨HA3.out.hp, BG3.out⟩) (fun hHeld => ?_)
  have HA4 := Lib.hid HA3.out.drew
  have HF4 := Lib.hid (HF3.out.trans (Fr.drew F w3) (fun _ _ h => h))
  have BG4 := Lib.hid (show w3.drew.heap[G]? = _ from BG3.out)
  generalize w3.drew = w4 at HA4 HF4 BG4 hHeld ⊢
  clear HA3 HF3 BG3 HB3
  refine pure_ (i := 0) (N := some 38) (v := ?_) (a' := ?_) #[true, false, false, false, false, false, false, false, false, false, false] rfl rfl (by kernel_rfl) (fun _ _ _ h => h) (Or.inl ⟨by rfl, ?_⟩) ?_ ?_
  rotate_left
  · intro w'
    go_simp
    with_reducible rfl
  rotate_left
  · simp only [Act.put, List.setIfInBounds_toArray, List.set_cons_zero, List.set_cons_succ, i64_w, i32_w]
    rfl
  refine pure_ (i := 1) (N := some 39) (v := ?_) (a' := ?_) #[true, true, false, false, false, false, false, false, false, false, false] rfl rfl (by kernel_rfl) (fun _ _ _ h => h) (Or.inl ⟨by rfl, ?_⟩) ?_ ?_
  rotate_left
  · intro w'
    go_simp
    with_reducible rfl
  rotate_left
  · simp only [Act.put, List.setIfInBounds_toArray, List.set_cons_zero, List.set_cons_succ, i64_w, i32_w]
    rfl
  refine pure_ (i := 2) (N := some 40) (v := ?_) (a' := ?_) #[true, true, true, false, false, false, false, false, false, false, false] rfl rfl (by kernel_rfl) (fun _ _ _ h => h) (Or.inl ⟨by rfl, ?_⟩) ?_ ?_
  rotate_left
  · intro w'
    go_simp
    with_reducible rfl
  rotate_left
  · simp only [Act.put, List.setIfInBounds_toArray, List.set_cons_zero, List.set_cons_succ, i64_w, i32_w]
    rfl
  refine pure_ (i := 3) (N := some 41) (v := ?_) (a' := ?_) #[true, true, true, true, false, false, false, false, false, false, false] rfl rfl (by kernel_rfl) (fun _ _ _ h => h) (Or.inl ⟨by rfl, ?_⟩) ?_ ?_
  rotate_left
  · intro w'
    go_simp
    with_reducible rfl
  rotate_left
  · simp only [Act.put, List.setIfInBounds_toArray, List.set_cons_zero, List.set_cons_succ, i64_w, i32_w]
    rfl
  refine take_ (i := 4) (N := some 42) (v := ?_) (a' := ?_) #[true, true, true, true, true, false, false, false, false, false, false] rfl rfl (by kernel_rfl) (fun _ _ _ h => h) (Or.inl ⟨by rfl, ?_⟩) hHeld ?_ ?_
  rotate_left
  · intro w' hS
    have s5 := blk5 hS.1
    obtain ⟨z0, _, z1, _, z2, _, z3, _, z4, _⟩ := s5
    go_simp
    with_reducible rfl
  rotate_left
  · simp only [Act.put, List.setIfInBounds_toArray, List.set_cons_zero, List.set_cons_succ, i64_w, i32_w]
    rfl
  refine take_ (i := 5) (N := some 43) (v := .agg (wcells (i, b)).toArray) (a' := ?_) #[true, true, true, true, true, true, false, false, false, false, false] rfl rfl (by kernel_rfl) (fun _ _ _ h => h) (yieldsIf_load_mid (by rfl) 87 (.tmp 8) rfl G 0 rfl (wcells (i, b)) _ (fun w' hS j v hv => by rw [cell_of_row w' G _ _ _ _ hS.2]; simpa using hv) Try.underlying87 rfl (by rw [HW.out]; exact (info_parts info_w).elim fun i h => by rw [h.1]; exact congrArg some h.2.2.1)) hHeld ?_ ?_
  rotate_left
  · simp only [Act.put, List.setIfInBounds_toArray, List.set_cons_zero, List.set_cons_succ, i64_w, i32_w]
    rfl
  refine one_ (i := 6) (N := some 44) #[true, true, true, true, true, true, true, false, false, false, false] rfl rfl (by kernel_rfl) (by decide) (fun K hK => ?_)
  have RBS := run_buildSlice_one (P := Try.prog) w4 72 87 (info_parts info_w).choose _ (wcells (i, b)).toArray Try.underlying72 (info_parts info_w).choose_spec.1 (info_parts info_w).choose_spec.2.1 (by rw [List.size_toArray, HW.out]; exact (info_parts info_w).choose_spec.2.2.1) (by rw [List.size_toArray, HW.out]; omega) (by rw [List.size_toArray, HW.out]; omega) (by show (zw 0).toArray.size = _; rw [List.size_toArray, List.size_toArray, HW.out]; exact zw_length 0)
  refine value_ (by rfl) rfl (execOp_buildSlice (ps := #[(0, .agg (wcells (i, b)).toArray)]) rfl rfl RBS) ?_
  clear RBS
  have HA5 := Lib.hid (HA4.out.keep (Fr.alloc (fun _ => False) w4 (.cells (wcells (i, b)).toArray 87)) (fun _ _ h => h))
  have HF5 := Lib.hid (HF4.out.trans (Fr.alloc F w4 (.cells (wcells (i, b)).toArray 87)) (fun _ _ h => h))
  have BG5 := Lib.hid (alloc_old BG4.out (.cells (wcells (i, b)).toArray 87))
  have BN5 := Lib.hid (alloc_at w4 (.cells (wcells (i, b)).toArray 87))
  have hGN : Hid (w4.heap.size ≠ G ∧ w.heap.size ≤ w4.heap.size) := ⟨by have := lt_of BG4.out; omega, HF4.out.size⟩
  obtain ⟨N, hN⟩ : ∃ N, w4.heap.size = N := ⟨_, rfl⟩
  rw [hN] at BN5 hGN ⊢
  clear hN
  generalize w4.alloc (.cells (wcells (i, b)).toArray 87) = w5 at HA5 HF5 BG5 BN5 ⊢
  clear HA4 HF4 BG4 hHeld
  refine hK.out _ _ ⟨HA5.out.hp, BG5.out⟩ (fun hHeld => ?_)
  clear hK K
  refine norm_ (a' := ?_) ?_ ?_
  rotate_left
  · show Act.put _ (some 44) _ = _
    simp only [Act.put, List.setIfInBounds_toArray, List.set_cons_zero, List.set_cons_succ, i64_w, i32_w]
    rfl
  refine one_ (i := 7) (N := some 45) #[true, true, true, true, true, true, true, true, false, false, false] rfl rfl (by kernel_rfl) (by decide) (fun K hK => ?_)
  obtain ⟨v', w6, hr, hown', hg', _, hat'⟩ := run_append_own_at (P := Try.prog) w5 0 72 72 87 (info_parts info_w).choose _ 257 264 Try.underlying72 (info_parts info_w).choose_spec.1 (info_parts info_w).choose_spec.2.1 (info_parts info_w).choose_spec.2.2.1 (info_parts info_w).choose_spec.2.2.2 (by show (zw 0).toArray.size = _; rw [List.size_toArray]; exact zw_length 0) (by omega) vl d.late.length _ HA5.out.hl ⟨N, 0, none⟩ 1 1 (wcells (i, b)) (by rw [HW.out]) (fun j u hu => by rw [Addr.add_mid, cell_of_row w5 N _ _ _ _ BN5.out]; simpa using hu) (wcells_one _) (by have := HL.out; unfold maxLen; omega) (by have := HL.out; omega) (Nat.zero_le _)
  refine value_ (by rfl) rfl (execOp_append rfl rfl rfl hr) ?_
  clear hr
  have HO6 := Lib.hid hown'
  have HG6 := Lib.hid hg'
  clear hown' hg'
  have hpl : ∀ k, vl.ownBlock = some k → k ≠ p ∧ k ≠ gf ∧ k ≠ gn := HA5.out.n2
  have HP6 := Lib.hid ((HG6.out.block p (HA5.out.lt _ HA5.out.fp) (fun e => (hpl p e.symm).1 rfl)).trans HA5.out.hp)
  have HFF6 := Lib.hid ((HG6.out.block gf (HA5.out.lt _ HA5.out.ff) (fun e => (hpl gf e.symm).2.1 rfl)).trans HA5.out.hf)
  have HN6 := Lib.hid ((HG6.out.block gn (HA5.out.lt _ HA5.out.fn) (fun e => (hpl gn e.symm).2.2 rfl)).trans HA5.out.hn)
  have HBG6 := Lib.hid ((HG6.out.block G (lt_of BG5.out) (fun e => HFG.out (HA5.out.fl G e.symm))).trans BG5.out)
  have HNB : Hid (∀ k, v'.ownBlock = some k → (F k ∨ w.heap.size ≤ k) ∧ k ≠ p ∧ k ≠ gf ∧ k ≠ gn ∧ k ≠ G) := fun k hk => by
    rcases hat' with e | e
    · rw [e] at hk
      exact ⟨.inl (HA5.out.fl k hk), (hpl k hk).1, (hpl k hk).2.1, (hpl k hk).2.2, fun e => HFG.out (e ▸ HA5.out.fl k hk)⟩
    · rw [e] at hk
      simp only [Option.some.injEq] at hk
      have h1 := HA5.out.lt _ HA5.out.fp
      have h2 := HA5.out.lt _ HA5.out.ff
      have h3 := HA5.out.lt _ HA5.out.fn
      have h4 := lt_of BG5.out
      have h5 := HF5.out.size
      exact ⟨.inr (by omega), by omega, by omega, by omega, by omega⟩
  clear hat'
  have HF6 := Lib.hid (HF5.out.trans (Fr.grown (F := F) HG6.out (fun k hk => HA5.out.fl k hk)) (fun _ _ h => h))
  clear hpl
  obtain ⟨av, cv, rfl, _⟩ := row_form HO6.out
  refine hK.out _ _ ⟨HP6.out, HBG6.out⟩ (fun hHeld => ?_)
  clear hK K
  refine norm_ (a' := ?_) ?_ ?_
  rotate_left
  · show Act.put _ (some 45) _ = _
    simp only [Act.put, List.setIfInBounds_toArray, List.set_cons_zero, List.set_cons_succ, i64_w, i32_w]
    rfl
  refine pure_ (i := 8) (N := some 46) (v := ?_) (a' := ?_) #[true, true, true, true, true, true, true, true, true, false, false] rfl rfl (by kernel_rfl) (fun _ _ _ h => h) (Or.inl ⟨by rfl, ?_⟩) ?_ ?_
  rotate_left
  · intro w'
    go_simp
    with_reducible rfl
  rotate_left
  · simp only [Act.put, List.setIfInBounds_toArray, List.set_cons_zero, List.set_cons_succ, i64_w, i32_w]
    rfl
  refine pure_ (i := 9) (N := some 47) (v := ?_) (a' := ?_) #[true, true, true, true, true, true, true, true, true, true, false] rfl rfl (by kernel_rfl) (fun _ _ _ h => h) (Or.inl ⟨by rfl, ?_⟩) ?_ ?_
  rotate_left
  · intro w'
    go_simp
    with_reducible rfl
  rotate_left
  · simp only [Act.put, List.setIfInBounds_toArray, List.set_cons_zero, List.set_cons_succ, i64_w, i32_w]
    rfl
  refine last_ (i := 10) (N := none) #[true, true, true, true, true, true, true, true, true, true, true] rfl rfl (by kernel_rfl) (by decide) (fun K hK => ?_)
  have s5 := blk5 HP6.out
  obtain ⟨z0, f0, z1, f1, z2, f2, z3, f3, z4, f4⟩ := s5
  refine skip_ (w1 := ?_) (by rfl) rfl ?_ ?_
  rotate_left
  · go_simp
    rfl
  clear z0 f0 z1 f1 z2 f2 z3 f3 z4 f4
  refine hK.out _ _ ?_
  clear hK K
  refine done_ (by kernel_rfl) ?_
  have HP7 := Lib.hid (set_at HP6.out 2 (.slice av (d.late.length + 1) cv))
  have HNE := Lib.hid HA5.out.n1
  have HFFF := Lib.hid (And.intro HA5.out.fp (And.intro HA5.out.ff HA5.out.fn))
  have HOK := Lib.hid HA5.out.ok
  have HNS := Lib.hid (show ∀ b ∈ d.now, b.size = 256 from HOK.out.now_size)
  have HNL := Lib.hid (show d.now.length = d.firm.length from HOK.out.now_length)
  have HFF7 := Lib.hid (set_far HFF6.out (p := ⟨p, 2, none⟩) (fun e => HNE.out.1 e.symm) (.slice av (d.late.length + 1) cv))
  have HN7 := Lib.hid (set_far HN6.out (p := ⟨p, 2, none⟩) (fun e => HNE.out.2.1 e.symm) (.slice av (d.late.length + 1) cv))
  have HBG7 := Lib.hid (set_far HBG6.out (p := ⟨p, 2, none⟩) (fun e => HFG.out (e ▸ HFFF.out.1)) (.slice av (d.late.length + 1) cv))
  have HO7 := Lib.hid ((Fr.setCell (F := fun k => k = p) w6 (p := ⟨p, 2, none⟩) rfl (.slice av (d.late.length + 1) cv)).row HO6.out (fun k hk e => (HNB.out k hk).2.1 e))
  have HF7 := Lib.hid (HF6.out.trans (Fr.setCell (F := F) w6 (p := ⟨p, 2, none⟩) HFFF.out.1 (.slice av (d.late.length + 1) cv)) (fun _ _ h => h))
  have HLT7 : Hid (∀ k, (F k ∨ (w.heap.size ≤ k ∧ k < (w6.setCell ⟨p, 2, none⟩ (.slice av (d.late.length + 1) cv)).heap.size)) → k < (w6.setCell ⟨p, 2, none⟩ (.slice av (d.late.length + 1) cv)).heap.size) := by
    rintro k (hk | hk)
    · have h1 := HA5.out.lt k hk
      have h2 := HG6.out.size
      simp only [World.setCell, Array.size_modify]; omega
    · exact hk.2
  have e7 : (#[.slice (some ⟨gf, 0, none⟩) d.firm.length d.firm.length, .slice (some ⟨gn, 0, none⟩) d.firm.length d.firm.length, vl, .int .i64 (less d.fuse), .bool d.dead] : Array Value).setIfInBounds 2 (.slice av (d.late.length + 1) cv) = #[.slice (some ⟨gf, 0, none⟩) d.firm.length d.firm.length, .slice (some ⟨gn, 0, none⟩) d.firm.length d.firm.length, .slice av (d.late.length + 1) cv, .int .i64 (less d.fuse), .bool d.dead] := rfl
  rw [e7] at HP7
  clear e7
  generalize w6.setCell ⟨p, 2, none⟩ (.slice av (d.late.length + 1) cv) = w7 at HP7 HFF7 HN7 HBG7 HO7 HF7 HLT7 ⊢
  clear HP6 HFF6 HN6 HBG6 HO6 HF6 HA5 HF5 BG5 BN5 HG6 hHeld
  go_wp2
  refine start_ (n := 9) (S := fun w' => w'.heap[p]? = some (.cells #[.slice (some ⟨gf, 0, none⟩) d.firm.length d.firm.length, .slice (some ⟨gn, 0, none⟩) d.firm.length d.firm.length, .slice av (d.late.length + 1) cv, .int .i64 (less d.fuse), .bool d.dead] 74 (0, 0)) ∧ w'.heap[G]? = some (.cells (wcells (i, b)).toArray 87 (0, 0))) (ds := [8]) #[false, false, false, false, false, false, false, false, false] (by kernel_rfl) rfl rfl (⟨HP7.out, HBG7.out⟩) (fun hHeld => ?_)
  have HP8 := Lib.hid (show w7.drew.heap[p]? = _ from HP7.out)
  have HFF8 := Lib.hid (show w7.drew.heap[gf]? = _ from HFF7.out)
  have HN8 := Lib.hid (show w7.drew.heap[gn]? = _ from HN7.out)
  have HO8 := Lib.hid ((Fr.drew (fun _ => False) w7).row HO7.out (fun _ _ h => h))
  have HF8 := Lib.hid (HF7.out.trans (Fr.drew F w7) (fun _ _ h => h))
  have HLT8 := Lib.hid (show ∀ k, (F k ∨ (w.heap.size ≤ k ∧ k < w7.drew.heap.size)) → k < w7.drew.heap.size from HLT7.out)
  generalize w7.drew = w8 at HP8 HFF8 HN8 HO8 HF8 HLT8 hHeld ⊢
  clear HP7 HFF7 HN7 HO7 HF7 HBG7 HLT7
  refine pure_ (i := 0) (N := some 48) (v := ?_) (a' := ?_) #[true, false, false, false, false, false, false, false, false] rfl rfl (by kernel_rfl) (fun _ _ _ h => h) (Or.inl ⟨by rfl, ?_⟩) ?_ ?_
  rotate_left
  · intro w'
    go_simp
    with_reducible rfl
  rotate_left
  · simp only [Act.put, List.setIfInBounds_toArray, List.set_cons_zero, List.set_cons_succ, i64_w, i32_w]
    rfl
  refine pure_ (i := 1) (N := some 49) (v := ?_) (a' := ?_) #[true, true, false, false, false, false, false, false, false] rfl rfl (by kernel_rfl) (fun _ _ _ h => h) (Or.inl ⟨by rfl, ?_⟩) ?_ ?_
  rotate_left
  · intro w'
    go_simp
    with_reducible rfl
  rotate_left
  · simp only [Act.put, List.setIfInBounds_toArray, List.set_cons_zero, List.set_cons_succ, i64_w, i32_w]
    rfl
  refine pure_ (i := 2) (N := some 50) (v := ?_) (a' := ?_) #[true, true, true, false, false, false, false, false, false] rfl rfl (by kernel_rfl) (fun _ _ _ h => h) (Or.inl ⟨by rfl, ?_⟩) ?_ ?_
  rotate_left
  · intro w'
    go_simp
    with_reducible rfl
  rotate_left
  · simp only [Act.put, List.setIfInBounds_toArray, List.set_cons_zero, List.set_cons_succ, i64_w, i32_w]
    rfl
  refine take_ (i := 3) (N := some 51) (v := ?_) (a' := ?_) #[true, true, true, true, false, false, false, false, false] rfl rfl (by kernel_rfl) (fun _ _ _ h => h) (Or.inl ⟨by rfl, ?_⟩) hHeld ?_ ?_
  rotate_left
  · intro w' hS
    have s5 := blk5 hS.1
    obtain ⟨z0, _, z1, _, z2, _, z3, _, z4, _⟩ := s5
    go_simp
    with_reducible rfl
  rotate_left
  · simp only [Act.put, List.setIfInBounds_toArray, List.set_cons_zero, List.set_cons_succ, i64_w, i32_w]
    rfl
  refine pure_ (i := 4) (N := some 52) (v := ?_) (a' := ?_) #[true, true, true, true, true, false, false, false, false] rfl rfl (by kernel_rfl) (fun _ _ _ h => h) (Or.inl ⟨by rfl, ?_⟩) ?_ ?_
  rotate_left
  · intro w'
    go_simp
    with_reducible rfl
  rotate_left
  · simp only [Act.put, List.setIfInBounds_toArray, List.set_cons_zero, List.set_cons_succ, i64_w, i32_w]
    rfl
  refine pure_ (i := 5) (N := some 53) (v := ?_) (a' := ?_) #[true, true, true, true, true, true, false, false, false] rfl rfl (by kernel_rfl) (fun _ _ _ h => h) (Or.inl ⟨by rfl, ?_⟩) ?_ ?_
  rotate_left
  · intro w'
    go_simp
    with_reducible rfl
  rotate_left
  · simp only [Act.put, List.setIfInBounds_toArray, List.set_cons_zero, List.set_cons_succ, i64_w, i32_w]
    rfl
  refine take_ (i := 6) (N := some 54) (v := .agg (bcells b).toArray) (a' := ?_) #[true, true, true, true, true, true, true, false, false] rfl rfl (by kernel_rfl) (fun _ _ _ h => h) (yieldsIf_load_mid (by rfl) 85 (.tmp 53) rfl G 1 rfl (bcells b) _ (fun w' hS j v hv => by rw [cell_of_row w' G _ _ _ _ hS.2, List.getElem?_toArray, wcells, Nat.add_comm 1 j, List.getElem?_cons_succ]; exact hv) Try.underlying85 rfl (by rw [bcells_length, HS.out]; exact info_b)) hHeld ?_ ?_
  rotate_left
  · simp only [Act.put, List.setIfInBounds_toArray, List.set_cons_zero, List.set_cons_succ, i64_w, i32_w]
    rfl
  refine pure_ (i := 7) (N := some 55) (v := ?_) (a' := ?_) #[true, true, true, true, true, true, true, true, false] rfl rfl (by kernel_rfl) (fun _ _ _ h => h) (Or.inl ⟨by rfl, ?_⟩) ?_ ?_
  rotate_left
  · intro w'
    go_simp
    with_reducible rfl
  rotate_left
  · simp only [Act.put, List.setIfInBounds_toArray, List.set_cons_zero, List.set_cons_succ, i64_w, i32_w]
    rfl
  refine last_ (i := 8) (N := none) #[true, true, true, true, true, true, true, true, true] rfl rfl (by kernel_rfl) (by decide) (fun K hK => ?_)
  have HST := run_storeAt_row (P := Try.prog) w8 gn (i * 256) 85 (d.now.flatMap bcells) 85 (bcells b).toArray HN8.out (by rw [List.size_toArray, bcells_length, HS.out, flat_length (lens HNS.out), HNL.out]; have := HI.out; omega) (by rw [List.size_toArray, bcells_length, HS.out]; exact info_b) (by rw [List.toList_toArray]; exact bcells_one b)
  refine skip_ (by rfl) rfl (execOp_store rfl rfl rfl HST) ?_
  clear HST
  refine hK.out _ _ ?_
  clear hK K
  refine done_ (by kernel_rfl) ?_
  go_wp2
  go_ret
  refine ⟨rfl, ⟨.slice av (d.late.length + 1) cv, ?_⟩, HF8.out.trans (Fr.setRow w8 (g := gn) HFFF.out.2.2 _) (fun _ _ h => h)⟩
  have hsz : (w8.setRow gn (over (d.now.flatMap bcells) (i * 256) (bcells b)).toArray).heap.size = w8.heap.size := size_setRow ..
  have hov : over (d.now.flatMap bcells) (i * 256) (bcells b) = (d.now.set i b).flatMap bcells := by
    rw [flat_set (lens HNS.out) i (by rw [HNL.out]; exact HI.out) b]
    unfold over
    rw [bcells_length, HS.out]
  rw [hsz, hov]
  exact {
    ok := ⟨HOK.out.n1, HOK.out.n2, HOK.out.sz, fun x hx => by
      rcases List.mem_append.1 hx with hx | hx
      · exact HOK.out.la x hx
      · simp only [List.mem_singleton] at hx
        subst hx
        exact ⟨HI.out, HS.out⟩, HOK.out.f1, HOK.out.f2⟩
    fp := .inl HFFF.out.1
    ff := .inl HFFF.out.2.1
    fn := .inl HFFF.out.2.2
    fl := fun k hk => (HNB.out k hk).1.imp id (fun h => ⟨h, (HO8.out.lt k hk).2⟩)
    n1 := HNE.out
    n2 := fun k hk => ⟨(HNB.out k hk).2.1, (HNB.out k hk).2.2.1, (HNB.out k hk).2.2.2.1⟩
    hp := by rw [setRow_other _ _ _ _ HNE.out.2.1]; exact HP8.out
    hf := (setRow_other _ _ _ _ HNE.out.2.2).trans HFF8.out
    hn := by
      have e : Dv.now { d with late := d.late ++ [(i, b)], fuse := less d.fuse } = d.now.set i b := by unfold Dv.now; rw [List.foldl_append]; rfl
      rw [e]
      exact setRow_heap _ _ _ _ _ _ HN8.out
    hl := by
      have h := row_kept HO8.out (w' := w8.setRow gn ((d.now.set i b).flatMap bcells).toArray) (fun k hk => setRow_other _ _ _ _ (HNB.out k hk).2.2.2.1)
      rw [List.length_append, List.flatMap_append]
      simpa using h
    lt := fun k hk => by rw [size_setRow]; exact HLT8.out k hk }
end Go.Proofs.Ytmdojgkgohmghaa.Dev
namespace Go.Proofs.Ytmdojgkgohmghaa.Dev
open Go.RowKit Go.Own Go.DevL Go.Blk Go.Proofs.YtmdojgkgohmghaaW.PrintLast Go.Proofs.YtmdojgkgohmghaaW.PrintWords
set_option linter.unusedVariables false
set_option maxRecDepth 100000
set_option linter.unusedSimpArgs false
variable {F : Nat → Prop} {w w' : World} {p gf gn : Nat} {vl : Value} {d : Dv}
set_option maxHeartbeats 1000000 in
theorem barrier_dies (h : At F w p gf gn vl d) (hb : d.burns = true) : Calls Try.prog 33 #[.pointer (some ⟨p, 0, none⟩)] w fun e w' => e = .returned (.int .i64 5) ∧ At F w' p gf gn vl d.die ∧ Fr F w w' := by
  have HBU := Lib.hid (burn_yes h hb)
  clear h hb
  go_enter Try.func33, Try.ntmps33
  go_wp2_with (go_at_call 48; refine HBU.out.mono ?_; rintro e w1 ⟨rfl, h1, h2⟩; have H1 := Lib.hid h1; have H2 := Lib.hid h2; clear h1 h2)
  go_ret
  exact ⟨rfl, H1.out, H2.out⟩
set_option maxHeartbeats 2000000 in
theorem barrier_goes (h : At F w p gf gn vl d) (hb : d.burns = false) :
    Calls Try.prog 33 #[.pointer (some ⟨p, 0, none⟩)] w fun e w' => e = .returned (.int .i64 0) ∧ At F w' p gf gn (.slice none 0 0) { d with firm := d.now, late := [], fuse := less d.fuse } ∧ Fr F w w' := by
  have HBU := Lib.hid (burn_no h hb)
  clear h hb
  go_enter Try.func33, Try.ntmps33
  go_wp2_with (first | (go_at_call 48; refine HBU.out.mono ?_; rintro e w1 ⟨rfl, h1, h2⟩; have H1 := Lib.hid h1; have H2 := Lib.hid h2; clear h1 h2; have hx := blk5 H1.out.hp))
  have HNE := Lib.hid H1.out.n1
  have HFFF := Lib.hid (And.intro H1.out.fp (And.intro H1.out.ff H1.out.fn))
  have HOK := Lib.hid H1.out.ok
  have HNS := Lib.hid (show ∀ b ∈ d.now, b.size = 256 from HOK.out.now_size)
  have HNL := Lib.hid (show d.now.length = d.firm.length from HOK.out.now_length)
  have HFS := Lib.hid (show ∀ b ∈ d.firm, b.size = 256 from HOK.out.sz)
  have HP2 := Lib.hid (set_at H1.out.hp 2 (.slice none 0 0))
  have HFF2 := Lib.hid (set_far H1.out.hf (p := ⟨p, 2, none⟩) (fun e => HNE.out.1 e.symm) (.slice none 0 0))
  have HN2 := Lib.hid (set_far H1.out.hn (p := ⟨p, 2, none⟩) (fun e => HNE.out.2.1 e.symm) (.slice none 0 0))
  have HF2 := Lib.hid (H2.out.trans (Fr.setCell (F := F) w1 (p := ⟨p, 2, none⟩) HFFF.out.1 (.slice none 0 0)) (fun _ _ h => h))
  have HLT2 : Hid (∀ k, F k → k < (w1.setCell ⟨p, 2, none⟩ (.slice none 0 0)).heap.size) := fun k hk => by
    have h1 := H1.out.lt k hk
    simp only [World.setCell, Array.size_modify]; omega
  have e7 : (#[.slice (some ⟨gf, 0, none⟩) d.firm.length d.firm.length, .slice (some ⟨gn, 0, none⟩) d.firm.length d.firm.length, vl, .int .i64 (less d.fuse), .bool d.dead] : Array Value).setIfInBounds 2 (.slice none 0 0) = #[.slice (some ⟨gf, 0, none⟩) d.firm.length d.firm.length, .slice (some ⟨gn, 0, none⟩) d.firm.length d.firm.length, .slice none 0 0, .int .i64 (less d.fuse), .bool d.dead] := rfl
  rw [e7] at HP2
  clear e7 hx H1 H2
  generalize w1.setCell ⟨p, 2, none⟩ (.slice none 0 0) = w2 at HP2 HFF2 HN2 HF2 HLT2 ⊢
  refine start_ (n := 9) (S := fun w' => w'.heap[p]? = some (.cells #[.slice (some ⟨gf, 0, none⟩) d.firm.length d.firm.length, .slice (some ⟨gn, 0, none⟩) d.firm.length d.firm.length, .slice none 0 0, .int .i64 (less d.fuse), .bool d.dead] 74 (0, 0))) (ds := [8]) #[false, false, false, false, false, false, false, false, false] (by kernel_rfl) rfl rfl (HP2.out) (fun hHeld => ?_)
  have HP3 := Lib.hid (show w2.drew.heap[p]? = _ from HP2.out)
  have HFF3 := Lib.hid (show w2.drew.heap[gf]? = _ from HFF2.out)
  have HN3 := Lib.hid (show w2.drew.heap[gn]? = _ from HN2.out)
  have HF3 := Lib.hid (HF2.out.trans (Fr.drew F w2) (fun _ _ h => h))
  have HLT3 := Lib.hid (show ∀ k, F k → k < w2.drew.heap.size from HLT2.out)
  generalize w2.drew = w3 at HP3 HFF3 HN3 HF3 HLT3 hHeld ⊢
  clear HP2 HFF2 HN2 HF2 HLT2
  refine pure_ (i := 0) (N := some 14) (v := ?_) (a' := ?_) #[true, false, false, false, false, false, false, false, false] rfl rfl (by kernel_rfl) (fun _ _ _ h => h) (Or.inl ⟨by rfl, ?_⟩) ?_ ?_
  rotate_left
  · intro w'
    go_simp
    with_reducible rfl
  rotate_left
  · simp only [Act.put, List.setIfInBounds_toArray, List.set_cons_zero, List.set_cons_succ, i64_w, i32_w]
    rfl
  refine pure_ (i := 1) (N := some 15) (v := ?_) (a' := ?_) #[true, true, false, false, false, false, false, false, false] rfl rfl (by kernel_rfl) (fun _ _ _ h => h) (Or.inl ⟨by rfl, ?_⟩) ?_ ?_
  rotate_left
  · intro w'
    go_simp
    with_reducible rfl
  rotate_left
  · simp only [Act.put, List.setIfInBounds_toArray, List.set_cons_zero, List.set_cons_succ, i64_w, i32_w]
    rfl
  refine pure_ (i := 2) (N := some 16) (v := ?_) (a' := ?_) #[true, true, true, false, false, false, false, false, false] rfl rfl (by kernel_rfl) (fun _ _ _ h => h) (Or.inl ⟨by rfl, ?_⟩) ?_ ?_
  rotate_left
  · intro w'
    go_simp
    with_reducible rfl
  rotate_left
  · simp only [Act.put, List.setIfInBounds_toArray, List.set_cons_zero, List.set_cons_succ, i64_w, i32_w]
    rfl
  refine take_ (i := 3) (N := some 17) (v := ?_) (a' := ?_) #[true, true, true, true, false, false, false, false, false] rfl rfl (by kernel_rfl) (fun _ _ _ h => h) (Or.inl ⟨by rfl, ?_⟩) hHeld ?_ ?_
  rotate_left
  · intro w' hS
    have s5 := blk5 hS
    obtain ⟨z0, _, z1, _, z2, _, z3, _, z4, _⟩ := s5
    go_simp
    with_reducible rfl
  rotate_left
  · simp only [Act.put, List.setIfInBounds_toArray, List.set_cons_zero, List.set_cons_succ, i64_w, i32_w]
    rfl
  refine pure_ (i := 4) (N := some 18) (v := ?_) (a' := ?_) #[true, true, true, true, true, false, false, false, false] rfl rfl (by kernel_rfl) (fun _ _ _ h => h) (Or.inl ⟨by rfl, ?_⟩) ?_ ?_
  rotate_left
  · intro w'
    go_simp
    with_reducible rfl
  rotate_left
  · simp only [Act.put, List.setIfInBounds_toArray, List.set_cons_zero, List.set_cons_succ, i64_w, i32_w]
    rfl
  refine pure_ (i := 5) (N := some 19) (v := ?_) (a' := ?_) #[true, true, true, true, true, true, false, false, false] rfl rfl (by kernel_rfl) (fun _ _ _ h => h) (Or.inl ⟨by rfl, ?_⟩) ?_ ?_
  rotate_left
  · intro w'
    go_simp
    with_reducible rfl
  rotate_left
  · simp only [Act.put, List.setIfInBounds_toArray, List.set_cons_zero, List.set_cons_succ, i64_w, i32_w]
    rfl
  refine pure_ (i := 6) (N := some 20) (v := ?_) (a' := ?_) #[true, true, true, true, true, true, true, false, false] rfl rfl (by kernel_rfl) (fun _ _ _ h => h) (Or.inl ⟨by rfl, ?_⟩) ?_ ?_
  rotate_left
  · intro w'
    go_simp
    with_reducible rfl
  rotate_left
  · simp only [Act.put, List.setIfInBounds_toArray, List.set_cons_zero, List.set_cons_succ, i64_w, i32_w]
    rfl
  refine take_ (i := 7) (N := some 21) (v := ?_) (a' := ?_) #[true, true, true, true, true, true, true, true, false] rfl rfl (by kernel_rfl) (fun _ _ _ h => h) (Or.inl ⟨by rfl, ?_⟩) hHeld ?_ ?_
  rotate_left
  · intro w' hS
    have s5 := blk5 hS
    obtain ⟨z0, _, z1, _, z2, _, z3, _, z4, _⟩ := s5
    go_simp
    with_reducible rfl
  rotate_left
  · simp only [Act.put, List.setIfInBounds_toArray, List.set_cons_zero, List.set_cons_succ, i64_w, i32_w]
    rfl
  refine last_ (i := 8) (N := some 22) #[true, true, true, true, true, true, true, true, true] rfl rfl (by kernel_rfl) (by decide) (fun K hK => ?_)
  have HCP := run_copy_all (P := Try.prog) w3 71 71 3 85 256 gf d.firm.length d.firm.length gn d.firm.length (d.firm.flatMap bcells) (d.now.flatMap bcells) 85 85 Try.underlying71 info_b HFF3.out HN3.out (by rw [flat_length (lens HNS.out), HNL.out]) (flat_length (lens HFS.out)) (fun v hv => by obtain ⟨x, _, hx⟩ := List.mem_flatMap.1 hv; exact bcells_one x v hx)
  refine value_ (by rfl) rfl (execOp_copy rfl rfl rfl HCP) ?_
  clear HCP
  refine hK.out _ _ ?_
  clear hK K
  refine norm_ (a' := ?_) ?_ ?_
  rotate_left
  · show Act.put _ (some 22) _ = _
    simp only [Act.put, List.setIfInBounds_toArray, List.set_cons_zero, List.set_cons_succ, i64_w, i32_w]
    rfl
  refine done_ (by kernel_rfl) ?_
  go_wp2
  go_ret
  refine ⟨rfl, ?_, HF3.out.trans (Fr.setRow w3 (g := gf) HFFF.out.2.1 _) (fun _ _ h => h)⟩
  exact {
    ok := ⟨by show 1 ≤ d.now.length; rw [HNL.out]; exact HOK.out.n1, by show d.now.length ≤ 1024; rw [HNL.out]; exact HOK.out.n2, HNS.out, fun x hx => by simp at hx, HOK.out.f1, HOK.out.f2⟩
    fp := HFFF.out.1
    ff := HFFF.out.2.1
    fn := HFFF.out.2.2
    fl := fun k hk => by simp [Value.ownBlock] at hk
    n1 := HNE.out
    n2 := fun k hk => by simp [Value.ownBlock] at hk
    hp := by
      show (w3.setRow gf _).heap[p]? = some (.cells #[.slice (some ⟨gf, 0, none⟩) d.now.length d.now.length, .slice (some ⟨gn, 0, none⟩) d.now.length d.now.length, .slice none 0 0, .int .i64 (less d.fuse), .bool d.dead] 74 (0, 0))
      rw [setRow_other _ _ _ _ HNE.out.1, HNL.out]; exact HP3.out
    hf := setRow_heap _ _ _ _ _ _ HFF3.out
    hn := (setRow_other _ _ _ _ (fun e => HNE.out.2.2 e.symm)).trans HN3.out
    hl := World.ownsRow_nil _ _ _ _
    lt := fun k hk => by rw [size_setRow]; exact HLT3.out k hk }
end Go.Proofs.Ytmdojgkgohmghaa.Dev
namespace Go.Proofs.Ytmdojgkgohmghaa.Dev
open Go.RowKit Go.Own Go.DevL Go.Blk Go.Proofs.YtmdojgkgohmghaaW.PrintLast Go.Proofs.YtmdojgkgohmghaaW.PrintWords
set_option linter.unusedVariables false
set_option maxRecDepth 100000
set_option linter.unusedSimpArgs false
variable {F : Nat → Prop} {w w' : World} {p gf gn : Nat} {vl : Value} {d : Dv}
set_option maxHeartbeats 2000000 in
theorem crash_calls (h : At F w p gf gn vl d) (keep : Int) (hk0 : 0 ≤ keep) (hk1 : keep < 18446744073709551616) (hl : d.late.length ≤ 1000000) :
    Calls Try.prog 21 #[.pointer (some ⟨p, 0, none⟩), .int .u64 keep] w fun e w' => e = .returned (.tuple #[]) ∧ At F w' p gf gn (.slice none 0 0) (d.crash keep) ∧ Fr F w w' := by
  have hx := blk5 h.hp
  have H := Lib.hid h
  have HL := Lib.hid hl
  clear h
  rcases row_some H.out.hl with ⟨rfl, h0⟩ | ⟨gl, cap, rfl, _⟩
  · go_enter Try.func21, Try.ntmps21
    go_wp2
    go_loopw [4, 5, 13] (fun s4 s5 s13 wr => s13 = .int .i64 0 ∧ Hid (wr = w)) (fun _ _ s13 _ => 0)
    case atStart => exact ⟨rfl, Lib.hid rfl⟩
    case round =>
      obtain ⟨rfl, hw⟩ := hrel
      obtain rfl := hw.out
      go_wp2
      have HP := Lib.hid H.out.hp
      obtain ⟨X, hXX⟩ : ∃ X, d.firm = X := ⟨_, rfl⟩
      have HX := Lib.hid (show X.length = d.firm.length ∧ ∀ b ∈ X, b.size = 256 by rw [← hXX]; exact ⟨rfl, H.out.ok.sz⟩)
      have HRF := Lib.hid (show wr.heap[gf]? = some (.cells (X.flatMap bcells).toArray 85 (0, 0)) by rw [← hXX]; exact H.out.hf)
      have HRN := Lib.hid (show wr.heap[gn]? = wr.heap[gn]? from rfl)
      have HRR := Lib.hid (Fr.refl F wr)
      have HK := Lib.hid (show X = kept keep 0 d.late d.firm by rw [← hXX, List.length_eq_zero_iff.1 h0]; rfl)
      clear hXX
      have HP2 := Lib.hid (set_at HP.out 2 (.slice none 0 0))
      have HFF2 := Lib.hid (set_far HRF.out (p := ⟨p, 2, none⟩) (fun e => H.out.n1.1 e.symm) (.slice none 0 0))
      have HN2 := Lib.hid (set_far (HRN.out.trans H.out.hn) (p := ⟨p, 2, none⟩) (fun e => H.out.n1.2.1 e.symm) (.slice none 0 0))
      have HF2 := Lib.hid (HRR.out.trans (Fr.setCell (F := F) wr (p := ⟨p, 2, none⟩) H.out.fp (.slice none 0 0)) (fun _ _ h => h))
      have e7 : (#[.slice (some ⟨gf, 0, none⟩) d.firm.length d.firm.length, .slice (some ⟨gn, 0, none⟩) d.firm.length d.firm.length, .slice none 0 0, .int .i64 d.fuse, .bool d.dead] : Array Value).setIfInBounds 2 (.slice none 0 0) = #[.slice (some ⟨gf, 0, none⟩) d.firm.length d.firm.length, .slice (some ⟨gn, 0, none⟩) d.firm.length d.firm.length, .slice none 0 0, .int .i64 d.fuse, .bool d.dead] := rfl
      rw [e7] at HP2
      clear e7 hx
      generalize wr.setCell ⟨p, 2, none⟩ (.slice none 0 0) = w2 at HP2 HFF2 HN2 HF2 ⊢
      refine start_ (n := 9) (S := fun w' => w'.heap[p]? = some (.cells #[.slice (some ⟨gf, 0, none⟩) d.firm.length d.firm.length, .slice (some ⟨gn, 0, none⟩) d.firm.length d.firm.length, .slice none 0 0, .int .i64 d.fuse, .bool d.dead] 74 (0, 0))) (ds := [8]) #[false, false, false, false, false, false, false, false, false] (by kernel_rfl) rfl rfl (HP2.out) (fun hHeld => ?_)
      have HP3 := Lib.hid (show w2.drew.heap[p]? = _ from HP2.out)
      have HFF3 := Lib.hid (show w2.drew.heap[gf]? = _ from HFF2.out)
      have HN3 := Lib.hid (show w2.drew.heap[gn]? = _ from HN2.out)
      have HF3 := Lib.hid (HF2.out.trans (Fr.drew F w2) (fun _ _ h => h))
      generalize w2.drew = w3 at HP3 HFF3 HN3 HF3 hHeld ⊢
      clear HP2 HFF2 HN2 HF2
      refine pure_ (i := 0) (N := some 37) (v := ?_) (a' := ?_) #[true, false, false, false, false, false, false, false, false] rfl rfl (by kernel_rfl) (fun _ _ _ h => h) (Or.inl ⟨by rfl, ?_⟩) ?_ ?_
      rotate_left
      · intro w'
        go_simp
        with_reducible rfl
      rotate_left
      · simp only [Act.put, List.setIfInBounds_toArray, List.set_cons_zero, List.set_cons_succ, i64_w, i32_w]
        rfl
      refine pure_ (i := 1) (N := some 38) (v := ?_) (a' := ?_) #[true, true, false, false, false, false, false, false, false] rfl rfl (by kernel_rfl) (fun _ _ _ h => h) (Or.inl ⟨by rfl, ?_⟩) ?_ ?_
      rotate_left
      · intro w'
        go_simp
        with_reducible rfl
      rotate_left
      · simp only [Act.put, List.setIfInBounds_toArray, List.set_cons_zero, List.set_cons_succ, i64_w, i32_w]
        rfl
      refine pure_ (i := 2) (N := some 39) (v := ?_) (a' := ?_) #[true, true, true, false, false, false, false, false, false] rfl rfl (by kernel_rfl) (fun _ _ _ h => h) (Or.inl ⟨by rfl, ?_⟩) ?_ ?_
      rotate_left
      · intro w'
        go_simp
        with_reducible rfl
      rotate_left
      · simp only [Act.put, List.setIfInBounds_toArray, List.set_cons_zero, List.set_cons_succ, i64_w, i32_w]
        rfl
      refine take_ (i := 3) (N := some 40) (v := ?_) (a' := ?_) #[true, true, true, true, false, false, false, false, false] rfl rfl (by kernel_rfl) (fun _ _ _ h => h) (Or.inl ⟨by rfl, ?_⟩) hHeld ?_ ?_
      rotate_left
      · intro w' hS
        have s5 := blk5 hS
        obtain ⟨z0, _, z1, _, z2, _, z3, _, z4, _⟩ := s5
        go_simp
        with_reducible rfl
      rotate_left
      · simp only [Act.put, List.setIfInBounds_toArray, List.set_cons_zero, List.set_cons_succ, i64_w, i32_w]
        rfl
      refine pure_ (i := 4) (N := some 41) (v := ?_) (a' := ?_) #[true, true, true, true, true, false, false, false, false] rfl rfl (by kernel_rfl) (fun _ _ _ h => h) (Or.inl ⟨by rfl, ?_⟩) ?_ ?_
      rotate_left
      · intro w'
        go_simp
        with_reducible rfl
      rotate_left
      · simp only [Act.put, List.setIfInBounds_toArray, List.set_cons_zero, List.set_cons_succ, i64_w, i32_w]
        rfl
      refine pure_ (i := 5) (N := some 42) (v := ?_) (a' := ?_) #[true, true, true, true, true, true, false, false, false] rfl rfl (by kernel_rfl) (fun _ _ _ h => h) (Or.inl ⟨by rfl, ?_⟩) ?_ ?_
      rotate_left
      · intro w'
        go_simp
        with_reducible rfl
      rotate_left
      · simp only [Act.put, List.setIfInBounds_toArray, List.set_cons_zero, List.set_cons_succ, i64_w, i32_w]
        rfl
      refine pure_ (i := 6) (N := some 43) (v := ?_) (a' := ?_) #[true, true, true, true, true, true, true, false, false] rfl rfl (by kernel_rfl) (fun _ _ _ h => h) (Or.inl ⟨by rfl, ?_⟩) ?_ ?_
      rotate_left
      · intro w'
        go_simp
        with_reducible rfl
      rotate_left
      · simp only [Act.put, List.setIfInBounds_toArray, List.set_cons_zero, List.set_cons_succ, i64_w, i32_w]
        rfl
      refine take_ (i := 7) (N := some 44) (v := ?_) (a' := ?_) #[true, true, true, true, true, true, true, true, false] rfl rfl (by kernel_rfl) (fun _ _ _ h => h) (Or.inl ⟨by rfl, ?_⟩) hHeld ?_ ?_
      rotate_left
      · intro w' hS
        have s5 := blk5 hS
        obtain ⟨z0, _, z1, _, z2, _, z3, _, z4, _⟩ := s5
        go_simp
        with_reducible rfl
      rotate_left
      · simp only [Act.put, List.setIfInBounds_toArray, List.set_cons_zero, List.set_cons_succ, i64_w, i32_w]
        rfl
      refine last_ (i := 8) (N := some 45) #[true, true, true, true, true, true, true, true, true] rfl rfl (by kernel_rfl) (by decide) (fun K hK => ?_)
      have HCP := run_copy_all (P := Try.prog) w3 71 71 3 85 256 gn d.firm.length d.firm.length gf d.firm.length (d.now.flatMap bcells) (X.flatMap bcells) 85 85 Try.underlying71 info_b HN3.out HFF3.out (by rw [flat_length (lens HX.out.2), HX.out.1]) (by rw [flat_length H.out.lensn, H.out.ok.now_length]) (fun v hv => by obtain ⟨x, _, hx⟩ := List.mem_flatMap.1 hv; exact bcells_one x v hx)
      refine value_ (by rfl) rfl (execOp_copy rfl rfl rfl HCP) ?_
      clear HCP
      refine hK.out _ _ ?_
      clear hK K
      refine norm_ (a' := ?_) ?_ ?_
      rotate_left
      · show Act.put _ (some 45) _ = _
        simp only [Act.put, List.setIfInBounds_toArray, List.set_cons_zero, List.set_cons_succ, i64_w, i32_w]
        rfl
      refine done_ (by kernel_rfl) ?_
      have HP4 := Lib.hid ((setRow_other w3 gn p (X.flatMap bcells).toArray H.out.n1.2.1).trans HP3.out)
      have HFF4 := Lib.hid ((setRow_other w3 gn gf (X.flatMap bcells).toArray H.out.n1.2.2).trans HFF3.out)
      have HN4 := Lib.hid (setRow_heap w3 gn _ (X.flatMap bcells).toArray _ _ HN3.out)
      have HF4 := Lib.hid (HF3.out.trans (Fr.setRow w3 (g := gn) H.out.fn (X.flatMap bcells).toArray) (fun _ _ h => h))
      generalize w3.setRow gn (X.flatMap bcells).toArray = w4 at HP4 HFF4 HN4 HF4 ⊢
      clear HP3 HFF3 HN3 HF3 hHeld
      have hx := blk5 HP4.out
      go_wp2
      go_end0
      have HK2 : X = kept keep 0 d.late d.firm := by
        have h := HK.out
        simpa [kept] using h
      refine ⟨rfl, ?_, (HF4.out.trans (Fr.setCell (F := F) w4 (p := ⟨p, 3, none⟩) H.out.fp (.int .i64 (-1))) (fun _ _ h => h)).trans (Fr.setCell (F := F) _ (p := ⟨p, 4, none⟩) H.out.fp (.bool false)) (fun _ _ h => h)⟩
      have hp := set_at (set_at HP4.out 3 (.int .i64 (-1))) 4 (.bool false)
      have hff := set_far (set_far HFF4.out (p := ⟨p, 3, none⟩) (fun e => H.out.n1.1 e.symm) (.int .i64 (-1))) (p := ⟨p, 4, none⟩) (fun e => H.out.n1.1 e.symm) (.bool false)
      have hnn := set_far (set_far HN4.out (p := ⟨p, 3, none⟩) (fun e => H.out.n1.2.1 e.symm) (.int .i64 (-1))) (p := ⟨p, 4, none⟩) (fun e => H.out.n1.2.1 e.symm) (.bool false)
      have hlen : (kept keep 0 d.late d.firm).length = d.firm.length := kept_length ..
      exact {
        ok := H.out.ok.crash keep
        fp := H.out.fp
        ff := H.out.ff
        fn := H.out.fn
        fl := fun k hk => by simp [Value.ownBlock] at hk
        n1 := H.out.n1
        n2 := fun k hk => by simp [Value.ownBlock] at hk
        hp := by
          show _ = some (Obj.cells #[.slice (some ⟨gf, 0, none⟩) (kept keep 0 d.late d.firm).length (kept keep 0 d.late d.firm).length, .slice (some ⟨gn, 0, none⟩) (kept keep 0 d.late d.firm).length (kept keep 0 d.late d.firm).length, .slice none 0 0, .int .i64 (-1), .bool false] 74 (0, 0))
          rw [hlen]; exact hp
        hf := by rw [HK2] at hff; exact hff
        hn := by rw [HK2] at hnn; exact hnn
        hl := World.ownsRow_nil _ _ _ _
        lt := fun k hk => by
          have h1 := H.out.lt k hk
          have h2 := HF4.out.size
          simp only [World.setCell, Array.size_modify]; omega }
  · go_enter Try.func21, Try.ntmps21
    go_wp2
    go_loopw [4, 5, 13] (fun s4 s5 s13 wr => ∃ (k : Nat) (X : List ByteArray), s13 = .int .i64 k ∧ k ≤ d.late.length ∧ Hid (kept keep k (d.late.drop k) X = kept keep 0 d.late d.firm) ∧ Hid (X.length = d.firm.length ∧ ∀ b ∈ X, b.size = 256)
      ∧ Hid (wr.heap[p]? = w.heap[p]?) ∧ Hid (wr.heap[gf]? = some (.cells (X.flatMap bcells).toArray 85 (0, 0))) ∧ Hid (wr.heap[gn]? = w.heap[gn]?) ∧ Hid (wr.heap[gl]? = w.heap[gl]?) ∧ Hid (Fr F w wr)) (fun _ _ s13 _ => d.late.length - (intOf s13).toNat)
    case atStart => exact ⟨0, d.firm, rfl, Nat.zero_le _, Lib.hid (by rw [List.drop_zero]), Lib.hid ⟨rfl, H.out.ok.sz⟩, Lib.hid rfl, Lib.hid H.out.hf, Lib.hid rfl, Lib.hid rfl, Lib.hid (Fr.refl _ _)⟩
    case round =>
      obtain ⟨k, X, rfl, hkl, HK, HX, HRP, HRF, HRN, HRL, HRR⟩ := hrel
      clear hx
      have HP := Lib.hid (HRP.out.trans H.out.hp)
      have hx := blk5 HP.out
      by_cases hlt : k < d.late.length
      · have HO := Lib.hid (row_kept H.out.hl (w' := wr) (fun k hk => by simp only [Value.ownBlock, Option.some.injEq] at hk; rw [← hk]; exact HRL.out))
        obtain ⟨g', cap', e, _, hr⟩ := row_range HO.out H.out.lensl k hlt
        simp only [Value.slice.injEq, Option.some.injEq, Addr.mk.injEq, and_true, true_and] at e
        obtain ⟨rfl, rfl⟩ := e
        have HR := Lib.hid hr
        clear hr
        obtain ⟨x, hx⟩ : ∃ x, d.late[k] = x := ⟨_, rfl⟩
        rw [hx] at HR
        have HXL := Lib.hid (H.out.ok.la x (hx ▸ List.getElem_mem hlt))
        have HXE := Lib.hid hx
        clear hx
        have HW := Lib.hid (wcells_length (x := x) HXL.out.2)
        have hx := blk5 HP.out
        go_wp2_with (first | ((with_reducible refine gate_dst (N := 17) rfl ?_); refine wpList_val rfl rfl (execOp_load rfl rfl (run_loadAt_mid wr gl (k * 257) 87 (wcells x) _ HR.out Try.underlying87 rfl (by rw [HW.out]; exact (info_parts info_w).elim fun i h => by rw [h.1]; exact congrArg some h.2.2.1))) ?_) | ((with_reducible refine gate_dst (N := 5) rfl ?_); refine wpList_val rfl rfl (execOp_alloc rfl (run_alloc_w _)) ?_) | ((with_reducible refine gate_store (p := 5) rfl ?_); refine stop_here ?_))
        refine Lib.hid ?_
        have HZ := run_storeAt_row (P := Try.prog) (wr.alloc (.cells (zw 0).toArray 87)) wr.heap.size 0 87 (zw 0) 87 (wcells x).toArray (alloc_at wr _) (by rw [List.size_toArray, zw_length, HW.out]; omega) (by rw [List.size_toArray, HW.out]; exact (info_parts info_w).elim fun i h => by rw [h.1]; exact congrArg some h.2.2.1) (by rw [List.toList_toArray]; exact wcells_one x)
        refine wpList_none rfl rfl (execOp_store rfl rfl rfl HZ) ?_
        clear HZ hx
        rw [List.toList_toArray, over_all (by rw [zw_length, HW.out]; omega)]
        obtain ⟨G, hG⟩ : ∃ G, wr.heap.size = G := ⟨_, rfl⟩
        rw [hG]
        have HB2 : Hid (Below wr.heap.size wr ((wr.alloc (.cells (zw 0).toArray 87)).setRow G (wcells x).toArray)) := below_setRow ((Below.refl _ _).alloc (Nat.le_refl _) _) (by omega) _
        have BG2 : Hid (((wr.alloc (.cells (zw 0).toArray 87)).setRow G (wcells x).toArray).heap[G]? = some (.cells (wcells x).toArray 87 (0, 0))) := setRow_heap _ G _ _ _ _ (by rw [← hG]; exact alloc_at wr _)
        generalize (wr.alloc (.cells (zw 0).toArray 87)).setRow G (wcells x).toArray = w2 at HB2 BG2 ⊢
        have HLP := Lib.hid (lt_of HP.out)
        have HP2 := Lib.hid ((HB2.out.block p HLP.out).trans HP.out)
        have HRF2 := Lib.hid (below_old HRF.out HB2.out)
        have HFR2 := Lib.hid (HRR.out.trans (Fr.of_below (F := F) HB2.out) (fun _ _ h => h))
        have HRP2 := Lib.hid ((HB2.out.block p HLP.out).trans HRP.out)
        have HRN2 := Lib.hid ((HB2.out.block gn (lt_of (HRN.out.trans H.out.hn))).trans HRN.out)
        have HRL2 := Lib.hid ((HB2.out.block gl (HO.out.lt gl rfl).2).trans HRL.out)
        have HFG : Hid (G ≠ p ∧ G ≠ gf ∧ G ≠ gn ∧ G ≠ gl) := by
          have h1 := HLP.out
          have h2 := lt_of HRF.out
          have h3 := lt_of (HRN.out.trans H.out.hn)
          have h4 := (HO.out.lt gl rfl).2
          exact ⟨by omega, by omega, by omega, by omega⟩
        clear HB2 HP HRF HRR HRP HRN HRL HR HO HLP hG
        have hx := blk5 HP2.out
        go_wp2
        · have HBT := Lib.hid ((bit_go keep k hk0 hk1).symm.trans (by assumption))
          clear hx
          have hxi := HXL.out.1
          refine start_ (n := 10) (S := fun w' => w'.heap[p]? = some (.cells #[.slice (some ⟨gf, 0, none⟩) d.firm.length d.firm.length, .slice (some ⟨gn, 0, none⟩) d.firm.length d.firm.length, .slice (some ⟨gl, 0, none⟩) d.late.length cap, .int .i64 d.fuse, .bool d.dead] 74 (0, 0)) ∧ w'.heap[G]? = some (.cells (wcells x).toArray 87 (0, 0))) (ds := [9]) #[false, false, false, false, false, false, false, false, false, false] (by kernel_rfl) rfl rfl (⟨HP2.out, BG2.out⟩) (fun hHeld => ?_)
          have HP3 := Lib.hid (show w2.drew.heap[p]? = _ from HP2.out)
          have HRP3 := Lib.hid (show w2.drew.heap[p]? = _ from HRP2.out)
          have HRF3 := Lib.hid (show w2.drew.heap[gf]? = _ from HRF2.out)
          have HRN3 := Lib.hid (show w2.drew.heap[gn]? = _ from HRN2.out)
          have HRL3 := Lib.hid (show w2.drew.heap[gl]? = _ from HRL2.out)
          have HFR3 := Lib.hid (HFR2.out.trans (Fr.drew F w2) (fun _ _ h => h))
          generalize w2.drew = w3 at HP3 HRP3 HRF3 HRN3 HRL3 HFR3 hHeld ⊢
          clear HP2 HRP2 HRF2 HRN2 HRL2 HFR2
          refine pure_ (i := 0) (N := some 24) (v := ?_) (a' := ?_) #[true, false, false, false, false, false, false, false, false, false] rfl rfl (by kernel_rfl) (fun _ _ _ h => h) (Or.inl ⟨by rfl, ?_⟩) ?_ ?_
          rotate_left
          · intro w'
            go_simp
            with_reducible rfl
          rotate_left
          · simp only [Act.put, List.setIfInBounds_toArray, List.set_cons_zero, List.set_cons_succ, i64_w, i32_w]
            rfl
          refine pure_ (i := 1) (N := some 25) (v := ?_) (a' := ?_) #[true, true, false, false, false, false, false, false, false, false] rfl rfl (by kernel_rfl) (fun _ _ _ h => h) (Or.inl ⟨by rfl, ?_⟩) ?_ ?_
          rotate_left
          · intro w'
            go_simp
            with_reducible rfl
          rotate_left
          · simp only [Act.put, List.setIfInBounds_toArray, List.set_cons_zero, List.set_cons_succ, i64_w, i32_w]
            rfl
          refine pure_ (i := 2) (N := some 26) (v := ?_) (a' := ?_) #[true, true, true, false, false, false, false, false, false, false] rfl rfl (by kernel_rfl) (fun _ _ _ h => h) (Or.inl ⟨by rfl, ?_⟩) ?_ ?_
          rotate_left
          · intro w'
            go_simp
            with_reducible rfl
          rotate_left
          · simp only [Act.put, List.setIfInBounds_toArray, List.set_cons_zero, List.set_cons_succ, i64_w, i32_w]
            rfl
          refine take_ (i := 3) (N := some 27) (v := ?_) (a' := ?_) #[true, true, true, true, false, false, false, false, false, false] rfl rfl (by kernel_rfl) (fun _ _ _ h => h) (Or.inl ⟨by rfl, ?_⟩) hHeld ?_ ?_
          rotate_left
          · intro w' hS
            have s5 := blk5 hS.1
            obtain ⟨z0, _, z1, _, z2, _, z3, _, z4, _⟩ := s5
            go_simp
            with_reducible rfl
          rotate_left
          · simp only [Act.put, List.setIfInBounds_toArray, List.set_cons_zero, List.set_cons_succ, i64_w, i32_w]
            rfl
          refine pure_ (i := 4) (N := some 28) (v := ?_) (a' := ?_) #[true, true, true, true, true, false, false, false, false, false] rfl rfl (by kernel_rfl) (fun _ _ _ h => h) (Or.inl ⟨by rfl, ?_⟩) ?_ ?_
          rotate_left
          · intro w'
            go_simp
            with_reducible rfl
          rotate_left
          · simp only [Act.put, List.setIfInBounds_toArray, List.set_cons_zero, List.set_cons_succ, i64_w, i32_w]
            rfl
          refine take_ (i := 5) (N := some 29) (v := ?_) (a' := ?_) #[true, true, true, true, true, true, false, false, false, false] rfl rfl (by kernel_rfl) (fun _ _ _ h => h) (Or.inl ⟨by rfl, ?_⟩) hHeld ?_ ?_
          rotate_left
          · intro w' hS
            have s6 : w'.cell? ⟨G, 0, none⟩ = some (.int .i64 (x.1 : Int)) := (cell_at hS.2 0).trans rfl
            go_simp
            with_reducible rfl
          rotate_left
          · simp only [Act.put, List.setIfInBounds_toArray, List.set_cons_zero, List.set_cons_succ, i64_w, i32_w]
            rfl
          refine pure_ (i := 6) (N := some 30) (v := ?_) (a' := ?_) #[true, true, true, true, true, true, true, false, false, false] rfl rfl (by kernel_rfl) (fun _ _ _ h => h) (Or.inl ⟨by rfl, ?_⟩) ?_ ?_
          rotate_left
          · intro w'
            go_simp
            with_reducible rfl
          rotate_left
          · simp only [Act.put, List.setIfInBounds_toArray, List.set_cons_zero, List.set_cons_succ, i64_w, i32_w]
            rfl
          refine take_ (i := 7) (N := some 31) (v := .agg (bcells x.2).toArray) (a' := ?_) #[true, true, true, true, true, true, true, true, false, false] rfl rfl (by kernel_rfl) (fun _ _ _ h => h) (yieldsIf_load_mid (by rfl) 85 (.tmp 30) rfl G 1 rfl (bcells x.2) _ (fun w' hS j v hv => by rw [cell_of_row w' G _ _ _ _ hS.2, List.getElem?_toArray, wcells, Nat.add_comm 1 j, List.getElem?_cons_succ]; exact hv) Try.underlying85 rfl (by rw [bcells_length, HXL.out.2]; exact info_b)) hHeld ?_ ?_
          rotate_left
          · simp only [Act.put, List.setIfInBounds_toArray, List.set_cons_zero, List.set_cons_succ, i64_w, i32_w]
            rfl
          refine pure_ (i := 8) (N := some 32) (v := ?_) (a' := ?_) #[true, true, true, true, true, true, true, true, true, false] rfl rfl (by kernel_rfl) (fun _ _ _ h => h) (Or.inl ⟨by rfl, ?_⟩) ?_ ?_
          rotate_left
          · intro w'
            go_simp
            with_reducible rfl
          rotate_left
          · simp only [Act.put, List.setIfInBounds_toArray, List.set_cons_zero, List.set_cons_succ, i64_w, i32_w]
            rfl
          refine last_ (i := 9) (N := none) #[true, true, true, true, true, true, true, true, true, true] rfl rfl (by kernel_rfl) (by decide) (fun K hK => ?_)
          have HST := run_storeAt_row (P := Try.prog) w3 gf (x.1 * 256) 85 (X.flatMap bcells) 85 (bcells x.2).toArray HRF3.out (by rw [List.size_toArray, bcells_length, HXL.out.2, flat_length (lens HX.out.2), HX.out.1]; have := HXL.out.1; omega) (by rw [List.size_toArray, bcells_length, HXL.out.2]; exact info_b) (by rw [List.toList_toArray]; exact bcells_one _)
          rw [List.toList_toArray] at HST
          refine skip_ (by rfl) rfl (execOp_store rfl rfl rfl HST) ?_
          clear HST
          refine hK.out _ _ ?_
          clear hK K
          refine done_ (by kernel_rfl) ?_
          have HCT := Lib.hid (show kept keep (k + 1) (d.late.drop (k + 1)) (put X x) = kept keep 0 d.late d.firm by
            rw [← HK.out, List.drop_eq_getElem_cons hlt, HXE.out, kept, if_pos HBT.out])
          have HR4 : Hid ((w3.setRow gf (over (X.flatMap bcells) (x.1 * 256) (bcells x.2)).toArray).heap[gf]? = some (.cells ((put X x).flatMap bcells).toArray 85 (0, 0))) := by
            have h := setRow_heap w3 gf (X.flatMap bcells).toArray (over (X.flatMap bcells) (x.1 * 256) (bcells x.2)).toArray _ _ HRF3.out
            have e : over (X.flatMap bcells) (x.1 * 256) (bcells x.2) = (put X x).flatMap bcells := by
              unfold put
              rw [flat_set (lens HX.out.2) x.1 (by rw [HX.out.1]; exact HXL.out.1) x.2]
              unfold over
              rw [bcells_length, HXL.out.2]
            rw [e] at h ⊢
            exact h
          have HX4 := Lib.hid (show (put X x).length = d.firm.length ∧ ∀ b ∈ put X x, b.size = 256 from ⟨(length_put X x).trans HX.out.1, size_put HX.out.2 HXL.out.2⟩)
          have hgl : gl ≠ gf := fun e => (H.out.n2 gl rfl).2.1 e
          have HP4 := Lib.hid ((setRow_other w3 gf p (over (X.flatMap bcells) (x.1 * 256) (bcells x.2)).toArray H.out.n1.1).trans HRP3.out)
          have HN4 := Lib.hid ((setRow_other w3 gf gn (over (X.flatMap bcells) (x.1 * 256) (bcells x.2)).toArray (fun e => H.out.n1.2.2 e.symm)).trans HRN3.out)
          have HL4 := Lib.hid ((setRow_other w3 gf gl (over (X.flatMap bcells) (x.1 * 256) (bcells x.2)).toArray hgl).trans HRL3.out)
          have HF4 := Lib.hid (HFR3.out.trans (Fr.setRow w3 (g := gf) H.out.ff (over (X.flatMap bcells) (x.1 * 256) (bcells x.2)).toArray) (fun _ _ h => h))
          generalize w3.setRow gf (over (X.flatMap bcells) (x.1 * 256) (bcells x.2)).toArray = w4 at HR4 HP4 HN4 HL4 HF4 ⊢
          clear hgl
          go_wp2
          go_roundw
          case rel => exact ⟨k + 1, put X x, by go_num, by omega, HCT, HX4, HP4, HR4, HN4, HL4, HF4⟩
          case measure => simp [intOf]; omega
        · have HBT := Lib.hid ((bit_go keep k hk0 hk1).symm.trans (by assumption))
          have HCT := Lib.hid (show kept keep (k + 1) (d.late.drop (k + 1)) X = kept keep 0 d.late d.firm by
            rw [← HK.out, List.drop_eq_getElem_cons hlt, kept, if_neg (by rw [HBT.out]; simp)])
          go_roundw
          case rel => exact ⟨k + 1, X, by go_num, by omega, HCT, HX, HRP2, HRF2, HRN2, HRL2, HFR2⟩
          case measure => simp [intOf]; omega
      · obtain rfl : k = d.late.length := by omega
        rw [List.drop_length] at HK
        have hx0 := hx
        go_wp2
        have HP2 := Lib.hid (set_at HP.out 2 (.slice none 0 0))
        have HFF2 := Lib.hid (set_far HRF.out (p := ⟨p, 2, none⟩) (fun e => H.out.n1.1 e.symm) (.slice none 0 0))
        have HN2 := Lib.hid (set_far (HRN.out.trans H.out.hn) (p := ⟨p, 2, none⟩) (fun e => H.out.n1.2.1 e.symm) (.slice none 0 0))
        have HF2 := Lib.hid (HRR.out.trans (Fr.setCell (F := F) wr (p := ⟨p, 2, none⟩) H.out.fp (.slice none 0 0)) (fun _ _ h => h))
        have e7 : (#[.slice (some ⟨gf, 0, none⟩) d.firm.length d.firm.length, .slice (some ⟨gn, 0, none⟩) d.firm.length d.firm.length, .slice (some ⟨gl, 0, none⟩) d.late.length cap, .int .i64 d.fuse, .bool d.dead] : Array Value).setIfInBounds 2 (.slice none 0 0) = #[.slice (some ⟨gf, 0, none⟩) d.firm.length d.firm.length, .slice (some ⟨gn, 0, none⟩) d.firm.length d.firm.length, .slice none 0 0, .int .i64 d.fuse, .bool d.dead] := rfl
        rw [e7] at HP2
        clear e7 hx
        generalize wr.setCell ⟨p, 2, none⟩ (.slice none 0 0) = w2 at HP2 HFF2 HN2 HF2 ⊢
        refine start_ (n := 9) (S := fun w' => w'.heap[p]? = some (.cells #[.slice (some ⟨gf, 0, none⟩) d.firm.length d.firm.length, .slice (some ⟨gn, 0, none⟩) d.firm.length d.firm.length, .slice none 0 0, .int .i64 d.fuse, .bool d.dead] 74 (0, 0))) (ds := [8]) #[false, false, false, false, false, false, false, false, false] (by kernel_rfl) rfl rfl (HP2.out) (fun hHeld => ?_)
        have HP3 := Lib.hid (show w2.drew.heap[p]? = _ from HP2.out)
        have HFF3 := Lib.hid (show w2.drew.heap[gf]? = _ from HFF2.out)
        have HN3 := Lib.hid (show w2.drew.heap[gn]? = _ from HN2.out)
        have HF3 := Lib.hid (HF2.out.trans (Fr.drew F w2) (fun _ _ h => h))
        generalize w2.drew = w3 at HP3 HFF3 HN3 HF3 hHeld ⊢
        clear HP2 HFF2 HN2 HF2
        refine pure_ (i := 0) (N := some 37) (v := ?_) (a' := ?_) #[true, false, false, false, false, false, false, false, false] rfl rfl (by kernel_rfl) (fun _ _ _ h => h) (Or.inl ⟨by rfl, ?_⟩) ?_ ?_
        rotate_left
        · intro w'
          go_simp
          with_reducible rfl
        rotate_left
        · simp only [Act.put, List.setIfInBounds_toArray, List.set_cons_zero, List.set_cons_succ, i64_w, i32_w]
          rfl
        refine pure_ (i := 1) (N := some 38) (v := ?_) (a' := ?_) #[true, true, false, false, false, false, false, false, false] rfl rfl (by kernel_rfl) (fun _ _ _ h => h) (Or.inl ⟨by rfl, ?_⟩) ?_ ?_
        rotate_left
        · intro w'
          go_simp
          with_reducible rfl
        rotate_left
        · simp only [Act.put, List.setIfInBounds_toArray, List.set_cons_zero, List.set_cons_succ, i64_w, i32_w]
          rfl
        refine pure_ (i := 2) (N := some 39) (v := ?_) (a' := ?_) #[true, true, true, false, false, false, false, false, false] rfl rfl (by kernel_rfl) (fun _ _ _ h => h) (Or.inl ⟨by rfl, ?_⟩) ?_ ?_
        rotate_left
        · intro w'
          go_simp
          with_reducible rfl
        rotate_left
        · simp only [Act.put, List.setIfInBounds_toArray, List.set_cons_zero, List.set_cons_succ, i64_w, i32_w]
          rfl
        refine take_ (i := 3) (N := some 40) (v := ?_) (a' := ?_) #[true, true, true, true, false, false, false, false, false] rfl rfl (by kernel_rfl) (fun _ _ _ h => h) (Or.inl ⟨by rfl, ?_⟩) hHeld ?_ ?_
        rotate_left
        · intro w' hS
          have s5 := blk5 hS
          obtain ⟨z0, _, z1, _, z2, _, z3, _, z4, _⟩ := s5
          go_simp
          with_reducible rfl
        rotate_left
        · simp only [Act.put, List.setIfInBounds_toArray, List.set_cons_zero, List.set_cons_succ, i64_w, i32_w]
          rfl
        refine pure_ (i := 4) (N := some 41) (v := ?_) (a' := ?_) #[true, true, true, true, true, false, false, false, false] rfl rfl (by kernel_rfl) (fun _ _ _ h => h) (Or.inl ⟨by rfl, ?_⟩) ?_ ?_
        rotate_left
        · intro w'
          go_simp
          with_reducible rfl
        rotate_left
        · simp only [Act.put, List.setIfInBounds_toArray, List.set_cons_zero, List.set_cons_succ, i64_w, i32_w]
          rfl
        refine pure_ (i := 5) (N := some 42) (v := ?_) (a' := ?_) #[true, true, true, true, true, true, false, false, false] rfl rfl (by kernel_rfl) (fun _ _ _ h => h) (Or.inl ⟨by rfl, ?_⟩) ?_ ?_
        rotate_left
        · intro w'
          go_simp
          with_reducible rfl
        rotate_left
        · simp only [Act.put, List.setIfInBounds_toArray, List.set_cons_zero, List.set_cons_succ, i64_w, i32_w]
          rfl
        refine pure_ (i := 6) (N := some 43) (v := ?_) (a' := ?_) #[true, true, true, true, true, true, true, false, false] rfl rfl (by kernel_rfl) (fun _ _ _ h => h) (Or.inl ⟨by rfl, ?_⟩) ?_ ?_
        rotate_left
        · intro w'
          go_simp
          with_reducible rfl
        rotate_left
        · simp only [Act.put, List.setIfInBounds_toArray, List.set_cons_zero, List.set_cons_succ, i64_w, i32_w]
          rfl
        refine take_ (i := 7) (N := some 44) (v := ?_) (a' := ?_) #[true, true, true, true, true, true, true, true, false] rfl rfl (by kernel_rfl) (fun _ _ _ h => h) (Or.inl ⟨by rfl, ?_⟩) hHeld ?_ ?_
        rotate_left
        · intro w' hS
          have s5 := blk5 hS
          obtain ⟨z0, _, z1, _, z2, _, z3, _, z4, _⟩ := s5
          go_simp
          with_reducible rfl
        rotate_left
        · simp only [Act.put, List.setIfInBounds_toArray, List.set_cons_zero, List.set_cons_succ, i64_w, i32_w]
          rfl
        refine last_ (i := 8) (N := some 45) #[true, true, true, true, true, true, true, true, true] rfl rfl (by kernel_rfl) (by decide) (fun K hK => ?_)
        have HCP := run_copy_all (P := Try.prog) w3 71 71 3 85 256 gn d.firm.length d.firm.length gf d.firm.length (d.now.flatMap bcells) (X.flatMap bcells) 85 85 Try.underlying71 info_b HN3.out HFF3.out (by rw [flat_length (lens HX.out.2), HX.out.1]) (by rw [flat_length H.out.lensn, H.out.ok.now_length]) (fun v hv => by obtain ⟨x, _, hx⟩ := List.mem_flatMap.1 hv; exact bcells_one x v hx)
        refine value_ (by rfl) rfl (execOp_copy rfl rfl rfl HCP) ?_
        clear HCP
        refine hK.out _ _ ?_
        clear hK K
        refine norm_ (a' := ?_) ?_ ?_
        rotate_left
        · show Act.put _ (some 45) _ = _
          simp only [Act.put, List.setIfInBounds_toArray, List.set_cons_zero, List.set_cons_succ, i64_w, i32_w]
          rfl
        refine done_ (by kernel_rfl) ?_
        have HP4 := Lib.hid ((setRow_other w3 gn p (X.flatMap bcells).toArray H.out.n1.2.1).trans HP3.out)
        have HFF4 := Lib.hid ((setRow_other w3 gn gf (X.flatMap bcells).toArray H.out.n1.2.2).trans HFF3.out)
        have HN4 := Lib.hid (setRow_heap w3 gn _ (X.flatMap bcells).toArray _ _ HN3.out)
        have HF4 := Lib.hid (HF3.out.trans (Fr.setRow w3 (g := gn) H.out.fn (X.flatMap bcells).toArray) (fun _ _ h => h))
        generalize w3.setRow gn (X.flatMap bcells).toArray = w4 at HP4 HFF4 HN4 HF4 ⊢
        clear HP3 HFF3 HN3 HF3 hHeld
        have hx := blk5 HP4.out
        go_wp2
        go_end0
        have HK2 : X = kept keep 0 d.late d.firm := by
          have h := HK.out
          simpa [kept] using h
        refine ⟨rfl, ?_, (HF4.out.trans (Fr.setCell (F := F) w4 (p := ⟨p, 3, none⟩) H.out.fp (.int .i64 (-1))) (fun _ _ h => h)).trans (Fr.setCell (F := F) _ (p := ⟨p, 4, none⟩) H.out.fp (.bool false)) (fun _ _ h => h)⟩
        have hp := set_at (set_at HP4.out 3 (.int .i64 (-1))) 4 (.bool false)
        have hff := set_far (set_far HFF4.out (p := ⟨p, 3, none⟩) (fun e => H.out.n1.1 e.symm) (.int .i64 (-1))) (p := ⟨p, 4, none⟩) (fun e => H.out.n1.1 e.symm) (.bool false)
        have hnn := set_far (set_far HN4.out (p := ⟨p, 3, none⟩) (fun e => H.out.n1.2.1 e.symm) (.int .i64 (-1))) (p := ⟨p, 4, none⟩) (fun e => H.out.n1.2.1 e.symm) (.bool false)
        have hlen : (kept keep 0 d.late d.firm).length = d.firm.length := kept_length ..
        exact {
          ok := H.out.ok.crash keep
          fp := H.out.fp
          ff := H.out.ff
          fn := H.out.fn
          fl := fun k hk => by simp [Value.ownBlock] at hk
          n1 := H.out.n1
          n2 := fun k hk => by simp [Value.ownBlock] at hk
          hp := by
            show _ = some (Obj.cells #[.slice (some ⟨gf, 0, none⟩) (kept keep 0 d.late d.firm).length (kept keep 0 d.late d.firm).length, .slice (some ⟨gn, 0, none⟩) (kept keep 0 d.late d.firm).length (kept keep 0 d.late d.firm).length, .slice none 0 0, .int .i64 (-1), .bool false] 74 (0, 0))
            rw [hlen]; exact hp
          hf := by rw [HK2] at hff; exact hff
          hn := by rw [HK2] at hnn; exact hnn
          hl := World.ownsRow_nil _ _ _ _
          lt := fun k hk => by
            have h1 := H.out.lt k hk
            have h2 := HF4.out.size
            simp only [World.setCell, Array.size_modify]; omega }
end Go.Proofs.Ytmdojgkgohmghaa.Dev
namespace Go.Proofs.Ytmdojgkgohmghaa.Dev
open Go.RowKit Go.Own Go.DevL Go.Blk Go.Proofs.YtmdojgkgohmghaaW.PrintLast Go.Proofs.YtmdojgkgohmghaaW.PrintWords Go.Proofs.YtmdojgkgohmghaaW.PrintMore
attribute [local go_sem] max2_int min2_int max_two min_two
set_option linter.unusedVariables false
set_option maxRecDepth 100000
set_option linter.unusedSimpArgs false
theorem size_alloc1 (w : World) (o : Obj) : (w.alloc o).heap.size = w.heap.size + 1 := by simp
theorem bcells_zero : bcells (rep8 0 256) = List.replicate 256 (.int .u8 0) := by
  unfold bcells rep8
  rw [List.toList_toArray, List.map_replicate]
  rfl
theorem made_b (c : Nat) : madeCells (List.replicate 256 (Value.int .u8 0)).toArray (c * 256) = ((List.replicate c (rep8 0 256)).flatMap bcells).toArray := by
  have e : (List.replicate c (rep8 0 256)).flatMap bcells = List.replicate (c * 256) (.int .u8 0) := by
    rw [List.flatMap_replicate, bcells_zero, List.flatten_replicate_replicate]
  rw [e]
  unfold madeCells
  apply Array.ext
  · simp only [Array.size_map, Array.size_range, List.size_toArray, List.length_replicate]
  · intro i h1 h2
    simp only [Array.getElem_map, Array.getElem_range, List.getElem_toArray, List.getElem_replicate]
    have hs : (List.replicate 256 (Value.int .u8 0)).toArray.size = 256 := by rw [List.size_toArray, List.length_replicate]
    have hi : i % (List.replicate 256 (Value.int .u8 0)).toArray.size < (List.replicate 256 (Value.int .u8 0)).toArray.size := by rw [hs]; exact Nat.mod_lt _ (by decide)
    rw [getElem!_pos (List.replicate 256 (Value.int .u8 0)).toArray _ hi, List.getElem_toArray, List.getElem_replicate]
theorem run_make_b (c : Nat) (hc : c ≤ 1024) (w : World) : (Instr.makeSlice 71 (.int .i64 c) (.int .i64 c)).run Try.prog w = .ok (.slice (some ⟨w.heap.size, 0, none⟩) c c) (w.alloc (.cells ((List.replicate c (rep8 0 256)).flatMap bcells).toArray 85)) := by
  obtain ⟨i, hi, hz, hs, hb⟩ := info_parts info_b3
  have h := run_make (P := Try.prog) w 71 85 i _ Try.underlying71 hi hz .i64 .i64 c c (by omega) (Int.le_refl _) (by rw [hb]; omega) (by omega)
  rw [h, hs, Int.toNat_natCast]
  rw [show (Value.agg (List.replicate 256 (Value.int .u8 0)).toArray).cells = (List.replicate 256 (Value.int .u8 0)).toArray from rfl, made_b]
set_option maxHeartbeats 4000000 in
theorem new_calls (n : Int) (w : World) : Calls Try.prog 10 #[.int .i64 n] w fun e w' => (∃ p gf gn, e = .returned (.pointer (some ⟨p, 0, none⟩)) ∧ At (fun k => w.heap.size ≤ k ∧ k < w'.heap.size) w' p gf gn (.slice none 0 0) (fresh n)) ∧ Below w.heap.size w w' := by
  by_cases h1 : n < 1
  · have hcl : clamp n = 1 := by unfold clamp; omega
    have hc : 1 ≤ 1024 := by decide
    have h2 : n ≤ 1024 := by omega
    go_enter Try.func10, Try.ntmps10
    go_wp2
    refine start_ (n := 7) (S := fun _ => True) (ds := []) #[false, false, false, false, false, false, false] (by kernel_rfl) rfl rfl trivial (fun hHeld => ?_)
    have HB1 : Hid (Below w.heap.size w w.drew) := (Below.refl _ w).drew
    generalize w.drew = w1 at HB1 hHeld ⊢
    refine pure_ (i := 0) (N := some 7) (v := ?_) (a' := ?_) #[true, false, false, false, false, false, false] rfl rfl (by kernel_rfl) (fun _ _ _ h => h) (Or.inl ⟨by rfl, ?_⟩) ?_ ?_
    rotate_left
    · intro w'
      go_simp
      with_reducible rfl
    rotate_left
    · simp only [Act.put, List.setIfInBounds_toArray, List.set_cons_zero, List.set_cons_succ, i64_w, i32_w]
      rfl
    refine pure_ (i := 2) (N := some 9) (v := ?_) (a' := ?_) #[true, false, true, false, false, false, false] rfl rfl (by kernel_rfl) (fun _ _ _ h => h) (Or.inl ⟨by rfl, ?_⟩) ?_ ?_
    rotate_left
    · intro w'
      go_simp
      with_reducible rfl
    rotate_left
    · simp only [Act.put, List.setIfInBounds_toArray, List.set_cons_zero, List.set_cons_succ, i64_w, i32_w]
      rfl
    refine two_ (i := 1) (j := 3) (Ni := some 8) (Nj := some 10) #[true, true, true, false, false, false, false] #[true, false, true, true, false, false, false] rfl rfl rfl rfl (by kernel_rfl) (by decide) (by decide) (fun K hK => ?_) (fun K hK => ?_)
    · refine value_ (v := .slice (some ⟨w1.heap.size, 0, none⟩) (1) (1)) (by rfl) rfl (execOp_makeSlice rfl rfl rfl (run_make_b (1) hc w1)) ?_
      refine hK.out _ _ trivial (fun hHeld => ?_)
      clear hK K
      refine norm_ (a' := ?_) ?_ ?_
      rotate_left
      · show Act.put _ (some 8) _ = _
        simp only [Act.put, List.setIfInBounds_toArray, List.set_cons_zero, List.set_cons_succ, i64_w, i32_w]
        rfl
      have HA2 := Lib.hid (alloc_at w1 (.cells ((List.replicate (1) (rep8 0 256)).flatMap bcells).toArray 85))
      have HB2 : Hid (Below w.heap.size w (w1.alloc (.cells ((List.replicate (1) (rep8 0 256)).flatMap bcells).toArray 85))) := HB1.out.alloc HB1.out.size _
      have HS2 : Hid ((w1.alloc (.cells ((List.replicate (1) (rep8 0 256)).flatMap bcells).toArray 85)).heap.size = w1.heap.size + 1) := size_alloc1 _ _
      have HG1 := Lib.hid HB1.out.size
      obtain ⟨H1, hH1⟩ : ∃ H1, w1.heap.size = H1 := ⟨_, rfl⟩
      rw [hH1] at HA2 HS2 HG1 ⊢
      clear hH1
      generalize w1.alloc (.cells ((List.replicate (1) (rep8 0 256)).flatMap bcells).toArray 85) = w2 at HA2 HB2 HS2 ⊢
      refine one_ (i := 3) (N := some 10) #[true, true, true, true, false, false, false] rfl rfl (by kernel_rfl) (by decide) (fun K hK => ?_)
      refine value_ (v := .slice (some ⟨w2.heap.size, 0, none⟩) (1) (1)) (by rfl) rfl (execOp_makeSlice rfl rfl rfl (run_make_b (1) hc w2)) ?_
      refine hK.out _ _ trivial (fun hHeld => ?_)
      clear hK K
      refine norm_ (a' := ?_) ?_ ?_
      rotate_left
      · show Act.put _ (some 10) _ = _
        simp only [Act.put, List.setIfInBounds_toArray, List.set_cons_zero, List.set_cons_succ, i64_w, i32_w]
        rfl
      have HA3 := Lib.hid (alloc_old HA2.out (.cells ((List.replicate (1) (rep8 0 256)).flatMap bcells).toArray 85))
      have HC3 := Lib.hid (alloc_at w2 (.cells ((List.replicate (1) (rep8 0 256)).flatMap bcells).toArray 85))
      have HB3 : Hid (Below w.heap.size w (w2.alloc (.cells ((List.replicate (1) (rep8 0 256)).flatMap bcells).toArray 85))) := HB2.out.alloc HB2.out.size _
      have HS3 : Hid ((w2.alloc (.cells ((List.replicate (1) (rep8 0 256)).flatMap bcells).toArray 85)).heap.size = w2.heap.size + 1) := size_alloc1 _ _
      obtain ⟨H2, hH2⟩ : ∃ H2, w2.heap.size = H2 := ⟨_, rfl⟩
      rw [hH2] at HC3 HS2 HS3 ⊢
      clear hH2
      generalize w2.alloc (.cells ((List.replicate (1) (rep8 0 256)).flatMap bcells).toArray 85) = w3 at HA3 HC3 HB3 HS3 ⊢
      refine pure_ (i := 4) (N := some 11) (v := ?_) (a' := ?_) #[true, true, true, true, true, false, false] rfl rfl (by kernel_rfl) (fun _ _ _ h => h) (Or.inl ⟨by rfl, ?_⟩) ?_ ?_
      rotate_left
      · intro w'
        go_simp
        with_reducible rfl
      rotate_left
      · simp only [Act.put, List.setIfInBounds_toArray, List.set_cons_zero, List.set_cons_succ, i64_w, i32_w]
        rfl
      refine one_ (i := 5) (N := some 12) #[true, true, true, true, true, true, false] rfl rfl (by kernel_rfl) (by decide) (fun K hK => ?_)
      refine value_ (v := .pointer (some ⟨w3.heap.size, 0, none⟩)) (w1 := w3.alloc (.cells #[.slice (some ⟨H1, 0, none⟩) (1) (1), .slice (some ⟨H2, 0, none⟩) (1) (1), .slice none 0 0, .int .i64 (-1), .bool false] 74)) (by rfl) rfl (execOp_box rfl rfl (by kernel_rfl)) ?_
      refine hK.out _ _ trivial (fun hHeld => ?_)
      clear hK K
      refine norm_ (a' := ?_) ?_ ?_
      rotate_left
      · show Act.put _ (some 12) _ = _
        simp only [Act.put, List.setIfInBounds_toArray, List.set_cons_zero, List.set_cons_succ, i64_w, i32_w]
        rfl
      refine pure_ (i := 6) (N := some 2) (v := ?_) (a' := ?_) #[true, true, true, true, true, true, true] rfl rfl (by kernel_rfl) (fun _ _ _ h => h) (Or.inl ⟨by rfl, ?_⟩) ?_ ?_
      rotate_left
      · intro w'
        go_simp
        with_reducible rfl
      rotate_left
      · simp only [Act.put, List.setIfInBounds_toArray, List.set_cons_zero, List.set_cons_succ, i64_w, i32_w]
        rfl
      refine done_ (by kernel_rfl) ?_
      go_wp2
      go_ret
      have hs1 := HS2.out
      have hs2 := HS3.out
      have hg1 := HG1.out
      refine ⟨⟨w3.heap.size, H1, H2, rfl, ?_⟩, HB3.out.alloc HB3.out.size _⟩
      have hfr : (fresh n).firm = List.replicate (1) (rep8 0 256) := by unfold fresh; rw [hcl]
      exact {
        ok := fresh_ok n
        fp := ⟨by omega, by simp⟩
        ff := ⟨by omega, by simp; omega⟩
        fn := ⟨by omega, by simp; omega⟩
        fl := fun k hk => by simp [Value.ownBlock] at hk
        n1 := ⟨by omega, by omega, by omega⟩
        n2 := fun k hk => by simp [Value.ownBlock] at hk
        hp := by rw [hfr, List.length_replicate]; exact alloc_at w3 _
        hf := by rw [hfr]; exact alloc_old HA3.out _
        hn := by rw [show (fresh n).now = (fresh n).firm from rfl, hfr]; exact alloc_old HC3.out _
        hl := World.ownsRow_nil _ _ _ _
        lt := fun k hk => hk.2 }
    · refine value_ (v := .slice (some ⟨w1.heap.size, 0, none⟩) (1) (1)) (by rfl) rfl (execOp_makeSlice rfl rfl rfl (run_make_b (1) hc w1)) ?_
      refine hK.out _ _ trivial (fun hHeld => ?_)
      clear hK K
      refine norm_ (a' := ?_) ?_ ?_
      rotate_left
      · show Act.put _ (some 10) _ = _
        simp only [Act.put, List.setIfInBounds_toArray, List.set_cons_zero, List.set_cons_succ, i64_w, i32_w]
        rfl
      have HA2 := Lib.hid (alloc_at w1 (.cells ((List.replicate (1) (rep8 0 256)).flatMap bcells).toArray 85))
      have HB2 : Hid (Below w.heap.size w (w1.alloc (.cells ((List.replicate (1) (rep8 0 256)).flatMap bcells).toArray 85))) := HB1.out.alloc HB1.out.size _
      have HS2 : Hid ((w1.alloc (.cells ((List.replicate (1) (rep8 0 256)).flatMap bcells).toArray 85)).heap.size = w1.heap.size + 1) := size_alloc1 _ _
      have HG1 := Lib.hid HB1.out.size
      obtain ⟨H1, hH1⟩ : ∃ H1, w1.heap.size = H1 := ⟨_, rfl⟩
      rw [hH1] at HA2 HS2 HG1 ⊢
      clear hH1
      generalize w1.alloc (.cells ((List.replicate (1) (rep8 0 256)).flatMap bcells).toArray 85) = w2 at HA2 HB2 HS2 ⊢
      refine one_ (i := 1) (N := some 8) #[true, true, true, true, false, false, false] rfl rfl (by kernel_rfl) (by decide) (fun K hK => ?_)
      refine value_ (v := .slice (some ⟨w2.heap.size, 0, none⟩) (1) (1)) (by rfl) rfl (execOp_makeSlice rfl rfl rfl (run_make_b (1) hc w2)) ?_
      refine hK.out _ _ trivial (fun hHeld => ?_)
      clear hK K
      refine norm_ (a' := ?_) ?_ ?_
      rotate_left
      · show Act.put _ (some 8) _ = _
        simp only [Act.put, List.setIfInBounds_toArray, List.set_cons_zero, List.set_cons_succ, i64_w, i32_w]
        rfl
      have HA3 := Lib.hid (alloc_old HA2.out (.cells ((List.replicate (1) (rep8 0 256)).flatMap bcells).toArray 85))
      have HC3 := Lib.hid (alloc_at w2 (.cells ((List.replicate (1) (rep8 0 256)).flatMap bcells).toArray 85))
      have HB3 : Hid (Below w.heap.size w (w2.alloc (.cells ((List.replicate (1) (rep8 0 256)).flatMap bcells).toArray 85))) := HB2.out.alloc HB2.out.size _
      have HS3 : Hid ((w2.alloc (.cells ((List.replicate (1) (rep8 0 256)).flatMap bcells).toArray 85)).heap.size = w2.heap.size + 1) := size_alloc1 _ _
      obtain ⟨H2, hH2⟩ : ∃ H2, w2.heap.size = H2 := ⟨_, rfl⟩
      rw [hH2] at HC3 HS2 HS3 ⊢
      clear hH2
      generalize w2.alloc (.cells ((List.replicate (1) (rep8 0 256)).flatMap bcells).toArray 85) = w3 at HA3 HC3 HB3 HS3 ⊢
      refine pure_ (i := 4) (N := some 11) (v := ?_) (a' := ?_) #[true, true, true, true, true, false, false] rfl rfl (by kernel_rfl) (fun _ _ _ h => h) (Or.inl ⟨by rfl, ?_⟩) ?_ ?_
      rotate_left
      · intro w'
        go_simp
        with_reducible rfl
      rotate_left
      · simp only [Act.put, List.setIfInBounds_toArray, List.set_cons_zero, List.set_cons_succ, i64_w, i32_w]
        rfl
      refine one_ (i := 5) (N := some 12) #[true, true, true, true, true, true, false] rfl rfl (by kernel_rfl) (by decide) (fun K hK => ?_)
      refine value_ (v := .pointer (some ⟨w3.heap.size, 0, none⟩)) (w1 := w3.alloc (.cells #[.slice (some ⟨H2, 0, none⟩) (1) (1), .slice (some ⟨H1, 0, none⟩) (1) (1), .slice none 0 0, .int .i64 (-1), .bool false] 74)) (by rfl) rfl (execOp_box rfl rfl (by kernel_rfl)) ?_
      refine hK.out _ _ trivial (fun hHeld => ?_)
      clear hK K
      refine norm_ (a' := ?_) ?_ ?_
      rotate_left
      · show Act.put _ (some 12) _ = _
        simp only [Act.put, List.setIfInBounds_toArray, List.set_cons_zero, List.set_cons_succ, i64_w, i32_w]
        rfl
      refine pure_ (i := 6) (N := some 2) (v := ?_) (a' := ?_) #[true, true, true, true, true, true, true] rfl rfl (by kernel_rfl) (fun _ _ _ h => h) (Or.inl ⟨by rfl, ?_⟩) ?_ ?_
      rotate_left
      · intro w'
        go_simp
        with_reducible rfl
      rotate_left
      · simp only [Act.put, List.setIfInBounds_toArray, List.set_cons_zero, List.set_cons_succ, i64_w, i32_w]
        rfl
      refine done_ (by kernel_rfl) ?_
      go_wp2
      go_ret
      have hs1 := HS2.out
      have hs2 := HS3.out
      have hg1 := HG1.out
      refine ⟨⟨w3.heap.size, H2, H1, rfl, ?_⟩, HB3.out.alloc HB3.out.size _⟩
      have hfr : (fresh n).firm = List.replicate (1) (rep8 0 256) := by unfold fresh; rw [hcl]
      exact {
        ok := fresh_ok n
        fp := ⟨by omega, by simp⟩
        ff := ⟨by omega, by simp; omega⟩
        fn := ⟨by omega, by simp; omega⟩
        fl := fun k hk => by simp [Value.ownBlock] at hk
        n1 := ⟨by omega, by omega, by omega⟩
        n2 := fun k hk => by simp [Value.ownBlock] at hk
        hp := by rw [hfr, List.length_replicate]; exact alloc_at w3 _
        hf := by rw [hfr]; exact alloc_old HC3.out _
        hn := by rw [show (fresh n).now = (fresh n).firm from rfl, hfr]; exact alloc_old HA3.out _
        hl := World.ownsRow_nil _ _ _ _
        lt := fun k hk => hk.2 }
  · by_cases h2 : 1024 < n
    · have hcl : clamp n = 1024 := by unfold clamp; omega
      have hc : 1024 ≤ 1024 := by decide
      have h3 : 1 < n := by omega
      go_enter Try.func10, Try.ntmps10
      go_wp2
      refine start_ (n := 7) (S := fun _ => True) (ds := []) #[false, false, false, false, false, false, false] (by kernel_rfl) rfl rfl trivial (fun hHeld => ?_)
      have HB1 : Hid (Below w.heap.size w w.drew) := (Below.refl _ w).drew
      generalize w.drew = w1 at HB1 hHeld ⊢
      refine pure_ (i := 0) (N := some 7) (v := ?_) (a' := ?_) #[true, false, false, false, false, false, false] rfl rfl (by kernel_rfl) (fun _ _ _ h => h) (Or.inl ⟨by rfl, ?_⟩) ?_ ?_
      rotate_left
      · intro w'
        go_simp
        with_reducible rfl
      rotate_left
      · simp only [Act.put, List.setIfInBounds_toArray, List.set_cons_zero, List.set_cons_succ, i64_w, i32_w]
        rfl
      refine pure_ (i := 2) (N := some 9) (v := ?_) (a' := ?_) #[true, false, true, false, false, false, false] rfl rfl (by kernel_rfl) (fun _ _ _ h => h) (Or.inl ⟨by rfl, ?_⟩) ?_ ?_
      rotate_left
      · intro w'
        go_simp
        with_reducible rfl
      rotate_left
      · simp only [Act.put, List.setIfInBounds_toArray, List.set_cons_zero, List.set_cons_succ, i64_w, i32_w]
        rfl
      refine two_ (i := 1) (j := 3) (Ni := some 8) (Nj := some 10) #[true, true, true, false, false, false, false] #[true, false, true, true, false, false, false] rfl rfl rfl rfl (by kernel_rfl) (by decide) (by decide) (fun K hK => ?_) (fun K hK => ?_)
      · refine value_ (v := .slice (some ⟨w1.heap.size, 0, none⟩) (1024) (1024)) (by rfl) rfl (execOp_makeSlice rfl rfl rfl (run_make_b (1024) hc w1)) ?_
        refine hK.out _ _ trivial (fun hHeld => ?_)
        clear hK K
        refine norm_ (a' := ?_) ?_ ?_
        rotate_left
        · show Act.put _ (some 8) _ = _
          simp only [Act.put, List.setIfInBounds_toArray, List.set_cons_zero, List.set_cons_succ, i64_w, i32_w]
          rfl
        have HA2 := Lib.hid (alloc_at w1 (.cells ((List.replicate (1024) (rep8 0 256)).flatMap bcells).toArray 85))
        have HB2 : Hid (Below w.heap.size w (w1.alloc (.cells ((List.replicate (1024) (rep8 0 256)).flatMap bcells).toArray 85))) := HB1.out.alloc HB1.out.size _
        have HS2 : Hid ((w1.alloc (.cells ((List.replicate (1024) (rep8 0 256)).flatMap bcells).toArray 85)).heap.size = w1.heap.size + 1) := size_alloc1 _ _
        have HG1 := Lib.hid HB1.out.size
        obtain ⟨H1, hH1⟩ : ∃ H1, w1.heap.size = H1 := ⟨_, rfl⟩
        rw [hH1] at HA2 HS2 HG1 ⊢
        clear hH1
        generalize w1.alloc (.cells ((List.replicate (1024) (rep8 0 256)).flatMap bcells).toArray 85) = w2 at HA2 HB2 HS2 ⊢
        refine one_ (i := 3) (N := some 10) #[true, true, true, true, false, false, false] rfl rfl (by kernel_rfl) (by decide) (fun K hK => ?_)
        refine value_ (v := .slice (some ⟨w2.heap.size, 0, none⟩) (1024) (1024)) (by rfl) rfl (execOp_makeSlice rfl rfl rfl (run_make_b (1024) hc w2)) ?_
        refine hK.out _ _ trivial (fun hHeld => ?_)
        clear hK K
        refine norm_ (a' := ?_) ?_ ?_
        rotate_left
        · show Act.put _ (some 10) _ = _
          simp only [Act.put, List.setIfInBounds_toArray, List.set_cons_zero, List.set_cons_succ, i64_w, i32_w]
          rfl
        have HA3 := Lib.hid (alloc_old HA2.out (.cells ((List.replicate (1024) (rep8 0 256)).flatMap bcells).toArray 85))
        have HC3 := Lib.hid (alloc_at w2 (.cells ((List.replicate (1024) (rep8 0 256)).flatMap bcells).toArray 85))
        have HB3 : Hid (Below w.heap.size w (w2.alloc (.cells ((List.replicate (1024) (rep8 0 256)).flatMap bcells).toArray 85))) := HB2.out.alloc HB2.out.size _
        have HS3 : Hid ((w2.alloc (.cells ((List.replicate (1024) (rep8 0 256)).flatMap bcells).toArray 85)).heap.size = w2.heap.size + 1) := size_alloc1 _ _
        obtain ⟨H2, hH2⟩ : ∃ H2, w2.heap.size = H2 := ⟨_, rfl⟩
        rw [hH2] at HC3 HS2 HS3 ⊢
        clear hH2
        generalize w2.alloc (.cells ((List.replicate (1024) (rep8 0 256)).flatMap bcells).toArray 85) = w3 at HA3 HC3 HB3 HS3 ⊢
        refine pure_ (i := 4) (N := some 11) (v := ?_) (a' := ?_) #[true, true, true, true, true, false, false] rfl rfl (by kernel_rfl) (fun _ _ _ h => h) (Or.inl ⟨by rfl, ?_⟩) ?_ ?_
        rotate_left
        · intro w'
          go_simp
          with_reducible rfl
        rotate_left
        · simp only [Act.put, List.setIfInBounds_toArray, List.set_cons_zero, List.set_cons_succ, i64_w, i32_w]
          rfl
        refine one_ (i := 5) (N := some 12) #[true, true, true, true, true, true, false] rfl rfl (by kernel_rfl) (by decide) (fun K hK => ?_)
        refine value_ (v := .pointer (some ⟨w3.heap.size, 0, none⟩)) (w1 := w3.alloc (.cells #[.slice (some ⟨H1, 0, none⟩) (1024) (1024), .slice (some ⟨H2, 0, none⟩) (1024) (1024), .slice none 0 0, .int .i64 (-1), .bool false] 74)) (by rfl) rfl (execOp_box rfl rfl (by kernel_rfl)) ?_
        refine hK.out _ _ trivial (fun hHeld => ?_)
        clear hK K
        refine norm_ (a' := ?_) ?_ ?_
        rotate_left
        · show Act.put _ (some 12) _ = _
          simp only [Act.put, List.setIfInBounds_toArray, List.set_cons_zero, List.set_cons_succ, i64_w, i32_w]
          rfl
        refine pure_ (i := 6) (N := some 2) (v := ?_) (a' := ?_) #[true, true, true, true, true, true, true] rfl rfl (by kernel_rfl) (fun _ _ _ h => h) (Or.inl ⟨by rfl, ?_⟩) ?_ ?_
        rotate_left
        · intro w'
          go_simp
          with_reducible rfl
        rotate_left
        · simp only [Act.put, List.setIfInBounds_toArray, List.set_cons_zero, List.set_cons_succ, i64_w, i32_w]
          rfl
        refine done_ (by kernel_rfl) ?_
        go_wp2
        go_ret
        have hs1 := HS2.out
        have hs2 := HS3.out
        have hg1 := HG1.out
        refine ⟨⟨w3.heap.size, H1, H2, rfl, ?_⟩, HB3.out.alloc HB3.out.size _⟩
        have hfr : (fresh n).firm = List.replicate (1024) (rep8 0 256) := by unfold fresh; rw [hcl]
        exact {
          ok := fresh_ok n
          fp := ⟨by omega, by simp⟩
          ff := ⟨by omega, by simp; omega⟩
          fn := ⟨by omega, by simp; omega⟩
          fl := fun k hk => by simp [Value.ownBlock] at hk
          n1 := ⟨by omega, by omega, by omega⟩
          n2 := fun k hk => by simp [Value.ownBlock] at hk
          hp := by rw [hfr, List.length_replicate]; exact alloc_at w3 _
          hf := by rw [hfr]; exact alloc_old HA3.out _
          hn := by rw [show (fresh n).now = (fresh n).firm from rfl, hfr]; exact alloc_old HC3.out _
          hl := World.ownsRow_nil _ _ _ _
          lt := fun k hk => hk.2 }
      · refine value_ (v := .slice (some ⟨w1.heap.size, 0, none⟩) (1024) (1024)) (by rfl) rfl (execOp_makeSlice rfl rfl rfl (run_make_b (1024) hc w1)) ?_
        refine hK.out _ _ trivial (fun hHeld => ?_)
        clear hK K
        refine norm_ (a' := ?_) ?_ ?_
        rotate_left
        · show Act.put _ (some 10) _ = _
          simp only [Act.put, List.setIfInBounds_toArray, List.set_cons_zero, List.set_cons_succ, i64_w, i32_w]
          rfl
        have HA2 := Lib.hid (alloc_at w1 (.cells ((List.replicate (1024) (rep8 0 256)).flatMap bcells).toArray 85))
        have HB2 : Hid (Below w.heap.size w (w1.alloc (.cells ((List.replicate (1024) (rep8 0 256)).flatMap bcells).toArray 85))) := HB1.out.alloc HB1.out.size _
        have HS2 : Hid ((w1.alloc (.cells ((List.replicate (1024) (rep8 0 256)).flatMap bcells).toArray 85)).heap.size = w1.heap.size + 1) := size_alloc1 _ _
        have HG1 := Lib.hid HB1.out.size
        obtain ⟨H1, hH1⟩ : ∃ H1, w1.heap.size = H1 := ⟨_, rfl⟩
        rw [hH1] at HA2 HS2 HG1 ⊢
        clear hH1
        generalize w1.alloc (.cells ((List.replicate (1024) (rep8 0 256)).flatMap bcells).toArray 85) = w2 at HA2 HB2 HS2 ⊢
        refine one_ (i := 1) (N := some 8) #[true, true, true, true, false, false, false] rfl rfl (by kernel_rfl) (by decide) (fun K hK => ?_)
        refine value_ (v := .slice (some ⟨w2.heap.size, 0, none⟩) (1024) (1024)) (by rfl) rfl (execOp_makeSlice rfl rfl rfl (run_make_b (1024) hc w2)) ?_
        refine hK.out _ _ trivial (fun hHeld => ?_)
        clear hK K
        refine norm_ (a' := ?_) ?_ ?_
        rotate_left
        · show Act.put _ (some 8) _ = _
          simp only [Act.put, List.setIfInBounds_toArray, List.set_cons_zero, List.set_cons_succ, i64_w, i32_w]
          rfl
        have HA3 := Lib.hid (alloc_old HA2.out (.cells ((List.replicate (1024) (rep8 0 256)).flatMap bcells).toArray 85))
        have HC3 := Lib.hid (alloc_at w2 (.cells ((List.replicate (1024) (rep8 0 256)).flatMap bcells).toArray 85))
        have HB3 : Hid (Below w.heap.size w (w2.alloc (.cells ((List.replicate (1024) (rep8 0 256)).flatMap bcells).toArray 85))) := HB2.out.alloc HB2.out.size _
        have HS3 : Hid ((w2.alloc (.cells ((List.replicate (1024) (rep8 0 256)).flatMap bcells).toArray 85)).heap.size = w2.heap.size + 1) := size_alloc1 _ _
        obtain ⟨H2, hH2⟩ : ∃ H2, w2.heap.size = H2 := ⟨_, rfl⟩
        rw [hH2] at HC3 HS2 HS3 ⊢
        clear hH2
        generalize w2.alloc (.cells ((List.replicate (1024) (rep8 0 256)).flatMap bcells).toArray 85) = w3 at HA3 HC3 HB3 HS3 ⊢
        refine pure_ (i := 4) (N := some 11) (v := ?_) (a' := ?_) #[true, true, true, true, true, false, false] rfl rfl (by kernel_rfl) (fun _ _ _ h => h) (Or.inl ⟨by rfl, ?_⟩) ?_ ?_
        rotate_left
        · intro w'
          go_simp
          with_reducible rfl
        rotate_left
        · simp only [Act.put, List.setIfInBounds_toArray, List.set_cons_zero, List.set_cons_succ, i64_w, i32_w]
          rfl
        refine one_ (i := 5) (N := some 12) #[true, true, true, true, true, true, false] rfl rfl (by kernel_rfl) (by decide) (fun K hK => ?_)
        refine value_ (v := .pointer (some ⟨w3.heap.size, 0, none⟩)) (w1 := w3.alloc (.cells #[.slice (some ⟨H2, 0, none⟩) (1024) (1024), .slice (some ⟨H1, 0, none⟩) (1024) (1024), .slice none 0 0, .int .i64 (-1), .bool false] 74)) (by rfl) rfl (execOp_box rfl rfl (by kernel_rfl)) ?_
        refine hK.out _ _ trivial (fun hHeld => ?_)
        clear hK K
        refine norm_ (a' := ?_) ?_ ?_
        rotate_left
        · show Act.put _ (some 12) _ = _
          simp only [Act.put, List.setIfInBounds_toArray, List.set_cons_zero, List.set_cons_succ, i64_w, i32_w]
          rfl
        refine pure_ (i := 6) (N := some 2) (v := ?_) (a' := ?_) #[true, true, true, true, true, true, true] rfl rfl (by kernel_rfl) (fun _ _ _ h => h) (Or.inl ⟨by rfl, ?_⟩) ?_ ?_
        rotate_left
        · intro w'
          go_simp
          with_reducible rfl
        rotate_left
        · simp only [Act.put, List.setIfInBounds_toArray, List.set_cons_zero, List.set_cons_succ, i64_w, i32_w]
          rfl
        refine done_ (by kernel_rfl) ?_
        go_wp2
        go_ret
        have hs1 := HS2.out
        have hs2 := HS3.out
        have hg1 := HG1.out
        refine ⟨⟨w3.heap.size, H2, H1, rfl, ?_⟩, HB3.out.alloc HB3.out.size _⟩
        have hfr : (fresh n).firm = List.replicate (1024) (rep8 0 256) := by unfold fresh; rw [hcl]
        exact {
          ok := fresh_ok n
          fp := ⟨by omega, by simp⟩
          ff := ⟨by omega, by simp; omega⟩
          fn := ⟨by omega, by simp; omega⟩
          fl := fun k hk => by simp [Value.ownBlock] at hk
          n1 := ⟨by omega, by omega, by omega⟩
          n2 := fun k hk => by simp [Value.ownBlock] at hk
          hp := by rw [hfr, List.length_replicate]; exact alloc_at w3 _
          hf := by rw [hfr]; exact alloc_old HC3.out _
          hn := by rw [show (fresh n).now = (fresh n).firm from rfl, hfr]; exact alloc_old HA3.out _
          hl := World.ownsRow_nil _ _ _ _
          lt := fun k hk => hk.2 }
    · obtain ⟨m, rfl⟩ := Int.eq_ofNat_of_zero_le (show 0 ≤ n by omega)
      have hcl : clamp m = m := by unfold clamp; omega
      have hc : m ≤ 1024 := by omega
      go_enter Try.func10, Try.ntmps10
      go_wp2
      refine start_ (n := 7) (S := fun _ => True) (ds := []) #[false, false, false, false, false, false, false] (by kernel_rfl) rfl rfl trivial (fun hHeld => ?_)
      have HB1 : Hid (Below w.heap.size w w.drew) := (Below.refl _ w).drew
      generalize w.drew = w1 at HB1 hHeld ⊢
      refine pure_ (i := 0) (N := some 7) (v := ?_) (a' := ?_) #[true, false, false, false, false, false, false] rfl rfl (by kernel_rfl) (fun _ _ _ h => h) (Or.inl ⟨by rfl, ?_⟩) ?_ ?_
      rotate_left
      · intro w'
        go_simp
        with_reducible rfl
      rotate_left
      · simp only [Act.put, List.setIfInBounds_toArray, List.set_cons_zero, List.set_cons_succ, i64_w, i32_w]
        rfl
      refine pure_ (i := 2) (N := some 9) (v := ?_) (a' := ?_) #[true, false, true, false, false, false, false] rfl rfl (by kernel_rfl) (fun _ _ _ h => h) (Or.inl ⟨by rfl, ?_⟩) ?_ ?_
      rotate_left
      · intro w'
        go_simp
        with_reducible rfl
      rotate_left
      · simp only [Act.put, List.setIfInBounds_toArray, List.set_cons_zero, List.set_cons_succ, i64_w, i32_w]
        rfl
      refine two_ (i := 1) (j := 3) (Ni := some 8) (Nj := some 10) #[true, true, true, false, false, false, false] #[true, false, true, true, false, false, false] rfl rfl rfl rfl (by kernel_rfl) (by decide) (by decide) (fun K hK => ?_) (fun K hK => ?_)
      · refine value_ (v := .slice (some ⟨w1.heap.size, 0, none⟩) (m) (m)) (by rfl) rfl (execOp_makeSlice rfl rfl rfl (run_make_b (m) hc w1)) ?_
        refine hK.out _ _ trivial (fun hHeld => ?_)
        clear hK K
        refine norm_ (a' := ?_) ?_ ?_
        rotate_left
        · show Act.put _ (some 8) _ = _
          simp only [Act.put, List.setIfInBounds_toArray, List.set_cons_zero, List.set_cons_succ, i64_w, i32_w]
          rfl
        have HA2 := Lib.hid (alloc_at w1 (.cells ((List.replicate (m) (rep8 0 256)).flatMap bcells).toArray 85))
        have HB2 : Hid (Below w.heap.size w (w1.alloc (.cells ((List.replicate (m) (rep8 0 256)).flatMap bcells).toArray 85))) := HB1.out.alloc HB1.out.size _
        have HS2 : Hid ((w1.alloc (.cells ((List.replicate (m) (rep8 0 256)).flatMap bcells).toArray 85)).heap.size = w1.heap.size + 1) := size_alloc1 _ _
        have HG1 := Lib.hid HB1.out.size
        obtain ⟨H1, hH1⟩ : ∃ H1, w1.heap.size = H1 := ⟨_, rfl⟩
        rw [hH1] at HA2 HS2 HG1 ⊢
        clear hH1
        generalize w1.alloc (.cells ((List.replicate (m) (rep8 0 256)).flatMap bcells).toArray 85) = w2 at HA2 HB2 HS2 ⊢
        refine one_ (i := 3) (N := some 10) #[true, true, true, true, false, false, false] rfl rfl (by kernel_rfl) (by decide) (fun K hK => ?_)
        refine value_ (v := .slice (some ⟨w2.heap.size, 0, none⟩) (m) (m)) (by rfl) rfl (execOp_makeSlice rfl rfl rfl (run_make_b (m) hc w2)) ?_
        refine hK.out _ _ trivial (fun hHeld => ?_)
        clear hK K
        refine norm_ (a' := ?_) ?_ ?_
        rotate_left
        · show Act.put _ (some 10) _ = _
          simp only [Act.put, List.setIfInBounds_toArray, List.set_cons_zero, List.set_cons_succ, i64_w, i32_w]
          rfl
        have HA3 := Lib.hid (alloc_old HA2.out (.cells ((List.replicate (m) (rep8 0 256)).flatMap bcells).toArray 85))
        have HC3 := Lib.hid (alloc_at w2 (.cells ((List.replicate (m) (rep8 0 256)).flatMap bcells).toArray 85))
        have HB3 : Hid (Below w.heap.size w (w2.alloc (.cells ((List.replicate (m) (rep8 0 256)).flatMap bcells).toArray 85))) := HB2.out.alloc HB2.out.size _
        have HS3 : Hid ((w2.alloc (.cells ((List.replicate (m) (rep8 0 256)).flatMap bcells).toArray 85)).heap.size = w2.heap.size + 1) := size_alloc1 _ _
        obtain ⟨H2, hH2⟩ : ∃ H2, w2.heap.size = H2 := ⟨_, rfl⟩
        rw [hH2] at HC3 HS2 HS3 ⊢
        clear hH2
        generalize w2.alloc (.cells ((List.replicate (m) (rep8 0 256)).flatMap bcells).toArray 85) = w3 at HA3 HC3 HB3 HS3 ⊢
        refine pure_ (i := 4) (N := some 11) (v := ?_) (a' := ?_) #[true, true, true, true, true, false, false] rfl rfl (by kernel_rfl) (fun _ _ _ h => h) (Or.inl ⟨by rfl, ?_⟩) ?_ ?_
        rotate_left
        · intro w'
          go_simp
          with_reducible rfl
        rotate_left
        · simp only [Act.put, List.setIfInBounds_toArray, List.set_cons_zero, List.set_cons_succ, i64_w, i32_w]
          rfl
        refine one_ (i := 5) (N := some 12) #[true, true, true, true, true, true, false] rfl rfl (by kernel_rfl) (by decide) (fun K hK => ?_)
        refine value_ (v := .pointer (some ⟨w3.heap.size, 0, none⟩)) (w1 := w3.alloc (.cells #[.slice (some ⟨H1, 0, none⟩) (m) (m), .slice (some ⟨H2, 0, none⟩) (m) (m), .slice none 0 0, .int .i64 (-1), .bool false] 74)) (by rfl) rfl (execOp_box rfl rfl (by kernel_rfl)) ?_
        refine hK.out _ _ trivial (fun hHeld => ?_)
        clear hK K
        refine norm_ (a' := ?_) ?_ ?_
        rotate_left
        · show Act.put _ (some 12) _ = _
          simp only [Act.put, List.setIfInBounds_toArray, List.set_cons_zero, List.set_cons_succ, i64_w, i32_w]
          rfl
        refine pure_ (i := 6) (N := some 2) (v := ?_) (a' := ?_) #[true, true, true, true, true, true, true] rfl rfl (by kernel_rfl) (fun _ _ _ h => h) (Or.inl ⟨by rfl, ?_⟩) ?_ ?_
        rotate_left
        · intro w'
          go_simp
          with_reducible rfl
        rotate_left
        · simp only [Act.put, List.setIfInBounds_toArray, List.set_cons_zero, List.set_cons_succ, i64_w, i32_w]
          rfl
        refine done_ (by kernel_rfl) ?_
        go_wp2
        go_ret
        have hs1 := HS2.out
        have hs2 := HS3.out
        have hg1 := HG1.out
        refine ⟨⟨w3.heap.size, H1, H2, rfl, ?_⟩, HB3.out.alloc HB3.out.size _⟩
        have hfr : (fresh (m : Int)).firm = List.replicate (m) (rep8 0 256) := by unfold fresh; rw [hcl]
        exact {
          ok := fresh_ok (m : Int)
          fp := ⟨by omega, by simp⟩
          ff := ⟨by omega, by simp; omega⟩
          fn := ⟨by omega, by simp; omega⟩
          fl := fun k hk => by simp [Value.ownBlock] at hk
          n1 := ⟨by omega, by omega, by omega⟩
          n2 := fun k hk => by simp [Value.ownBlock] at hk
          hp := by rw [hfr, List.length_replicate]; exact alloc_at w3 _
          hf := by rw [hfr]; exact alloc_old HA3.out _
          hn := by rw [show (fresh (m : Int)).now = (fresh (m : Int)).firm from rfl, hfr]; exact alloc_old HC3.out _
          hl := World.ownsRow_nil _ _ _ _
          lt := fun k hk => hk.2 }
      · refine value_ (v := .slice (some ⟨w1.heap.size, 0, none⟩) (m) (m)) (by rfl) rfl (execOp_makeSlice rfl rfl rfl (run_make_b (m) hc w1)) ?_
        refine hK.out _ _ trivial (fun hHeld => ?_)
        clear hK K
        refine norm_ (a' := ?_) ?_ ?_
        rotate_left
        · show Act.put _ (some 10) _ = _
          simp only [Act.put, List.setIfInBounds_toArray, List.set_cons_zero, List.set_cons_succ, i64_w, i32_w]
          rfl
        have HA2 := Lib.hid (alloc_at w1 (.cells ((List.replicate (m) (rep8 0 256)).flatMap bcells).toArray 85))
        have HB2 : Hid (Below w.heap.size w (w1.alloc (.cells ((List.replicate (m) (rep8 0 256)).flatMap bcells).toArray 85))) := HB1.out.alloc HB1.out.size _
        have HS2 : Hid ((w1.alloc (.cells ((List.replicate (m) (rep8 0 256)).flatMap bcells).toArray 85)).heap.size = w1.heap.size + 1) := size_alloc1 _ _
        have HG1 := Lib.hid HB1.out.size
        obtain ⟨H1, hH1⟩ : ∃ H1, w1.heap.size = H1 := ⟨_, rfl⟩
        rw [hH1] at HA2 HS2 HG1 ⊢
        clear hH1
        generalize w1.alloc (.cells ((List.replicate (m) (rep8 0 256)).flatMap bcells).toArray 85) = w2 at HA2 HB2 HS2 ⊢
        refine one_ (i := 1) (N := some 8) #[true, true, true, true, false, false, false] rfl rfl (by kernel_rfl) (by decide) (fun K hK => ?_)
        refine value_ (v := .slice (some ⟨w2.heap.size, 0, none⟩) (m) (m)) (by rfl) rfl (execOp_makeSlice rfl rfl rfl (run_make_b (m) hc w2)) ?_
        refine hK.out _ _ trivial (fun hHeld => ?_)
        clear hK K
        refine norm_ (a' := ?_) ?_ ?_
        rotate_left
        · show Act.put _ (some 8) _ = _
          simp only [Act.put, List.setIfInBounds_toArray, List.set_cons_zero, List.set_cons_succ, i64_w, i32_w]
          rfl
        have HA3 := Lib.hid (alloc_old HA2.out (.cells ((List.replicate (m) (rep8 0 256)).flatMap bcells).toArray 85))
        have HC3 := Lib.hid (alloc_at w2 (.cells ((List.replicate (m) (rep8 0 256)).flatMap bcells).toArray 85))
        have HB3 : Hid (Below w.heap.size w (w2.alloc (.cells ((List.replicate (m) (rep8 0 256)).flatMap bcells).toArray 85))) := HB2.out.alloc HB2.out.size _
        have HS3 : Hid ((w2.alloc (.cells ((List.replicate (m) (rep8 0 256)).flatMap bcells).toArray 85)).heap.size = w2.heap.size + 1) := size_alloc1 _ _
        obtain ⟨H2, hH2⟩ : ∃ H2, w2.heap.size = H2 := ⟨_, rfl⟩
        rw [hH2] at HC3 HS2 HS3 ⊢
        clear hH2
        generalize w2.alloc (.cells ((List.replicate (m) (rep8 0 256)).flatMap bcells).toArray 85) = w3 at HA3 HC3 HB3 HS3 ⊢
        refine pure_ (i := 4) (N := some 11) (v := ?_) (a' := ?_) #[true, true, true, true, true, false, false] rfl rfl (by kernel_rfl) (fun _ _ _ h => h) (Or.inl ⟨by rfl, ?_⟩) ?_ ?_
        rotate_left
        · intro w'
          go_simp
          with_reducible rfl
        rotate_left
        · simp only [Act.put, List.setIfInBounds_toArray, List.set_cons_zero, List.set_cons_succ, i64_w, i32_w]
          rfl
        refine one_ (i := 5) (N := some 12) #[true, true, true, true, true, true, false] rfl rfl (by kernel_rfl) (by decide) (fun K hK => ?_)
        refine value_ (v := .pointer (some ⟨w3.heap.size, 0, none⟩)) (w1 := w3.alloc (.cells #[.slice (some ⟨H2, 0, none⟩) (m) (m), .slice (some ⟨H1, 0, none⟩) (m) (m), .slice none 0 0, .int .i64 (-1), .bool false] 74)) (by rfl) rfl (execOp_box rfl rfl (by kernel_rfl)) ?_
        refine hK.out _ _ trivial (fun hHeld => ?_)
        clear hK K
        refine norm_ (a' := ?_) ?_ ?_
        rotate_left
        · show Act.put _ (some 12) _ = _
          simp only [Act.put, List.setIfInBounds_toArray, List.set_cons_zero, List.set_cons_succ, i64_w, i32_w]
          rfl
        refine pure_ (i := 6) (N := some 2) (v := ?_) (a' := ?_) #[true, true, true, true, true, true, true] rfl rfl (by kernel_rfl) (fun _ _ _ h => h) (Or.inl ⟨by rfl, ?_⟩) ?_ ?_
        rotate_left
        · intro w'
          go_simp
          with_reducible rfl
        rotate_left
        · simp only [Act.put, List.setIfInBounds_toArray, List.set_cons_zero, List.set_cons_succ, i64_w, i32_w]
          rfl
        refine done_ (by kernel_rfl) ?_
        go_wp2
        go_ret
        have hs1 := HS2.out
        have hs2 := HS3.out
        have hg1 := HG1.out
        refine ⟨⟨w3.heap.size, H2, H1, rfl, ?_⟩, HB3.out.alloc HB3.out.size _⟩
        have hfr : (fresh (m : Int)).firm = List.replicate (m) (rep8 0 256) := by unfold fresh; rw [hcl]
        exact {
          ok := fresh_ok (m : Int)
          fp := ⟨by omega, by simp⟩
          ff := ⟨by omega, by simp; omega⟩
          fn := ⟨by omega, by simp; omega⟩
          fl := fun k hk => by simp [Value.ownBlock] at hk
          n1 := ⟨by omega, by omega, by omega⟩
          n2 := fun k hk => by simp [Value.ownBlock] at hk
          hp := by rw [hfr, List.length_replicate]; exact alloc_at w3 _
          hf := by rw [hfr]; exact alloc_old HC3.out _
          hn := by rw [show (fresh (m : Int)).now = (fresh (m : Int)).firm from rfl, hfr]; exact alloc_old HA3.out _
          hl := World.ownsRow_nil _ _ _ _
          lt := fun k hk => hk.2 }
end Go.Proofs.Ytmdojgkgohmghaa.Dev
namespace Go.Proofs.Ytmdojgkgohmghaa.Dev
open Go.RowKit Go.Own Go.DevL Go.Blk
set_option linter.unusedVariables false
set_option maxRecDepth 100000
set_option linter.unusedSimpArgs false
variable {F : Nat → Prop} {w w' : World} {p gf gn : Nat} {vl : Value} {d : Dv}
/-- F, and what was made since. -/
def Up (F : Nat → Prop) (w w' : World) : Nat → Prop := fun k => F k ∨ (w.heap.size ≤ k ∧ k < w'.heap.size)
/-- A device lies at p. -/
def Dev (F : Nat → Prop) (w : World) (p : Nat) (d : Dv) : Prop := ∃ gf gn vl, At F w p gf gn vl d
theorem At.mono {G : Nat → Prop} (h : At F w p gf gn vl d) (hG : ∀ k, F k → G k) (hlt : ∀ k, G k → k < w.heap.size) : At G w p gf gn vl d :=
  { h with fp := hG _ h.fp, ff := hG _ h.ff, fn := hG _ h.fn, fl := fun k hk => hG _ (h.fl k hk), lt := hlt }
theorem Dev.ok (h : Dev F w p d) : d.OK := by obtain ⟨_, _, _, h⟩ := h; exact h.ok
theorem Dev.lt (h : Dev F w p d) : ∀ k, F k → k < w.heap.size := by obtain ⟨_, _, _, h⟩ := h; exact h.lt
theorem Dev.keep {G : Nat → Prop} (h : Dev F w p d) (hF : Fr G w w') (hG : ∀ k, F k → ¬ G k) : Dev F w' p d := by obtain ⟨_, _, _, h⟩ := h; exact ⟨_, _, _, h.keep hF hG⟩
theorem Dev.below (h : Dev F w p d) (hb : Below w.heap.size w w') : Dev F w' p d := by obtain ⟨_, _, _, h⟩ := h; exact ⟨_, _, _, h.below hb⟩
theorem up_of (hl : ∀ k, F k → k < w.heap.size) (hF : Fr F w w') (h : At F w' p gf gn vl d) : Dev (Up F w w') w' p d :=
  ⟨_, _, _, h.mono (fun _ => .inl) (fun k hk => by rcases hk with hk | hk; exact h.lt k hk; exact hk.2)⟩
/-! ### in one contract each -/
theorem dead_any (h : Dev F w p d) : Calls Try.prog 29 #[.pointer (some ⟨p, 0, none⟩)] w fun e w' => e = .returned (.bool d.dead) ∧ w = w' := by obtain ⟨_, _, _, h⟩ := h; exact dead_calls h
theorem blocks_any (h : Dev F w p d) : Calls Try.prog 28 #[.pointer (some ⟨p, 0, none⟩)] w fun e w' => e = .returned (.int .i64 d.firm.length) ∧ w = w' := by obtain ⟨_, _, _, h⟩ := h; exact blocks_calls h
theorem read_any (h : Dev F w p d) (i : Int) : Calls Try.prog 37 #[.pointer (some ⟨p, 0, none⟩), .int .i64 i] w fun e w' => e = readE d i ∧ w = w' := by obtain ⟨_, _, _, h⟩ := h; exact read_calls h i
theorem settled_any (h : Dev F w p d) (i : Int) : Calls Try.prog 26 #[.pointer (some ⟨p, 0, none⟩), .int .i64 i] w fun e w' => e = .returned (.string (d.settled i)) ∧ w = w' := by obtain ⟨_, _, _, h⟩ := h; exact settled_calls h i
theorem fuse_any (h : Dev F w p d) (n : Int) (hn : n ≤ 9223372036854775807) : Calls Try.prog 20 #[.pointer (some ⟨p, 0, none⟩), .int .i64 n] w fun e w' => e = .returned (.tuple #[]) ∧ Dev (Up F w w') w' p (d.light n) ∧ Fr F w w' := by
  obtain ⟨_, _, _, h⟩ := h
  exact (fuse_calls h n hn).mono fun e w' ⟨he, h1, h2⟩ => ⟨he, up_of h.lt h2 h1, h2⟩
theorem crash_any (h : Dev F w p d) (keep : Int) (hk0 : 0 ≤ keep) (hk1 : keep < 18446744073709551616) (hl : d.late.length ≤ 1000000) : Calls Try.prog 21 #[.pointer (some ⟨p, 0, none⟩), .int .u64 keep] w fun e w' => e = .returned (.tuple #[]) ∧ Dev (Up F w w') w' p (d.crash keep) ∧ Fr F w w' := by
  obtain ⟨_, _, _, h⟩ := h
  exact (crash_calls h keep hk0 hk1 hl).mono fun e w' ⟨he, h1, h2⟩ => ⟨he, up_of h.lt h2 h1, h2⟩
theorem barrier_any (h : Dev F w p d) : Calls Try.prog 33 #[.pointer (some ⟨p, 0, none⟩)] w fun e w' => e = .returned (.int .i64 d.barrier.1) ∧ Dev (Up F w w') w' p d.barrier.2 ∧ Fr F w w' := by
  obtain ⟨_, _, _, h⟩ := h
  by_cases hb : d.burns = true
  · rw [show d.barrier = (5, d.die) by unfold Dv.barrier; rw [if_pos hb]]
    exact (barrier_dies h hb).mono fun e w' ⟨he, h1, h2⟩ => ⟨he, up_of h.lt h2 h1, h2⟩
  · rw [show d.barrier = (0, { d with firm := d.now, late := [], fuse := less d.fuse }) by unfold Dv.barrier; rw [if_neg hb]]
    exact (barrier_goes h (by simpa using hb)).mono fun e w' ⟨he, h1, h2⟩ => ⟨he, up_of h.lt h2 h1, h2⟩
theorem write_any (h : Dev F w p d) (i : Int) (b : ByteArray) (hl : d.late.length ≤ 1000000) : Calls Try.prog 32 #[.pointer (some ⟨p, 0, none⟩), .int .i64 i, .string b] w fun e w' => e = .returned (.int .i64 (d.write i b).1) ∧ Dev (Up F w w') w' p (d.write i b).2 ∧ Fr F w w' := by
  obtain ⟨_, _, _, h⟩ := h
  by_cases hc : (d.bad i || b.size != 256) = true
  · rw [show d.write i b = (1, d) by unfold Dv.write; rw [if_pos hc]]
    refine (write_bad h i b hc).mono fun e w' ⟨he, h1⟩ => ⟨he, ?_⟩
    subst h1
    exact ⟨up_of h.lt (Fr.refl F w) h, Fr.refl F w⟩
  · have hc' := hc
    simp only [Bool.not_eq_true, Bool.or_eq_false_iff, bne_eq_false_iff_eq] at hc'
    obtain ⟨h0, h1⟩ := Dv.bad_false hc'.1
    obtain ⟨k, rfl⟩ := Int.eq_ofNat_of_zero_le h0
    by_cases hb : d.burns = true
    · rw [show d.write k b = (5, d.die) by unfold Dv.write; rw [if_neg hc, if_pos hb]]
      exact (write_dies h k (by omega) b hc'.2 hb).mono fun e w' ⟨he, h1, h2⟩ => ⟨he, up_of h.lt h2 h1, h2⟩
    · rw [show d.write k b = (0, { d with late := d.late ++ [(k, b)], fuse := less d.fuse }) by unfold Dv.write; rw [if_neg hc, if_neg hb, Int.toNat_natCast]]
      exact (write_goes h k (by omega) b hc'.2 (by simpa using hb) hl).mono fun e w' ⟨he, ⟨v, h1⟩, h2⟩ => ⟨he, ⟨_, _, _, h1⟩, h2⟩
theorem new_any (n : Int) (w : World) : Calls Try.prog 10 #[.int .i64 n] w fun e w' => (∃ p, e = .returned (.pointer (some ⟨p, 0, none⟩)) ∧ Dev (fun k => w.heap.size ≤ k ∧ k < w'.heap.size) w' p (fresh n)) ∧ Below w.heap.size w w' :=
  (new_calls n w).mono fun e w' ⟨⟨p, gf, gn, he, h⟩, hb⟩ => ⟨⟨p, he, _, _, _, h⟩, hb⟩
/-! ### blocks of one kind -/
/-! ### no device -/
end Go.Proofs.Ytmdojgkgohmghaa.Dev
