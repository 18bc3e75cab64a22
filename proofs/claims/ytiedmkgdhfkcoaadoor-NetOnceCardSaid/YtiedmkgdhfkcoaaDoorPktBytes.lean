/- Layer proto: a packet's bytes by the document. -/
import Derived.Test.YtiedmkgdhfkcoaaDoorPktWrite
import Derived.Test.YtiedmkgdhfkcoaaDoorXdrDoc
import Derived.Deep.WholeRow
namespace Go.Proofs.YtiedmkgdhfkcoaaDoor.Pkt
open Go.RowKit Go.Own Go.Blk Go.OpsL Go.XdrL Go.PktL Go.Sees Go.Proofs.YtiedmkgdhfkcoaaDoor.Xdr Go.Proofs.YtiedmkgdhfkcoaaDoorW.PrintLast Go.Proofs.YtiedmkgdhfkcoaaDoorW.PrintWords
set_option linter.unusedVariables false
set_option linter.unusedSimpArgs false
set_option maxRecDepth 100000
def ocells (p : Pk) : List Value := (pcells p).drop 7
theorem op_info : (Tryd.prog.info? 25).map (·.size) = some 13 := by kernel_rfl
theorem op_range {w : World} {g : Nat} {p : Pk} (h : PAt w g p) : w.rangeAt g 7 (ocells p) := fun j v hv => by
  rw [cell_at h]
  show (pcells p).toArray[7 + j]? = some v
  rw [List.getElem?_toArray, ← List.getElem?_drop]
  exact hv
theorem op_load {w : World} {g : Nat} {p : Pk} (h : PAt w g p) : (Instr.loadAt 25 (.pointer (some ⟨g, 7, none⟩))).run Tryd.prog w = .ok (.agg #[.int .i64 p.code, .int .i64 p.err, .int .u32 (p.file : Int), .int .u32 (p.epoch : Int), .int .u32 (p.off : Int), .int .u32 (p.len : Int), .int .u32 (p.size : Int), .int .u32 (p.mode : Int), .int .u32 (p.deny : Int), .int .u32 (p.handle : Int), .string p.path, .string p.other, .string p.data]) w :=
  run_loadAt_mid w g 7 25 (ocells p) _ (op_range h) Tryd.underlying25 rfl op_info
/-- The packet's second part lies by itself. -/
def OAt (w : World) (g : Nat) (p : Pk) : Prop := w.heap[g]? = some (.cells #[.int .i64 p.code, .int .i64 p.err, .int .u32 (p.file : Int), .int .u32 (p.epoch : Int), .int .u32 (p.off : Int), .int .u32 (p.len : Int), .int .u32 (p.size : Int), .int .u32 (p.mode : Int), .int .u32 (p.deny : Int), .int .u32 (p.handle : Int), .string p.path, .string p.other, .string p.data] 25 (0, 0))
theorem op_store (w : World) (p : Pk) : (Instr.storeAt 25 (.pointer (some ⟨w.heap.size, 0, none⟩)) (.agg #[.int .i64 p.code, .int .i64 p.err, .int .u32 (p.file : Int), .int .u32 (p.epoch : Int), .int .u32 (p.off : Int), .int .u32 (p.len : Int), .int .u32 (p.size : Int), .int .u32 (p.mode : Int), .int .u32 (p.deny : Int), .int .u32 (p.handle : Int), .string p.path, .string p.other, .string p.data])).run Tryd.prog (w.alloc (.cells #[.int .i64 0, .int .i64 0, .int .u32 0, .int .u32 0, .int .u32 0, .int .u32 0, .int .u32 0, .int .u32 0, .int .u32 0, .int .u32 0, .string ⟨#[]⟩, .string ⟨#[]⟩, .string ⟨#[]⟩] 25)) = .ok () (w.alloc (.cells #[.int .i64 p.code, .int .i64 p.err, .int .u32 (p.file : Int), .int .u32 (p.epoch : Int), .int .u32 (p.off : Int), .int .u32 (p.len : Int), .int .u32 (p.size : Int), .int .u32 (p.mode : Int), .int .u32 (p.deny : Int), .int .u32 (p.handle : Int), .string p.path, .string p.other, .string p.data] 25)) := by
  have h := run_storeAt_row (P := Tryd.prog) (w.alloc (.cells #[.int .i64 0, .int .i64 0, .int .u32 0, .int .u32 0, .int .u32 0, .int .u32 0, .int .u32 0, .int .u32 0, .int .u32 0, .int .u32 0, .string ⟨#[]⟩, .string ⟨#[]⟩, .string ⟨#[]⟩] 25)) w.heap.size 0 25 [.int .i64 0, .int .i64 0, .int .u32 0, .int .u32 0, .int .u32 0, .int .u32 0, .int .u32 0, .int .u32 0, .int .u32 0, .int .u32 0, .string ⟨#[]⟩, .string ⟨#[]⟩, .string ⟨#[]⟩] 25 #[.int .i64 p.code, .int .i64 p.err, .int .u32 (p.file : Int), .int .u32 (p.epoch : Int), .int .u32 (p.off : Int), .int .u32 (p.len : Int), .int .u32 (p.size : Int), .int .u32 (p.mode : Int), .int .u32 (p.deny : Int), .int .u32 (p.handle : Int), .string p.path, .string p.other, .string p.data] (alloc_at w _) (Nat.le_refl 13) op_info (by simp [Value.oneCell'])
  rw [over_all (cur := [.int .i64 0, .int .i64 0, .int .u32 0, .int .u32 0, .int .u32 0, .int .u32 0, .int .u32 0, .int .u32 0, .int .u32 0, .int .u32 0, .string ⟨#[]⟩, .string ⟨#[]⟩, .string ⟨#[]⟩]) (vs := #[.int .i64 p.code, .int .i64 p.err, .int .u32 (p.file : Int), .int .u32 (p.epoch : Int), .int .u32 (p.off : Int), .int .u32 (p.len : Int), .int .u32 (p.size : Int), .int .u32 (p.mode : Int), .int .u32 (p.deny : Int), .int .u32 (p.handle : Int), .string p.path, .string p.other, .string p.data].toList) (Nat.le_refl 13)] at h
  rw [h]
  exact congrArg (Result.ok ()) (World.setRow_alloc_new w _ _ _)
theorem OAt.cells {w : World} {g : Nat} {p : Pk} (h : OAt w g p) : w.cell? ⟨g, 0, none⟩ = some (.int .i64 p.code) ∧ w.cell? ⟨g, 1, none⟩ = some (.int .i64 p.err) ∧ w.cell? ⟨g, 2, none⟩ = some (.int .u32 (p.file : Int)) ∧ w.cell? ⟨g, 3, none⟩ = some (.int .u32 (p.epoch : Int)) ∧ w.cell? ⟨g, 4, none⟩ = some (.int .u32 (p.off : Int)) ∧ w.cell? ⟨g, 5, none⟩ = some (.int .u32 (p.len : Int)) ∧ w.cell? ⟨g, 6, none⟩ = some (.int .u32 (p.size : Int)) ∧ w.cell? ⟨g, 7, none⟩ = some (.int .u32 (p.mode : Int)) ∧ w.cell? ⟨g, 8, none⟩ = some (.int .u32 (p.deny : Int)) ∧ w.cell? ⟨g, 9, none⟩ = some (.int .u32 (p.handle : Int)) ∧ w.cell? ⟨g, 10, none⟩ = some (.string p.path) ∧ w.cell? ⟨g, 11, none⟩ = some (.string p.other) ∧ w.cell? ⟨g, 12, none⟩ = some (.string p.data) :=
  ⟨(cell_at h 0).trans rfl, (cell_at h 1).trans rfl, (cell_at h 2).trans rfl, (cell_at h 3).trans rfl, (cell_at h 4).trans rfl, (cell_at h 5).trans rfl, (cell_at h 6).trans rfl, (cell_at h 7).trans rfl, (cell_at h 8).trans rfl, (cell_at h 9).trans rfl, (cell_at h 10).trans rfl, (cell_at h 11).trans rfl, (cell_at h 12).trans rfl⟩
theorem op3 {w : World} {g : Nat} {p : Pk} (h : w.heap[g]? = some (.cells #[.int .i64 p.code, .int .i64 p.err, .int .u32 (p.file : Int), .int .u32 (p.epoch : Int), .int .u32 (p.off : Int), .int .u32 (p.len : Int), .int .u32 (p.size : Int), .int .u32 (p.mode : Int), .int .u32 (p.deny : Int), .int .u32 (p.handle : Int), .string p.path, .string p.other, .string p.data] 25 (0, 0))) : w.cell? ⟨g, 10, none⟩ = some (.string p.path) ∧ w.cell? ⟨g, 11, none⟩ = some (.string p.other) ∧ w.cell? ⟨g, 12, none⟩ = some (.string p.data) :=
  ⟨(cell_at h 10).trans rfl, (cell_at h 11).trans rfl, (cell_at h 12).trans rfl⟩
theorem run17 (w : World) (a0 a1 a2 a3 a4 a5 a6 a7 a8 a9 a10 a11 a12 a13 a14 a15 a16 : Int) : (Instr.buildSlice 85 17 #[(0, .int .u32 a0), (1, .int .u32 a1), (2, .int .u32 a2), (3, .int .u32 a3), (4, .int .u32 a4), (5, .int .u32 a5), (6, .int .u32 a6), (7, .int .u32 a7), (8, .int .u32 a8), (9, .int .u32 a9), (10, .int .u32 a10), (11, .int .u32 a11), (12, .int .u32 a12), (13, .int .u32 a13), (14, .int .u32 a14), (15, .int .u32 a15), (16, .int .u32 a16)]).run Tryd.prog w = .ok (.slice (some ⟨w.heap.size, 0, none⟩) 17 17) (w.alloc (.cells #[.int .u32 a0, .int .u32 a1, .int .u32 a2, .int .u32 a3, .int .u32 a4, .int .u32 a5, .int .u32 a6, .int .u32 a7, .int .u32 a8, .int .u32 a9, .int .u32 a10, .int .u32 a11, .int .u32 a12, .int .u32 a13, .int .u32 a14, .int .u32 a15, .int .u32 a16] 22)) := by kernel_rfl
theorem nums17 (p : Pk) : #[.int .u32 (p.kind % 4294967296), .int .u32 (p.fr % 4294967296), .int .u32 (p.to % 4294967296), .int .u32 (p.life : Int), .int .u32 (p.seq : Int), .int .u32 (p.asked : Int), .int .u32 (p.boot : Int), .int .u32 (p.code % 4294967296), .int .u32 (p.err % 4294967296), .int .u32 (p.file : Int), .int .u32 (p.epoch : Int), .int .u32 (p.off : Int), .int .u32 (p.len : Int), .int .u32 (p.size : Int), .int .u32 (p.mode : Int), .int .u32 (p.deny : Int), .int .u32 (p.handle : Int)] = (ucells p.nums).toArray := by
  have e : ∀ n : Int, n % 4294967296 = ((u32 n : Nat) : Int) := fun n => by unfold u32; omega
  rw [e p.kind, e p.fr, e p.to, e p.code, e p.err]
  rfl
theorem cell17 {w : World} {L : Nat} {p : Pk} (h : w.heap[L]? = some (.cells (ucells p.nums).toArray 22 (0, 0))) (k : Nat) (hk : k < 17) : w.cell? ⟨L, k, none⟩ = some (.int .u32 ((p.nums.getD k 0 : Nat) : Int)) := by
  rw [cell_at h, List.getElem?_toArray]
  have hl : k < p.nums.length := by rw [nums_length]; exact hk
  simp only [ucells, List.getElem?_map, List.getElem?_eq_getElem hl, Option.map_some, List.getD, Option.getD_some]
set_option maxHeartbeats 16000000 in
theorem dbytes (p : Pk) (h : p.OK) (hr : right p = true) (w : World) : Calls Tryd.prog 14 #[.agg #[.int .i64 p.kind, .int .i64 p.fr, .int .i64 p.to, .int .u32 (p.life : Int), .int .u32 (p.seq : Int), .int .u32 (p.asked : Int), .int .u32 (p.boot : Int), .int .i64 p.code, .int .i64 p.err, .int .u32 (p.file : Int), .int .u32 (p.epoch : Int), .int .u32 (p.off : Int), .int .u32 (p.len : Int), .int .u32 (p.size : Int), .int .u32 (p.mode : Int), .int .u32 (p.deny : Int), .int .u32 (p.handle : Int), .string p.path, .string p.other, .string p.data]] w fun e w' => e = .returned (.string p.bytes) ∧ Below w.heap.size w w' := by
  have HO := Lib.hid h
  have HS : Hid (p.path.size ≤ 64 ∧ p.other.size ≤ 64 ∧ p.data.size ≤ 128) := Lib.hid ((right_iff p).1 hr).2.2.2.2.2.2.2
  have hal : Below w.heap.size w (w.alloc (.cells #[.int .i64 p.kind, .int .i64 p.fr, .int .i64 p.to, .int .u32 (p.life : Int), .int .u32 (p.seq : Int), .int .u32 (p.asked : Int), .int .u32 (p.boot : Int), .int .i64 p.code, .int .i64 p.err, .int .u32 (p.file : Int), .int .u32 (p.epoch : Int), .int .u32 (p.off : Int), .int .u32 (p.len : Int), .int .u32 (p.size : Int), .int .u32 (p.mode : Int), .int .u32 (p.deny : Int), .int .u32 (p.handle : Int), .string p.path, .string p.other, .string p.data] 27)) := (Below.refl _ _).alloc (Nat.le_refl _) _
  have HAL := Lib.hid hal
  have hpa := PAt.alloc w p
  obtain ⟨G, hG⟩ : ∃ G, w.heap.size = G := ⟨_, rfl⟩
  rw [hG] at hpa
  have HPA := Lib.hid hpa
  clear h hr hal hpa
  go_enter Tryd.func14, Tryd.ntmps14
  go_wp2_with ((with_reducible refine gate_dst (N := 8) rfl ?_); refine wpList_val rfl rfl (execOp_load rfl rfl (op_load HPA.out)) ?_; refine stop_here ?_)
  refine Lib.hid ?_
  generalize w.alloc (.cells #[.int .i64 p.kind, .int .i64 p.fr, .int .i64 p.to, .int .u32 (p.life : Int), .int .u32 (p.seq : Int), .int .u32 (p.asked : Int), .int .u32 (p.boot : Int), .int .i64 p.code, .int .i64 p.err, .int .u32 (p.file : Int), .int .u32 (p.epoch : Int), .int .u32 (p.off : Int), .int .u32 (p.len : Int), .int .u32 (p.size : Int), .int .u32 (p.mode : Int), .int .u32 (p.deny : Int), .int .u32 (p.handle : Int), .string p.path, .string p.other, .string p.data] 27) = w1 at HAL HPA ⊢
  have HB2 : Hid (Below G w (w1.alloc (.cells #[.int .i64 p.code, .int .i64 p.err, .int .u32 (p.file : Int), .int .u32 (p.epoch : Int), .int .u32 (p.off : Int), .int .u32 (p.len : Int), .int .u32 (p.size : Int), .int .u32 (p.mode : Int), .int .u32 (p.deny : Int), .int .u32 (p.handle : Int), .string p.path, .string p.other, .string p.data] 25))) := Lib.hid (by rw [← hG]; exact HAL.out.alloc HAL.out.size _)
  have HP2 := Lib.hid (HPA.out.below ((Below.refl w1.heap.size w1).alloc (Nat.le_refl _) (.cells #[.int .i64 p.code, .int .i64 p.err, .int .u32 (p.file : Int), .int .u32 (p.epoch : Int), .int .u32 (p.off : Int), .int .u32 (p.len : Int), .int .u32 (p.size : Int), .int .u32 (p.mode : Int), .int .u32 (p.deny : Int), .int .u32 (p.handle : Int), .string p.path, .string p.other, .string p.data] 25)))
  have ho := alloc_at w1 (.cells #[.int .i64 p.code, .int .i64 p.err, .int .u32 (p.file : Int), .int .u32 (p.epoch : Int), .int .u32 (p.off : Int), .int .u32 (p.len : Int), .int .u32 (p.size : Int), .int .u32 (p.mode : Int), .int .u32 (p.deny : Int), .int .u32 (p.handle : Int), .string p.path, .string p.other, .string p.data] 25)
  have HST := Lib.hid (op_store w1 p)
  obtain ⟨H, hH⟩ : ∃ H, w1.heap.size = H := ⟨_, rfl⟩
  rw [hH] at ho HST
  have HH := Lib.hid ho
  clear ho
  go_wp2_with ((with_reducible refine gate_store (p := 3) rfl ?_); refine stop_here ?_)
  refine Lib.hid ?_
  refine wpList_none rfl rfl (execOp_store rfl rfl rfl HST.out) ?_
  clear HST
  generalize w1.alloc (.cells #[.int .i64 p.code, .int .i64 p.err, .int .u32 (p.file : Int), .int .u32 (p.epoch : Int), .int .u32 (p.off : Int), .int .u32 (p.len : Int), .int .u32 (p.size : Int), .int .u32 (p.mode : Int), .int .u32 (p.deny : Int), .int .u32 (p.handle : Int), .string p.path, .string p.other, .string p.data] 25) = w2 at HB2 HP2 HH ⊢
  obtain ⟨x0, x1, x2, x3, x4, x5, x6, _⟩ := HP2.out.cells
  obtain ⟨o0, o1, o2, o3, o4, o5, o6, o7, o8, o9, _⟩ := OAt.cells HH.out
  clear hH
  go_wp2_with ((with_reducible refine gate_dst (N := 48) rfl ?_); refine wpList_val rfl rfl (execOp_buildSlice rfl rfl (run17 w2 _ _ _ _ _ _ _ _ _ _ _ _ _ _ _ _ _)) ?_; refine stop_here ?_)
  refine Lib.hid ?_
  clear x0 x1 x2 x3 x4 x5 x6 o0 o1 o2 o3 o4 o5 o6 o7 o8 o9
  rw [nums17 p]
  have HB3 : Hid (Below G w (w2.alloc (.cells (ucells p.nums).toArray 22))) := Lib.hid (HB2.out.alloc (by have := HB2.out.size; omega) _)
  have HH3 := Lib.hid (alloc_old HH.out (.cells (ucells p.nums).toArray 22))
  have hl := alloc_at w2 (.cells (ucells p.nums).toArray 22)
  generalize w2.alloc (.cells (ucells p.nums).toArray 22) = w3 at HB3 HH3 hl ⊢
  generalize w2.heap.size = L at hl ⊢
  have HL := Lib.hid hl
  clear hl HB2 HP2 HH
  go_wp2
  go_loopw [5, 6] (fun s5 s6 wr => ∃ k : Nat, k ≤ 17 ∧ s6 = .int .i64 k ∧ s5 = .string (nums4 (p.nums.take k)) ∧ Hid (Below G w wr) ∧ Hid (wr.heap[H]? = some (.cells #[.int .i64 p.code, .int .i64 p.err, .int .u32 (p.file : Int), .int .u32 (p.epoch : Int), .int .u32 (p.off : Int), .int .u32 (p.len : Int), .int .u32 (p.size : Int), .int .u32 (p.mode : Int), .int .u32 (p.deny : Int), .int .u32 (p.handle : Int), .string p.path, .string p.other, .string p.data] 25 (0, 0))) ∧ Hid (wr.heap[L]? = some (.cells (ucells p.nums).toArray 22 (0, 0)))) (fun _ s6 _ => 17 - (intOf s6).toNat)
  case atStart => exact ⟨0, by omega, by simp, by simp [nums4]; rfl, HB3, HH3, HL⟩
  case round =>
    clear HB3 HH3 HL
    obtain ⟨k, hk, rfl, rfl, HB, HH, HL⟩ := hrel
    by_cases hlt : k < 17
    · have hc := cell17 HL.out k hlt
      have HN := Lib.hid (nums_step p k hlt)
      have HLT := Lib.hid (getD_lt p HO.out k)
      have hz := nums_sz p k hk
      generalize p.nums.getD k 0 = q at hc HN HLT
      generalize nums4 (p.nums.take k) = T at hz HN ⊢
      go_wp2_with fail
      refine (dnumber q HLT.out _).mono ?_
      rintro e w4 ⟨rfl, hb⟩
      have HB4 := Lib.hid (HB.out.trans (hb.mono (by have := HB.out.size; omega)))
      have HH4 := Lib.hid (below_old HH.out hb)
      have HL4 := Lib.hid (below_old HL.out hb)
      have z4 := num4_size q
      clear hb hc HB HH HL
      go_wp2
      go_roundw
      case rel => exact ⟨k + 1, by omega, by go_num, by rw [HN.out], HB4, HH4, HL4⟩
      case measure => simp [intOf]; omega
    · obtain rfl : k = 17 := by omega
      have hz : (nums4 (p.nums.take 17)).size = 68 := nums_sz p 17 (by omega)
      have HE : Hid (nums4 (p.nums.take 17) = nums4 p.nums) := Lib.hid rfl
      rw [HE.out] at hz
      simp only [HE.out]
      have HF : Hid (nums4 p.nums ++ text4 p.path ++ text4 p.other ++ text4 p.data = p.bytes) := Lib.hid rfl
      generalize nums4 p.nums = T at hz HF ⊢
      have z1 : (text4 p.path).size ≤ 72 := by rw [text4_size]; have := HS.out; have := padOf_lt p.path.size; omega
      have z2 : (text4 p.other).size ≤ 72 := by rw [text4_size]; have := HS.out; have := padOf_lt p.other.size; omega
      have z3 : (text4 p.data).size ≤ 136 := by rw [text4_size]; have := HS.out; have := padOf_lt p.data.size; omega
      have z12 : (T ++ text4 p.path).size ≤ 140 := by rw [ByteArray.size_append]; omega
      have z123 : (T ++ text4 p.path ++ text4 p.other).size ≤ 212 := by rw [ByteArray.size_append]; omega
      have HZ0 := Lib.hid (show T.size ≤ 68 by omega)
      have HZ1 := Lib.hid z1
      have HZ2 := Lib.hid z12
      have HZ3 := Lib.hid z2
      have HZ4 := Lib.hid z123
      have HZ5 := Lib.hid z3
      clear hz z1 z2 z3 z12 z123
      go_wp2
      refine start_ (n := 14) (S := fun w' => w'.cell? ⟨H, 10, none⟩ = some (.string p.path) ∧ w'.cell? ⟨H, 11, none⟩ = some (.string p.other) ∧ w'.cell? ⟨H, 12, none⟩ = some (.string p.data)) (ds := []) #[false, false, false, false, false, false, false, false, false, false, false, false, false, false] (by kernel_rfl) rfl rfl ((op3 HH.out)) (fun hHeld => ?_)
      have HB := Lib.hid (HB.out.drew)
      have HH := Lib.hid (show wr.drew.heap[H]? = _ from HH.out)
      refine pure_ (i := 0) (N := some 62) (v := ?_) (a' := ?_) #[true, false, false, false, false, false, false, false, false, false, false, false, false, false] rfl rfl (by kernel_rfl) (fun _ _ _ h => h) (Or.inl ⟨by rfl, ?_⟩) ?_ ?_
      rotate_left
      · intro w'
        go_simp
        with_reducible rfl
      rotate_left
      · simp only [Act.put, List.setIfInBounds_toArray, List.set_cons_zero, List.set_cons_succ, i64_w, i32_w]
        rfl
      refine pure_ (i := 1) (N := some 63) (v := ?_) (a' := ?_) #[true, true, false, false, false, false, false, false, false, false, false, false, false, false] rfl rfl (by kernel_rfl) (fun _ _ _ h => h) (Or.inl ⟨by rfl, ?_⟩) ?_ ?_
      rotate_left
      · intro w'
        go_simp
        with_reducible rfl
      rotate_left
      · simp only [Act.put, List.setIfInBounds_toArray, List.set_cons_zero, List.set_cons_succ, i64_w, i32_w]
        rfl
      refine take_ (i := 2) (N := some 64) (v := ?_) (a' := ?_) #[true, true, true, false, false, false, false, false, false, false, false, false, false, false] rfl rfl (by kernel_rfl) (fun _ _ _ h => h) (Or.inl ⟨by rfl, ?_⟩) hHeld ?_ ?_
      rotate_left
      · intro w' hS
        obtain ⟨z1, z2, z3⟩ := hS
        go_simp
        with_reducible rfl
      rotate_left
      · simp only [Act.put, List.setIfInBounds_toArray, List.set_cons_zero, List.set_cons_succ, i64_w, i32_w]
        rfl
      refine pure_ (i := 5) (N := some 67) (v := ?_) (a' := ?_) #[true, true, true, false, false, true, false, false, false, false, false, false, false, false] rfl rfl (by kernel_rfl) (fun _ _ _ h => h) (Or.inl ⟨by rfl, ?_⟩) ?_ ?_
      rotate_left
      · intro w'
        go_simp
        with_reducible rfl
      rotate_left
      · simp only [Act.put, List.setIfInBounds_toArray, List.set_cons_zero, List.set_cons_succ, i64_w, i32_w]
        rfl
      refine take_ (i := 6) (N := some 68) (v := ?_) (a' := ?_) #[true, true, true, false, false, true, true, false, false, false, false, false, false, false] rfl rfl (by kernel_rfl) (fun _ _ _ h => h) (Or.inl ⟨by rfl, ?_⟩) hHeld ?_ ?_
      rotate_left
      · intro w' hS
        obtain ⟨z1, z2, z3⟩ := hS
        go_simp
        with_reducible rfl
      rotate_left
      · simp only [Act.put, List.setIfInBounds_toArray, List.set_cons_zero, List.set_cons_succ, i64_w, i32_w]
        rfl
      refine pure_ (i := 9) (N := some 71) (v := ?_) (a' := ?_) #[true, true, true, false, false, true, true, false, false, true, false, false, false, false] rfl rfl (by kernel_rfl) (fun _ _ _ h => h) (Or.inl ⟨by rfl, ?_⟩) ?_ ?_
      rotate_left
      · intro w'
        go_simp
        with_reducible rfl
      rotate_left
      · simp only [Act.put, List.setIfInBounds_toArray, List.set_cons_zero, List.set_cons_succ, i64_w, i32_w]
        rfl
      refine take_ (i := 10) (N := some 72) (v := ?_) (a' := ?_) #[true, true, true, false, false, true, true, false, false, true, true, false, false, false] rfl rfl (by kernel_rfl) (fun _ _ _ h => h) (Or.inl ⟨by rfl, ?_⟩) hHeld ?_ ?_
      rotate_left
      · intro w' hS
        obtain ⟨z1, z2, z3⟩ := hS
        go_simp
        with_reducible rfl
      rotate_left
      · simp only [Act.put, List.setIfInBounds_toArray, List.set_cons_zero, List.set_cons_succ, i64_w, i32_w]
        rfl
      refine one_ (i := 3) (N := some 65) #[true, true, true, true, false, true, true, false, false, true, true, false, false, false] rfl rfl (by kernel_rfl) (by decide) (fun K hK => ?_)
      refine goes_ Tryd.func38 (by kernel_rfl) rfl #[.string p.path] (by rfl) rfl rfl (by (try simp only [List.map_toArray, List.map_cons, List.map_nil]); first | done | rfl) ?_
      refine (dtext p.path (by have := HS.out; omega) _).mono ?_
      rintro e w9 ⟨rfl, hb⟩
      refine ⟨_, rfl, ?_⟩
      have HH9 := Lib.hid (below_old HH.out hb)
      have HB9 := Lib.hid (HB.out.trans (hb.mono (by have := HB.out.size; omega)))
      clear hb HH HB
      have HH := HH9
      have HB := HB9
      clear HH9 HB9
      refine hK.out _ _ (op3 HH.out) (fun hHeld => ?_)
      clear hK K
      refine norm_ (a' := ?_) ?_ ?_
      rotate_left
      · show Act.put _ (some 65) _ = _
        simp only [Act.put, List.setIfInBounds_toArray, List.set_cons_zero, List.set_cons_succ, i64_w, i32_w]
        rfl
      refine pure_ (i := 4) (N := some 66) (v := ?_) (a' := ?_) #[true, true, true, true, true, true, true, false, false, true, true, false, false, false] rfl rfl (by kernel_rfl) (fun _ _ _ h => h) (Or.inl ⟨by rfl, ?_⟩) ?_ ?_
      rotate_left
      · intro w'
        have zq : ¬ (9223372036854775807 < T.size + (text4 p.path).size) := by have := HZ0.out; have := HZ1.out; have := HZ3.out; have := HZ5.out; omega
        go_simp
        with_reducible rfl
      rotate_left
      · simp only [Act.put, List.setIfInBounds_toArray, List.set_cons_zero, List.set_cons_succ, i64_w, i32_w]
        rfl
      refine one_ (i := 7) (N := some 69) #[true, true, true, true, true, true, true, true, false, true, true, false, false, false] rfl rfl (by kernel_rfl) (by decide) (fun K hK => ?_)
      refine goes_ Tryd.func38 (by kernel_rfl) rfl #[.string p.other] (by rfl) rfl rfl (by (try simp only [List.map_toArray, List.map_cons, List.map_nil]); first | done | rfl) ?_
      refine (dtext p.other (by have := HS.out; omega) _).mono ?_
      rintro e w9 ⟨rfl, hb⟩
      refine ⟨_, rfl, ?_⟩
      have HH9 := Lib.hid (below_old HH.out hb)
      have HB9 := Lib.hid (HB.out.trans (hb.mono (by have := HB.out.size; omega)))
      clear hb HH HB
      have HH := HH9
      have HB := HB9
      clear HH9 HB9
      refine hK.out _ _ (op3 HH.out) (fun hHeld => ?_)
      clear hK K
      refine norm_ (a' := ?_) ?_ ?_
      rotate_left
      · show Act.put _ (some 69) _ = _
        simp only [Act.put, List.setIfInBounds_toArray, List.set_cons_zero, List.set_cons_succ, i64_w, i32_w]
        rfl
      refine pure_ (i := 8) (N := some 70) (v := ?_) (a' := ?_) #[true, true, true, true, true, true, true, true, true, true, true, false, false, false] rfl rfl (by kernel_rfl) (fun _ _ _ h => h) (Or.inl ⟨by rfl, ?_⟩) ?_ ?_
      rotate_left
      · intro w'
        have zq : ¬ (9223372036854775807 < T.size + (text4 p.path).size + (text4 p.other).size) := by have := HZ0.out; have := HZ1.out; have := HZ3.out; have := HZ5.out; omega
        go_simp
        with_reducible rfl
      rotate_left
      · simp only [Act.put, List.setIfInBounds_toArray, List.set_cons_zero, List.set_cons_succ, i64_w, i32_w]
        rfl
      refine one_ (i := 11) (N := some 73) #[true, true, true, true, true, true, true, true, true, true, true, true, false, false] rfl rfl (by kernel_rfl) (by decide) (fun K hK => ?_)
      refine goes_ Tryd.func38 (by kernel_rfl) rfl #[.string p.data] (by rfl) rfl rfl (by (try simp only [List.map_toArray, List.map_cons, List.map_nil]); first | done | rfl) ?_
      refine (dtext p.data (by have := HS.out; omega) _).mono ?_
      rintro e w9 ⟨rfl, hb⟩
      refine ⟨_, rfl, ?_⟩
      have HH9 := Lib.hid (below_old HH.out hb)
      have HB9 := Lib.hid (HB.out.trans (hb.mono (by have := HB.out.size; omega)))
      clear hb HH HB
      have HH := HH9
      have HB := HB9
      clear HH9 HB9
      refine hK.out _ _ (op3 HH.out) (fun hHeld => ?_)
      clear hK K
      refine norm_ (a' := ?_) ?_ ?_
      rotate_left
      · show Act.put _ (some 73) _ = _
        simp only [Act.put, List.setIfInBounds_toArray, List.set_cons_zero, List.set_cons_succ, i64_w, i32_w]
        rfl
      refine pure_ (i := 12) (N := some 74) (v := ?_) (a' := ?_) #[true, true, true, true, true, true, true, true, true, true, true, true, true, false] rfl rfl (by kernel_rfl) (fun _ _ _ h => h) (Or.inl ⟨by rfl, ?_⟩) ?_ ?_
      rotate_left
      · intro w'
        have zq : ¬ (9223372036854775807 < T.size + (text4 p.path).size + (text4 p.other).size + (text4 p.data).size) := by have := HZ0.out; have := HZ1.out; have := HZ3.out; have := HZ5.out; omega
        go_simp
        with_reducible rfl
      rotate_left
      · simp only [Act.put, List.setIfInBounds_toArray, List.set_cons_zero, List.set_cons_succ, i64_w, i32_w]
        rfl
      refine pure_ (i := 13) (N := some 2) (v := ?_) (a' := ?_) #[true, true, true, true, true, true, true, true, true, true, true, true, true, true] rfl rfl (by kernel_rfl) (fun _ _ _ h => h) (Or.inl ⟨by rfl, ?_⟩) ?_ ?_
      rotate_left
      · intro w'
        go_simp
        with_reducible rfl
      rotate_left
      · simp only [Act.put, List.setIfInBounds_toArray, List.set_cons_zero, List.set_cons_succ, i64_w, i32_w]
        rfl
      refine done_ (by kernel_rfl) ?_
      clear hHeld
      go_wp2
      go_ret
      refine ⟨by rw [← HF.out]; rfl, ?_⟩
      rw [hG]
      exact HB.out
end Go.Proofs.YtiedmkgdhfkcoaaDoor.Pkt
