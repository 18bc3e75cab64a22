/- Layer lane: LaneOnce: lines, seats and lists in memory. -/
import Derived.Test.YtfacdadbebjebaaPLaneOncex3
import Derived.Test.YtfacdadbebjebaaPart
import Derived.Test.YtfacdadbebjebaaOps
import Derived.Test.YtfacdadbebjebaaBlk
import Derived.Test.YtfacdadbebjebaaArr
import Derived.Test.YtfacdadbebjebaaOpens
import Derived.Laws.Rows
import Derived.Deep.MidRow
namespace Go.Proofs.Ytfacdadbebjebaa.Once
open Go.RowKit Go.Own Go.Blk Go.OpsL Go.Sees Go.Proofs.YtfacdadbebjebaaW.PrintWords
set_option linter.unusedVariables false
set_option linter.unusedSimpArgs false
set_option maxRecDepth 100000
structure Ln where
  life : Int
  boot : Int
  q : Int
  out : Bool
  body : ByteArray
  left : Int
  gap : Int
structure Se where
  life : Int
  seq : Int
  reply : ByteArray
def LAt (w : World) (g : Nat) (x : Ln) : Prop := w.heap[g]? = some (.cells #[.int .u32 x.life, .int .u32 x.boot, .int .u32 x.q, .bool x.out, .string x.body, .int .i64 x.left, .int .i64 x.gap] 30 (0, 0))
theorem LAt.below {w w' : World} {g : Nat} {x : Ln} (h : LAt w g x) (hb : Below w.heap.size w w') : LAt w' g x := below_old h hb
theorem ln_info : (Try.prog.info? 30).map (·.size) = some 7 := by kernel_rfl
theorem LAt.load {w : World} {g : Nat} {x : Ln} (h : LAt w g x) : (Instr.loadAt 30 (.pointer (some ⟨g, 0, none⟩))).run Try.prog w = .ok (.agg #[.int .u32 x.life, .int .u32 x.boot, .int .u32 x.q, .bool x.out, .string x.body, .int .i64 x.left, .int .i64 x.gap]) w := by
  have hv := run_loadVar_row w g _ 30 _ _ _ h Try.underlying30 rfl ln_info
  simp only [Instr.loadAt, Instr.sureAddr, Sem.run_bind, Sem.run_pure, Result.andThen_ok, hv]
theorem LAt.store {w : World} {g : Nat} {x : Ln} (h : LAt w g x) (y : Ln) : ∃ w', (Instr.storeAt 30 (.pointer (some ⟨g, 0, none⟩)) (.agg #[.int .u32 y.life, .int .u32 y.boot, .int .u32 y.q, .bool y.out, .string y.body, .int .i64 y.left, .int .i64 y.gap])).run Try.prog w = .ok () w' ∧ LAt w' g y ∧ Fr (· = g) w w' := by
  have hr := run_storeAt_row (P := Try.prog) w g 0 30 [.int .u32 x.life, .int .u32 x.boot, .int .u32 x.q, .bool x.out, .string x.body, .int .i64 x.left, .int .i64 x.gap] 30 #[.int .u32 y.life, .int .u32 y.boot, .int .u32 y.q, .bool y.out, .string y.body, .int .i64 y.left, .int .i64 y.gap] h (Nat.le_refl 7) ln_info (by simp [Value.oneCell'])
  rw [over_all (cur := [.int .u32 x.life, .int .u32 x.boot, .int .u32 x.q, .bool x.out, .string x.body, .int .i64 x.left, .int .i64 x.gap]) (vs := #[.int .u32 y.life, .int .u32 y.boot, .int .u32 y.q, .bool y.out, .string y.body, .int .i64 y.left, .int .i64 y.gap].toList) (Nat.le_refl 7)] at hr
  exact ⟨_, hr, setRow_heap _ _ _ _ _ _ h, Fr.setRow (F := (· = g)) w rfl _⟩
theorem fresh_ln (w : World) (y : Ln) : ∃ w', (Instr.storeAt 30 (.pointer (some ⟨w.heap.size, 0, none⟩)) (.agg #[.int .u32 y.life, .int .u32 y.boot, .int .u32 y.q, .bool y.out, .string y.body, .int .i64 y.left, .int .i64 y.gap])).run Try.prog (w.alloc (.cells #[.int .u32 0, .int .u32 0, .int .u32 0, .bool false, .string ⟨#[]⟩, .int .i64 0, .int .i64 0] 30)) = .ok () w' ∧ LAt w' w.heap.size y ∧ Below w.heap.size w w' := by
  have ha := alloc_at w (.cells #[.int .u32 0, .int .u32 0, .int .u32 0, .bool false, .string ⟨#[]⟩, .int .i64 0, .int .i64 0] 30)
  have hr := run_storeAt_row (P := Try.prog) (w.alloc (.cells #[.int .u32 0, .int .u32 0, .int .u32 0, .bool false, .string ⟨#[]⟩, .int .i64 0, .int .i64 0] 30)) w.heap.size 0 30 [.int .u32 0, .int .u32 0, .int .u32 0, .bool false, .string ⟨#[]⟩, .int .i64 0, .int .i64 0] 30 #[.int .u32 y.life, .int .u32 y.boot, .int .u32 y.q, .bool y.out, .string y.body, .int .i64 y.left, .int .i64 y.gap] ha (Nat.le_refl 7) ln_info (by simp [Value.oneCell'])
  rw [over_all (cur := [.int .u32 0, .int .u32 0, .int .u32 0, .bool false, .string ⟨#[]⟩, .int .i64 0, .int .i64 0]) (vs := #[.int .u32 y.life, .int .u32 y.boot, .int .u32 y.q, .bool y.out, .string y.body, .int .i64 y.left, .int .i64 y.gap].toList) (Nat.le_refl 7)] at hr
  have hf : Fr (· = w.heap.size) (w.alloc (.cells #[.int .u32 0, .int .u32 0, .int .u32 0, .bool false, .string ⟨#[]⟩, .int .i64 0, .int .i64 0] 30)) _ := Fr.setRow (F := (· = w.heap.size)) (w.alloc (.cells #[.int .u32 0, .int .u32 0, .int .u32 0, .bool false, .string ⟨#[]⟩, .int .i64 0, .int .i64 0] 30)) rfl #[.int .u32 y.life, .int .u32 y.boot, .int .u32 y.q, .bool y.out, .string y.body, .int .i64 y.left, .int .i64 y.gap]
  exact ⟨_, hr, setRow_heap _ _ _ _ _ _ ha, ((Below.refl w.heap.size w).alloc (Nat.le_refl _) _).trans (hf.below (by simp) (fun k hk => by have e : k = w.heap.size := hk; omega))⟩
def SAt (w : World) (g : Nat) (x : Se) : Prop := w.heap[g]? = some (.cells #[.int .u32 x.life, .int .u32 x.seq, .string x.reply] 24 (0, 0))
theorem SAt.below {w w' : World} {g : Nat} {x : Se} (h : SAt w g x) (hb : Below w.heap.size w w') : SAt w' g x := below_old h hb
theorem se_info : (Try.prog.info? 24).map (·.size) = some 3 := by kernel_rfl
theorem SAt.load {w : World} {g : Nat} {x : Se} (h : SAt w g x) : (Instr.loadAt 24 (.pointer (some ⟨g, 0, none⟩))).run Try.prog w = .ok (.agg #[.int .u32 x.life, .int .u32 x.seq, .string x.reply]) w := by
  have hv := run_loadVar_row w g _ 24 _ _ _ h Try.underlying24 rfl se_info
  simp only [Instr.loadAt, Instr.sureAddr, Sem.run_bind, Sem.run_pure, Result.andThen_ok, hv]
theorem SAt.store {w : World} {g : Nat} {x : Se} (h : SAt w g x) (y : Se) : ∃ w', (Instr.storeAt 24 (.pointer (some ⟨g, 0, none⟩)) (.agg #[.int .u32 y.life, .int .u32 y.seq, .string y.reply])).run Try.prog w = .ok () w' ∧ SAt w' g y ∧ Fr (· = g) w w' := by
  have hr := run_storeAt_row (P := Try.prog) w g 0 24 [.int .u32 x.life, .int .u32 x.seq, .string x.reply] 24 #[.int .u32 y.life, .int .u32 y.seq, .string y.reply] h (Nat.le_refl 3) se_info (by simp [Value.oneCell'])
  rw [over_all (cur := [.int .u32 x.life, .int .u32 x.seq, .string x.reply]) (vs := #[.int .u32 y.life, .int .u32 y.seq, .string y.reply].toList) (Nat.le_refl 3)] at hr
  exact ⟨_, hr, setRow_heap _ _ _ _ _ _ h, Fr.setRow (F := (· = g)) w rfl _⟩
theorem fresh_se (w : World) (y : Se) : ∃ w', (Instr.storeAt 24 (.pointer (some ⟨w.heap.size, 0, none⟩)) (.agg #[.int .u32 y.life, .int .u32 y.seq, .string y.reply])).run Try.prog (w.alloc (.cells #[.int .u32 0, .int .u32 0, .string ⟨#[]⟩] 24)) = .ok () w' ∧ SAt w' w.heap.size y ∧ Below w.heap.size w w' := by
  have ha := alloc_at w (.cells #[.int .u32 0, .int .u32 0, .string ⟨#[]⟩] 24)
  have hr := run_storeAt_row (P := Try.prog) (w.alloc (.cells #[.int .u32 0, .int .u32 0, .string ⟨#[]⟩] 24)) w.heap.size 0 24 [.int .u32 0, .int .u32 0, .string ⟨#[]⟩] 24 #[.int .u32 y.life, .int .u32 y.seq, .string y.reply] ha (Nat.le_refl 3) se_info (by simp [Value.oneCell'])
  rw [over_all (cur := [.int .u32 0, .int .u32 0, .string ⟨#[]⟩]) (vs := #[.int .u32 y.life, .int .u32 y.seq, .string y.reply].toList) (Nat.le_refl 3)] at hr
  have hf : Fr (· = w.heap.size) (w.alloc (.cells #[.int .u32 0, .int .u32 0, .string ⟨#[]⟩] 24)) _ := Fr.setRow (F := (· = w.heap.size)) (w.alloc (.cells #[.int .u32 0, .int .u32 0, .string ⟨#[]⟩] 24)) rfl #[.int .u32 y.life, .int .u32 y.seq, .string y.reply]
  exact ⟨_, hr, setRow_heap _ _ _ _ _ _ ha, ((Below.refl w.heap.size w).alloc (Nat.le_refl _) _).trans (hf.below (by simp) (fun k hk => by have e : k = w.heap.size := hk; omega))⟩
def NAt (w : World) (g : Nat) (x : (Int × ByteArray)) : Prop := w.heap[g]? = some (.cells #[.int .u32 x.1, .string x.2] 43 (0, 0))
theorem NAt.below {w w' : World} {g : Nat} {x : (Int × ByteArray)} (h : NAt w g x) (hb : Below w.heap.size w w') : NAt w' g x := below_old h hb
theorem sn_info : (Try.prog.info? 43).map (·.size) = some 2 := by kernel_rfl
theorem NAt.load {w : World} {g : Nat} {x : (Int × ByteArray)} (h : NAt w g x) : (Instr.loadAt 43 (.pointer (some ⟨g, 0, none⟩))).run Try.prog w = .ok (.agg #[.int .u32 x.1, .string x.2]) w := by
  have hv := run_loadVar_row w g _ 43 _ _ _ h Try.underlying43 rfl sn_info
  simp only [Instr.loadAt, Instr.sureAddr, Sem.run_bind, Sem.run_pure, Result.andThen_ok, hv]
theorem NAt.store {w : World} {g : Nat} {x : (Int × ByteArray)} (h : NAt w g x) (y : (Int × ByteArray)) : ∃ w', (Instr.storeAt 43 (.pointer (some ⟨g, 0, none⟩)) (.agg #[.int .u32 y.1, .string y.2])).run Try.prog w = .ok () w' ∧ NAt w' g y ∧ Fr (· = g) w w' := by
  have hr := run_storeAt_row (P := Try.prog) w g 0 43 [.int .u32 x.1, .string x.2] 43 #[.int .u32 y.1, .string y.2] h (Nat.le_refl 2) sn_info (by simp [Value.oneCell'])
  rw [over_all (cur := [.int .u32 x.1, .string x.2]) (vs := #[.int .u32 y.1, .string y.2].toList) (Nat.le_refl 2)] at hr
  exact ⟨_, hr, setRow_heap _ _ _ _ _ _ h, Fr.setRow (F := (· = g)) w rfl _⟩
theorem fresh_sn (w : World) (y : (Int × ByteArray)) : ∃ w', (Instr.storeAt 43 (.pointer (some ⟨w.heap.size, 0, none⟩)) (.agg #[.int .u32 y.1, .string y.2])).run Try.prog (w.alloc (.cells #[.int .u32 0, .string ⟨#[]⟩] 43)) = .ok () w' ∧ NAt w' w.heap.size y ∧ Below w.heap.size w w' := by
  have ha := alloc_at w (.cells #[.int .u32 0, .string ⟨#[]⟩] 43)
  have hr := run_storeAt_row (P := Try.prog) (w.alloc (.cells #[.int .u32 0, .string ⟨#[]⟩] 43)) w.heap.size 0 43 [.int .u32 0, .string ⟨#[]⟩] 43 #[.int .u32 y.1, .string y.2] ha (Nat.le_refl 2) sn_info (by simp [Value.oneCell'])
  rw [over_all (cur := [.int .u32 0, .string ⟨#[]⟩]) (vs := #[.int .u32 y.1, .string y.2].toList) (Nat.le_refl 2)] at hr
  have hf : Fr (· = w.heap.size) (w.alloc (.cells #[.int .u32 0, .string ⟨#[]⟩] 43)) _ := Fr.setRow (F := (· = w.heap.size)) (w.alloc (.cells #[.int .u32 0, .string ⟨#[]⟩] 43)) rfl #[.int .u32 y.1, .string y.2]
  exact ⟨_, hr, setRow_heap _ _ _ _ _ _ ha, ((Below.refl w.heap.size w).alloc (Nat.le_refl _) _).trans (hf.below (by simp) (fun k hk => by have e : k = w.heap.size := hk; omega))⟩

theorem LAt.cells {w : World} {g : Nat} {x : Ln} (h : LAt w g x) : w.cell? ⟨g, 2, none⟩ = some (.int .u32 x.q) ∧ w.cell? ⟨g, 3, none⟩ = some (.bool x.out) := ⟨(cell_at h 2).trans rfl, (cell_at h 3).trans rfl⟩
theorem SAt.cells {w : World} {g : Nat} {x : Se} (h : SAt w g x) : w.cell? ⟨g, 2, none⟩ = some (.string x.reply) := (cell_at h 2).trans rfl
theorem NAt.cells {w : World} {g : Nat} {x : Int × ByteArray} (h : NAt w g x) : w.cell? ⟨g, 0, none⟩ = some (.int .u32 x.1) ∧ w.cell? ⟨g, 1, none⟩ = some (.string x.2) := ⟨(cell_at h 0).trans rfl, (cell_at h 1).trans rfl⟩
def ncells (x : Int × ByteArray) : List Value := [.int .u32 x.1, .string x.2]
def nrow (l : List (Int × ByteArray)) : List Value := l.flatMap ncells
def urow (l : List Int) : List Value := l.map (Value.int .u32)
theorem nrow_length (l : List (Int × ByteArray)) : (nrow l).length = l.length * 2 := flat_length (f := ncells) (s := 2) (fun _ _ => rfl)
theorem nrow_one (l : List (Int × ByteArray)) : ∀ x ∈ nrow l, x.oneCell' = true := by
  intro x hx
  simp only [nrow, List.mem_flatMap] at hx
  obtain ⟨p, _, hp⟩ := hx
  simp only [ncells, List.mem_cons, List.not_mem_nil, or_false] at hp
  rcases hp with rfl | rfl <;> rfl
theorem info_n : (Try.prog.info? 43).map (fun i => (i.zero, i.size, i.bytes)) = some (some (.agg #[.int .u32 0, .string ⟨#[]⟩]), 2, 24) := by kernel_rfl
theorem info_u : (Try.prog.info? 22).map (fun i => (i.zero, i.size, i.bytes)) = some (some (.int .u32 0), 1, 4) := by kernel_rfl
theorem info_get {P : Program} {t : TypeId} {z : Value} {s b : Nat} (h : (P.info? t).map (fun i => (i.zero, i.size, i.bytes)) = some (some z, s, b)) : ∃ i, P.info? t = some i ∧ i.zero = some z ∧ i.size = s ∧ i.bytes = b := by
  cases h1 : P.info? t with
  | none => rw [h1] at h; cases h
  | some i =>
    rw [h1] at h
    simp only [Option.map_some, Option.some.injEq, Prod.mk.injEq] at h
    exact ⟨i, rfl, h.1, h.2.1, h.2.2⟩
abbrev NR (w : World) (v : Value) (l : List (Int × ByteArray)) : Prop := partRow w 0 43 2 v l.length (nrow l)
abbrev UR (w : World) (v : Value) (l : List Int) : Prop := partRow w 0 22 1 v l.length (urow l)
theorem part_below {w w' : World} {base : Nat} {e : TypeId} {size n : Nat} {v : Value} {xs : List Value} (h : partRow w base e size v n xs) (hb : Below w.heap.size w w') : partRow w' base e size v n xs := (Fr.of_below (F := fun _ => False) hb).part h (fun _ _ => id)
/-- One more of those that are under way. -/
theorem nadds (w : World) {u : Value} {l : List (Int × ByteArray)} (h : NR w u l) (x : Int × ByteArray) (hl : l.length ≤ 1000) :
    (Instr.buildSlice 35 1 #[(0, .agg #[.int .u32 x.1, .string x.2])]).run Try.prog w = .ok (.slice (some ⟨w.heap.size, 0, none⟩) 1 1) (w.alloc (.cells #[.int .u32 x.1, .string x.2] 43)) ∧
    ∃ u' w', (Builtin.append_ #[35, 35] 35 #[u, .slice (some ⟨w.heap.size, 0, none⟩) 1 1]).run Try.prog (w.alloc (.cells #[.int .u32 x.1, .string x.2] 43)) = .ok u' w' ∧ NR w' u' (l ++ [x]) ∧ Fr (fun k => u.ownBlock = some k) w w' ∧ (∀ k, u'.ownBlock = some k → u.ownBlock = some k ∨ w.heap.size ≤ k) := by
  obtain ⟨i, h1, h2, h3, h4⟩ := info_get info_n
  have hbs := run_buildSlice_one (P := Try.prog) w 35 43 i _ #[.int .u32 x.1, .string x.2] Try.underlying35 h1 h2 h3 (by show 0 < 2; omega) (by show 2 ≤ _; omega) rfl
  have hb : Below w.heap.size w (w.alloc (.cells #[.int .u32 x.1, .string x.2] 43)) := (Below.refl _ _).alloc (Nat.le_refl _) _
  have hsh : Shows (w.alloc (.cells #[.int .u32 x.1, .string x.2] 43)) (some ⟨w.heap.size, 0, none⟩) (nrow [x]) := by
    refine .inr ⟨_, rfl, fun j u hj => ?_⟩
    have hadd : (⟨w.heap.size, 0, none⟩ : Addr).add j = ⟨w.heap.size, j, none⟩ := by unfold Addr.add; split <;> simp_all
    rw [hadd, cell_at (alloc_at w _)]
    simpa [nrow, ncells] using hj
  have hap := run_append_part (P := Try.prog) (w.alloc (.cells #[.int .u32 x.1, .string x.2] 43)) 0 35 35 43 i _ 2 24 Try.underlying35 h1 h2 h3 h4 rfl (by omega) u l.length _ (part_below h hb) (some ⟨w.heap.size, 0, none⟩) 1 1 (nrow [x]) (by rw [nrow_length]; rfl) hsh (nrow_one _) (by unfold maxLen; omega) (by omega) (Nat.zero_le _)
  obtain ⟨u', w', hr, ho, hg, hat⟩ := hap
  refine ⟨hbs, u', w', hr, ?_, (Fr.of_below (F := fun k => u.ownBlock = some k) hb).trans (Fr.grown (F := fun k => u.ownBlock = some k) hg (fun k hk => hk)) (fun _ _ h => h), fun k hk => ?_⟩
  · show partRow w' 0 _ 2 u' (l ++ [x]).length (nrow (l ++ [x]))
    rw [List.length_append, List.length_singleton, show nrow (l ++ [x]) = nrow l ++ nrow [x] by simp [nrow]]
    exact ho
  · rcases hat with h | h
    · rw [h] at hk; exact .inl hk
    · rw [h] at hk; simp only [Option.some.injEq] at hk; have := hb.size; exact .inr (by omega)
theorem uadds (w : World) {u : Value} {l : List Int} (h : UR w u l) (x : Int) (hl : l.length ≤ 1000) :
    (Instr.buildSlice 36 1 #[(0, .int .u32 x)]).run Try.prog w = .ok (.slice (some ⟨w.heap.size, 0, none⟩) 1 1) (w.alloc (.cells #[.int .u32 x] 22)) ∧
    ∃ u' w', (Builtin.append_ #[36, 36] 36 #[u, .slice (some ⟨w.heap.size, 0, none⟩) 1 1]).run Try.prog (w.alloc (.cells #[.int .u32 x] 22)) = .ok u' w' ∧ UR w' u' (l ++ [x]) ∧ Fr (fun k => u.ownBlock = some k) w w' ∧ (∀ k, u'.ownBlock = some k → u.ownBlock = some k ∨ w.heap.size ≤ k) := by
  obtain ⟨i, h1, h2, h3, h4⟩ := info_get info_u
  have hbs : (Instr.buildSlice 36 1 #[(0, .int .u32 x)]).run Try.prog w = .ok (.slice (some ⟨w.heap.size, 0, none⟩) 1 1) (w.alloc (.cells #[.int .u32 x] 22)) := by kernel_rfl
  have hb : Below w.heap.size w (w.alloc (.cells #[.int .u32 x] 22)) := (Below.refl _ _).alloc (Nat.le_refl _) _
  have hsh : Shows (w.alloc (.cells #[.int .u32 x] 22)) (some ⟨w.heap.size, 0, none⟩) (urow [x]) := .inr ⟨_, rfl, cell_one_new w _ 22⟩
  have hone : ∀ y ∈ urow [x], y.oneCell' = true := fun y hy => by
    simp only [urow, List.map_cons, List.map_nil, List.mem_singleton] at hy
    rw [hy]; rfl
  have hap := run_append_part (P := Try.prog) (w.alloc (.cells #[.int .u32 x] 22)) 0 36 36 22 i _ 1 4 Try.underlying36 h1 h2 h3 h4 rfl (by omega) u l.length _ (part_below h hb) (some ⟨w.heap.size, 0, none⟩) 1 1 (urow [x]) (by simp [urow]) hsh hone (by unfold maxLen; omega) (by omega) (Nat.zero_le _)
  obtain ⟨u', w', hr, ho, hg, hat⟩ := hap
  refine ⟨hbs, u', w', hr, ?_, (Fr.of_below (F := fun k => u.ownBlock = some k) hb).trans (Fr.grown (F := fun k => u.ownBlock = some k) hg (fun k hk => hk)) (fun _ _ h => h), fun k hk => ?_⟩
  · show partRow w' 0 _ 1 u' (l ++ [x]).length (urow (l ++ [x]))
    rw [List.length_append, List.length_singleton, show urow (l ++ [x]) = urow l ++ urow [x] by simp [urow]]
    exact ho
  · rcases hat with h | h
    · rw [h] at hk; exact .inl hk
    · rw [h] at hk; simp only [Option.some.injEq] at hk; have := hb.size; exact .inr (by omega)
theorem nrow_get {w : World} {v : Value} {l : List (Int × ByteArray)} (h : NR w v l) (k : Nat) (hk : k < l.length) : ∃ g c, v = .slice (some ⟨g, 0, none⟩) l.length c ∧ w.rangeAt g (k * 2) (ncells l[k]) := by
  rcases h.2 with ⟨_, h0⟩ | ⟨g, c, cur, rfl, _⟩
  · omega
  · refine ⟨g, c, rfl, fun j u hu => ?_⟩
    have hj : j < 2 := (List.getElem?_eq_some_iff.1 hu).1
    have h1 := flat_get (l := l) (f := ncells) (s := 2) (fun _ _ => rfl) k hk j hj
    have h2 := h.cells (g := g) rfl (k * 2 + j) u (by unfold nrow; rw [h1]; exact hu)
    rw [← h2]
    congr 1
    unfold Addr.add
    split <;> simp_all
theorem urow_get {w : World} {v : Value} {l : List Int} (h : UR w v l) (k : Nat) (hk : k < l.length) : ∃ g c, v = .slice (some ⟨g, 0, none⟩) l.length c ∧ w.cell? ⟨g, k, none⟩ = some (.int .u32 l[k]) := by
  rcases h.2 with ⟨_, h0⟩ | ⟨g, c, cur, rfl, _⟩
  · omega
  · refine ⟨g, c, rfl, ?_⟩
    have := h.cells (g := g) rfl k (.int .u32 l[k]) (by simp [urow, List.getElem?_eq_getElem hk])
    rw [Addr.add_mid] at this
    simpa using this
theorem run_loadN (w : World) (g o : Nat) (x : Int × ByteArray) (h : w.rangeAt g o (ncells x)) : (Instr.loadAt 43 (.pointer (some ⟨g, o, none⟩))).run Try.prog w = .ok (.agg #[.int .u32 x.1, .string x.2]) w := by
  have hv := run_loadVar_mid (P := Try.prog) w g o 43 _ _ h Try.underlying43 rfl sn_info
  simp only [Instr.loadAt, Instr.sureAddr, Sem.run_bind, Sem.run_pure, Result.andThen_ok, hv]
  rfl
/-! ### all that the law keeps -/
structure St (w0 w : World) (p5 p6 : Nat) (v7 v8 v9 : Value) (ln : Ln) (se : Se) (asks ans : List (Int × ByteArray)) (dn : List Int) (Y : List Nat) : Prop where
  h5 : LAt w p5 ln
  h6 : SAt w p6 se
  r7 : NR w v7 asks
  r8 : NR w v8 ans
  r9 : UR w v9 dn
  tag : ∃ t : Nat → Nat, t p5 = 5 ∧ t p6 = 6 ∧ (∀ k, v7.ownBlock = some k → t k = 7) ∧ (∀ k, v8.ownBlock = some k → t k = 8) ∧ (∀ k, v9.ownBlock = some k → t k = 9) ∧ ∀ y ∈ Y, t y = 10
  base : w0.heap.size ≤ p5 ∧ w0.heap.size ≤ p6 ∧ (∀ k, v7.ownBlock = some k → w0.heap.size ≤ k) ∧ (∀ k, v8.ownBlock = some k → w0.heap.size ≤ k) ∧ (∀ k, v9.ownBlock = some k → w0.heap.size ≤ k)
  ys : ∀ y ∈ Y, y < w.heap.size
  bel : Below w0.heap.size w0 w
section
variable {w0 w w' : World} {p5 p6 : Nat} {v7 v8 v9 v' : Value} {ln ln' : Ln} {se se' : Se} {asks ans l' : List (Int × ByteArray)} {dn dn' : List Int} {Y : List Nat}
theorem St.below (h : St w0 w p5 p6 v7 v8 v9 ln se asks ans dn Y) (hb : Below w.heap.size w w') : St w0 w' p5 p6 v7 v8 v9 ln se asks ans dn Y :=
  ⟨h.h5.below hb, h.h6.below hb, part_below h.r7 hb, part_below h.r8 hb, part_below h.r9 hb, h.tag, h.base, fun y hy => Nat.lt_of_lt_of_le (h.ys y hy) hb.size, h.bel.trans (hb.mono h.bel.size)⟩
theorem St.less (h : St w0 w p5 p6 v7 v8 v9 ln se asks ans dn Y) : St w0 w p5 p6 v7 v8 v9 ln se asks ans dn [] :=
  ⟨h.h5, h.h6, h.r7, h.r8, h.r9, h.tag.elim fun t ⟨a, b, c, d, e, _⟩ => ⟨t, a, b, c, d, e, fun y hy => by simp at hy⟩, h.base, fun y hy => by simp at hy, h.bel⟩
/-- A new block of the law's own. -/
theorem St.add (h : St w0 w p5 p6 v7 v8 v9 ln se asks ans dn Y) (hb : Below w.heap.size w w') {y : Nat} (h1 : w.heap.size ≤ y) (h2 : y < w'.heap.size) : St w0 w' p5 p6 v7 v8 v9 ln se asks ans dn (y :: Y) := by
  obtain ⟨t, a, b, c, d, e, f⟩ := h.tag
  have l5 := lt_of h.h5
  have l6 := lt_of h.h6
  refine ⟨h.h5.below hb, h.h6.below hb, part_below h.r7 hb, part_below h.r8 hb, part_below h.r9 hb, ⟨fun k => if k < w.heap.size then t k else 10, by simp [l5, a], by simp [l6, b], fun k hk => ?_, fun k hk => ?_, fun k hk => ?_, fun k hk => ?_⟩, h.base, fun k hk => ?_, h.bel.trans (hb.mono h.bel.size)⟩
  · have := (h.r7.lt k hk).2; simp [this, c k hk]
  · have := (h.r8.lt k hk).2; simp [this, d k hk]
  · have := (h.r9.lt k hk).2; simp [this, e k hk]
  · rcases List.mem_cons.1 hk with rfl | hk
    · have : ¬ k < w.heap.size := by omega
      simp [this]
    · have := h.ys k hk; simp [this, f k hk]
  · rcases List.mem_cons.1 hk with rfl | hk
    · exact h2
    · exact Nat.lt_of_lt_of_le (h.ys k hk) hb.size
theorem St.set5 (h : St w0 w p5 p6 v7 v8 v9 ln se asks ans dn Y) (hf : Fr (· = p5) w w') (h5 : LAt w' p5 ln') : St w0 w' p5 p6 v7 v8 v9 ln' se asks ans dn Y ∧ ∀ y ∈ Y, w'.heap[y]? = w.heap[y]? := by
  obtain ⟨t, a, b, c, d, e, f⟩ := h.tag
  have ne : ∀ k m, t k = m → m ≠ 5 → ¬ k = p5 := fun k m hk hm he => hm (by rw [← hk, he, a])
  exact ⟨⟨h5, hf.at h.h6 (ne _ _ b (by decide)), hf.part h.r7 (fun k hk => ne _ _ (c k hk) (by decide)), hf.part h.r8 (fun k hk => ne _ _ (d k hk) (by decide)), hf.part h.r9 (fun k hk => ne _ _ (e k hk) (by decide)), ⟨t, a, b, c, d, e, f⟩, h.base, fun y hy => Nat.lt_of_lt_of_le (h.ys y hy) hf.size, h.bel.trans (hf.below h.bel.size (fun k hk => by have e : k = p5 := hk; rw [e]; exact h.base.1))⟩, fun y hy => hf.block y (h.ys y hy) (ne _ _ (f y hy) (by decide))⟩
theorem St.set6 (h : St w0 w p5 p6 v7 v8 v9 ln se asks ans dn Y) (hf : Fr (· = p6) w w') (h6 : SAt w' p6 se') : St w0 w' p5 p6 v7 v8 v9 ln se' asks ans dn Y ∧ ∀ y ∈ Y, w'.heap[y]? = w.heap[y]? := by
  obtain ⟨t, a, b, c, d, e, f⟩ := h.tag
  have ne : ∀ k m, t k = m → m ≠ 6 → ¬ k = p6 := fun k m hk hm he => hm (by rw [← hk, he, b])
  exact ⟨⟨hf.at h.h5 (ne _ _ a (by decide)), h6, hf.part h.r7 (fun k hk => ne _ _ (c k hk) (by decide)), hf.part h.r8 (fun k hk => ne _ _ (d k hk) (by decide)), hf.part h.r9 (fun k hk => ne _ _ (e k hk) (by decide)), ⟨t, a, b, c, d, e, f⟩, h.base, fun y hy => Nat.lt_of_lt_of_le (h.ys y hy) hf.size, h.bel.trans (hf.below h.bel.size (fun k hk => by have e : k = p6 := hk; rw [e]; exact h.base.2.1))⟩, fun y hy => hf.block y (h.ys y hy) (ne _ _ (f y hy) (by decide))⟩
theorem St.set7 (h : St w0 w p5 p6 v7 v8 v9 ln se asks ans dn Y) (hf : Fr (fun k => v7.ownBlock = some k) w w') (hr : NR w' v' l') (ho : ∀ k, v'.ownBlock = some k → v7.ownBlock = some k ∨ w.heap.size ≤ k) : St w0 w' p5 p6 v' v8 v9 ln se l' ans dn Y ∧ ∀ y ∈ Y, w'.heap[y]? = w.heap[y]? := by
  obtain ⟨t, a, b, c, d, e, f⟩ := h.tag
  have l5 := lt_of h.h5
  have l6 := lt_of h.h6
  have hs := h.bel.size
  have ne : ∀ k m, t k = m → m ≠ 7 → ¬ v7.ownBlock = some k := fun k m hk hm he => hm (by rw [← hk]; exact c k he)
  refine ⟨⟨hf.at h.h5 (ne _ _ a (by decide)), hf.at h.h6 (ne _ _ b (by decide)), hr, hf.part h.r8 (fun k hk => ne _ _ (d k hk) (by decide)), hf.part h.r9 (fun k hk => ne _ _ (e k hk) (by decide)), ⟨fun k => if k < w.heap.size then t k else 7, by simp [l5, a], by simp [l6, b], fun k hk => ?_, fun k hk => ?_, fun k hk => ?_, fun k hk => ?_⟩, ⟨h.base.1, h.base.2.1, ?_, ?_, ?_⟩, fun y hy => Nat.lt_of_lt_of_le (h.ys y hy) hf.size, h.bel.trans (hf.below h.bel.size (fun k hk => h.base.2.2.1 k hk))⟩, fun y hy => hf.block y (h.ys y hy) (ne _ _ (f y hy) (by decide))⟩
  · rcases ho k hk with hk' | hk'
    · have := (h.r7.lt k hk').2; simp [this, c k hk']
    · have : ¬ k < w.heap.size := by omega
      simp [this]
  · have := (h.r8.lt k hk).2; simp [this, d k hk]
  · have := (h.r9.lt k hk).2; simp [this, e k hk]
  · have := h.ys k hk; simp [this, f k hk]
  · intro k hk
    rcases ho k hk with hk' | hk'
    · exact h.base.2.2.1 k hk'
    · omega
  · exact h.base.2.2.2.1
  · exact h.base.2.2.2.2
theorem St.set8 (h : St w0 w p5 p6 v7 v8 v9 ln se asks ans dn Y) (hf : Fr (fun k => v8.ownBlock = some k) w w') (hr : NR w' v' l') (ho : ∀ k, v'.ownBlock = some k → v8.ownBlock = some k ∨ w.heap.size ≤ k) : St w0 w' p5 p6 v7 v' v9 ln se asks l' dn Y ∧ ∀ y ∈ Y, w'.heap[y]? = w.heap[y]? := by
  obtain ⟨t, a, b, c, d, e, f⟩ := h.tag
  have l5 := lt_of h.h5
  have l6 := lt_of h.h6
  have hs := h.bel.size
  have ne : ∀ k m, t k = m → m ≠ 8 → ¬ v8.ownBlock = some k := fun k m hk hm he => hm (by rw [← hk]; exact d k he)
  refine ⟨⟨hf.at h.h5 (ne _ _ a (by decide)), hf.at h.h6 (ne _ _ b (by decide)), hf.part h.r7 (fun k hk => ne _ _ (c k hk) (by decide)), hr, hf.part h.r9 (fun k hk => ne _ _ (e k hk) (by decide)), ⟨fun k => if k < w.heap.size then t k else 8, by simp [l5, a], by simp [l6, b], fun k hk => ?_, fun k hk => ?_, fun k hk => ?_, fun k hk => ?_⟩, ⟨h.base.1, h.base.2.1, ?_, ?_, ?_⟩, fun y hy => Nat.lt_of_lt_of_le (h.ys y hy) hf.size, h.bel.trans (hf.below h.bel.size (fun k hk => h.base.2.2.2.1 k hk))⟩, fun y hy => hf.block y (h.ys y hy) (ne _ _ (f y hy) (by decide))⟩
  · have := (h.r7.lt k hk).2; simp [this, c k hk]
  · rcases ho k hk with hk' | hk'
    · have := (h.r8.lt k hk').2; simp [this, d k hk']
    · have : ¬ k < w.heap.size := by omega
      simp [this]
  · have := (h.r9.lt k hk).2; simp [this, e k hk]
  · have := h.ys k hk; simp [this, f k hk]
  · exact h.base.2.2.1
  · intro k hk
    rcases ho k hk with hk' | hk'
    · exact h.base.2.2.2.1 k hk'
    · omega
  · exact h.base.2.2.2.2
theorem St.set9 (h : St w0 w p5 p6 v7 v8 v9 ln se asks ans dn Y) (hf : Fr (fun k => v9.ownBlock = some k) w w') (hr : UR w' v' dn') (ho : ∀ k, v'.ownBlock = some k → v9.ownBlock = some k ∨ w.heap.size ≤ k) : St w0 w' p5 p6 v7 v8 v' ln se asks ans dn' Y ∧ ∀ y ∈ Y, w'.heap[y]? = w.heap[y]? := by
  obtain ⟨t, a, b, c, d, e, f⟩ := h.tag
  have l5 := lt_of h.h5
  have l6 := lt_of h.h6
  have hs := h.bel.size
  have ne : ∀ k m, t k = m → m ≠ 9 → ¬ v9.ownBlock = some k := fun k m hk hm he => hm (by rw [← hk]; exact e k he)
  refine ⟨⟨hf.at h.h5 (ne _ _ a (by decide)), hf.at h.h6 (ne _ _ b (by decide)), hf.part h.r7 (fun k hk => ne _ _ (c k hk) (by decide)), hf.part h.r8 (fun k hk => ne _ _ (d k hk) (by decide)), hr, ⟨fun k => if k < w.heap.size then t k else 9, by simp [l5, a], by simp [l6, b], fun k hk => ?_, fun k hk => ?_, fun k hk => ?_, fun k hk => ?_⟩, ⟨h.base.1, h.base.2.1, ?_, ?_, ?_⟩, fun y hy => Nat.lt_of_lt_of_le (h.ys y hy) hf.size, h.bel.trans (hf.below h.bel.size (fun k hk => h.base.2.2.2.2 k hk))⟩, fun y hy => hf.block y (h.ys y hy) (ne _ _ (f y hy) (by decide))⟩
  · have := (h.r7.lt k hk).2; simp [this, c k hk]
  · have := (h.r8.lt k hk).2; simp [this, d k hk]
  · rcases ho k hk with hk' | hk'
    · have := (h.r9.lt k hk').2; simp [this, e k hk']
    · have : ¬ k < w.heap.size := by omega
      simp [this]
  · have := h.ys k hk; simp [this, f k hk]
  · exact h.base.2.2.1
  · exact h.base.2.2.2.1
  · intro k hk
    rcases ho k hk with hk' | hk'
    · exact h.base.2.2.2.2 k hk'
    · omega
end
end Go.Proofs.Ytfacdadbebjebaa.Once
