/- Worlds that differ in a set of blocks alone; rows of several cells: what lies in them, a store into one, a copy of all. -/
import Derived.Laws.AppendOwn
import Derived.Deep.MidRow
import Derived.Laws.CopyOwn
import Derived.Laws.MakeOwn
import Derived.Lib.BufferWrite
import Derived.Laws.BytesArg
import Derived.Great.BuildSlice
import Derived.Maps.AppendAt
import Derived.Below
import Derived.OneCell
import Derived.WalkKit
import Derived.Lib.Hide
namespace Go.Own
open Go.RowKit

/-- w' is w but for new blocks and for those of F. -/
structure Fr (F : Nat → Prop) (w w' : World) : Prop where
  os : w'.os = w.os
  tape : w'.tape = w.tape
  output : w'.output = w.output
  size : w.heap.size ≤ w'.heap.size
  block : ∀ k, k < w.heap.size → ¬ F k → w'.heap[k]? = w.heap[k]?
theorem Fr.refl (F : Nat → Prop) (w : World) : Fr F w w := ⟨rfl, rfl, rfl, Nat.le_refl _, fun _ _ _ => rfl⟩
theorem Fr.trans {F G : Nat → Prop} {a b c : World} (h : Fr F a b) (k : Fr G b c) (hG : ∀ i, i < a.heap.size → G i → F i) : Fr F a c :=
  ⟨k.os.trans h.os, k.tape.trans h.tape, k.output.trans h.output, Nat.le_trans h.size k.size, fun i hi hF => (k.block i (Nat.lt_of_lt_of_le hi h.size) (fun g => hF (hG i hi g))).trans (h.block i hi hF)⟩
theorem Fr.mono {F G : Nat → Prop} {w w' : World} (h : Fr F w w') (hG : ∀ i, i < w.heap.size → F i → G i) : Fr G w w' :=
  ⟨h.os, h.tape, h.output, h.size, fun i hi hg => h.block i hi (fun hf => hg (hG i hi hf))⟩
theorem Fr.below {F : Nat → Prop} {w w' : World} {B : Nat} (h : Fr F w w') (hB : B ≤ w.heap.size) (hF : ∀ k, F k → B ≤ k) : Below B w w' :=
  ⟨h.os, h.tape, h.output, h.size, fun k hk => h.block k (by omega) (fun hf => by have := hF k hf; omega)⟩
theorem Fr.of_below {F : Nat → Prop} {w w' : World} (h : Below w.heap.size w w') : Fr F w w' := ⟨h.os, h.tape, h.output, h.size, fun k hk _ => h.block k hk⟩
theorem Fr.at {F : Nat → Prop} {w w' : World} {k : Nat} {o : Obj} (h : Fr F w w') (hb : w.heap[k]? = some o) (hk : ¬ F k) : w'.heap[k]? = some o :=
  (h.block k (Array.getElem?_eq_some_iff.1 hb).1 hk).trans hb
theorem Fr.grown {F : Nat → Prop} {w w' : World} {row : Option Nat} (h : w.grownBy w' row) (hr : ∀ k, row = some k → F k) : Fr F w w' :=
  ⟨h.os, h.tape, h.output, h.size, fun k hk hF => h.block k hk (fun e => hF (hr k e.symm))⟩
theorem Fr.alloc (F : Nat → Prop) (w : World) (o : Obj) : Fr F w (w.alloc o) := ⟨rfl, rfl, rfl, by simp, fun k hk _ => Below.heap_alloc w o k hk⟩
theorem Fr.drew (F : Nat → Prop) (w : World) : Fr F w w.drew := ⟨rfl, rfl, rfl, Nat.le_refl _, fun _ _ _ => rfl⟩
theorem Fr.setCell {F : Nat → Prop} (w : World) {p : Addr} (hp : F p.block) (u : Value) : Fr F w (w.setCell p u) :=
  ⟨rfl, rfl, rfl, by simp [World.setCell], fun k _ hk => Below.heap_setCell w p u k (fun e => hk (e ▸ hp))⟩
theorem Fr.setRow {F : Nat → Prop} (w : World) {g : Nat} (hp : F g) (cs : Array Value) : Fr F w (w.setRow g cs) :=
  ⟨rfl, rfl, rfl, by simp [World.setRow], fun k _ hk => setRow_other w g k cs (fun e => hk (e ▸ hp))⟩
theorem row_kept {w w' : World} {base : Nat} {e : TypeId} {size : Nat} {v : Value} {n : Nat} {xs : List Value} (h : w.ownsRow base e size v n xs) (hk : ∀ k, v.ownBlock = some k → w'.heap[k]? = w.heap[k]?) : w'.ownsRow base e size v n xs := by
  refine ⟨h.1, ?_⟩
  rcases h.2 with hn | ⟨g, cap, cur, rfl, hb, hgg, rest⟩
  · exact .inl hn
  · exact .inr ⟨g, cap, cur, rfl, hb, (hk g rfl).trans hgg, rest⟩
theorem Fr.row {F : Nat → Prop} {w w' : World} {base : Nat} {e : TypeId} {size : Nat} {v : Value} {n : Nat} {xs : List Value} (h : Fr F w w') (ho : w.ownsRow base e size v n xs) (hv : ∀ k, v.ownBlock = some k → ¬ F k) : w'.ownsRow base e size v n xs :=
  row_kept ho fun k hk => h.block k (ho.lt k hk).2 (hv k hk)
theorem row_base {w : World} {base base' : Nat} {e : TypeId} {size : Nat} {v : Value} {n : Nat} {xs : List Value} (h : w.ownsRow base e size v n xs) (hb : base' ≤ base) : w.ownsRow base' e size v n xs := by
  refine ⟨h.1, ?_⟩
  rcases h.2 with hn | ⟨g, cap, cur, rfl, hb', rest⟩
  · exact .inl hn
  · exact .inr ⟨g, cap, cur, rfl, by omega, rest⟩
theorem row_form {w : World} {base : Nat} {e : TypeId} {size : Nat} {v : Value} {n : Nat} {xs : List Value} (h : w.ownsRow base e size v n xs) : ∃ a cap, v = .slice a n cap ∧ n ≤ cap ∧ cap ≤ maxLen := by
  rcases h.2 with ⟨rfl, rfl⟩ | ⟨g, cap, cur, rfl, _, _, h1, h2, _⟩
  · exact ⟨none, 0, rfl, Nat.le_refl _, Nat.zero_le _⟩
  · exact ⟨_, cap, rfl, h1, h2⟩

/-! ### lists of rows of one length -/
section
variable {α β : Type} {f : α → List β} {s : Nat}
theorem flat_length : ∀ {l : List α}, (∀ x ∈ l, (f x).length = s) → (l.flatMap f).length = l.length * s
  | [], _ => by simp
  | x :: l, h => by
    have ih := flat_length (l := l) (fun y hy => h y (by simp [hy]))
    simp only [List.flatMap_cons, List.length_append, ih, h x (by simp), List.length_cons, Nat.add_mul, Nat.one_mul]; omega
theorem flat_drop : ∀ {l : List α}, (∀ x ∈ l, (f x).length = s) → ∀ i, (l.flatMap f).drop (i * s) = (l.drop i).flatMap f
  | _, _, 0 => by simp
  | [], _, i + 1 => by simp
  | x :: l, h, i + 1 => by
    have ih := flat_drop (l := l) (fun y hy => h y (by simp [hy])) i
    have hx := h x (by simp)
    simp only [List.flatMap_cons, List.drop_succ_cons]
    rw [show (i + 1) * s = (f x).length + i * s by rw [hx, Nat.add_mul]; omega, List.drop_append, List.drop_eq_nil_of_le (by omega), List.nil_append, ← ih]
    congr 1; omega
theorem flat_take : ∀ {l : List α}, (∀ x ∈ l, (f x).length = s) → ∀ i, (l.flatMap f).take (i * s) = (l.take i).flatMap f
  | _, _, 0 => by simp
  | [], _, i + 1 => by simp
  | x :: l, h, i + 1 => by
    have ih := flat_take (l := l) (fun y hy => h y (by simp [hy])) i
    have hx := h x (by simp)
    simp only [List.flatMap_cons, List.take_succ_cons]
    rw [show (i + 1) * s = (f x).length + i * s by rw [hx, Nat.add_mul]; omega, List.take_append, List.take_of_length_le (by omega), ← ih]
    congr 2; omega
theorem flat_get {l : List α} (h : ∀ x ∈ l, (f x).length = s) (i : Nat) (hi : i < l.length) (j : Nat) (hj : j < s) : (l.flatMap f)[i * s + j]? = (f l[i])[j]? := by
  have h1 := congrArg (·[j]?) (flat_drop h i)
  simp only [List.getElem?_drop] at h1
  rw [h1, List.drop_eq_getElem_cons hi, List.flatMap_cons, List.getElem?_append_left (by rw [h _ (List.getElem_mem hi)]; exact hj)]
theorem flat_set {l : List α} (h : ∀ x ∈ l, (f x).length = s) (i : Nat) (hi : i < l.length) (y : α) : (l.set i y).flatMap f = (l.flatMap f).take (i * s) ++ f y ++ (l.flatMap f).drop (i * s + s) := by
  rw [show i * s + s = (i + 1) * s by rw [Nat.add_mul]; omega, flat_take h, flat_drop h, List.set_eq_take_append_cons_drop, if_pos hi]
  simp
end

/-! ### bytes as cells -/
def bcells (b : ByteArray) : List Value := b.data.toList.map fun c => .int .u8 (c.toNat : Int)
theorem bcells_length (b : ByteArray) : (bcells b).length = b.size := by
  unfold bcells
  rw [List.length_map, Array.length_toList]; rfl
theorem bcells_one (b : ByteArray) : ∀ v ∈ bcells b, v.oneCell' = true := fun v hv => by
  simp only [bcells, List.mem_map] at hv
  obtain ⟨c, _, rfl⟩ := hv
  rfl
theorem bcells_nums (b : ByteArray) : bcells b = (b.data.toList.map fun c => (c.toNat : Int)).map (Value.int .u8) := by simp [bcells]
theorem nums_back (b : ByteArray) : strOfNums (b.data.toList.map fun c => (c.toNat : Int)) = b := by
  apply ByteArray.ext
  apply Array.toList_inj.1
  rw [strOfNums_data, List.map_map]
  have : ((fun n : Int => UInt8.ofNat n.toNat) ∘ fun c : UInt8 => (c.toNat : Int)) = id := by
    funext c; simp
  rw [this]; simp

/-! ### a row in the middle of a block -/
/-- 'vs' laid over the cells from 'o' on. -/
def over (cur : List Value) (o : Nat) (vs : List Value) : List Value := cur.take o ++ vs ++ cur.drop (o + vs.length)
section
variable {P : Program}
theorem run_storeAt_row (w : World) (g o : Nat) (ty : TypeId) (cur : List Value) (t : TypeId) (cells : Array Value) (hg : w.heap[g]? = some (.cells cur.toArray t (0, 0))) (hfit : o + cells.size ≤ cur.length)
    (hi : (P.info? ty).map (·.size) = some cells.size) (h1 : ∀ v ∈ cells.toList, v.oneCell' = true) :
    (Instr.storeAt ty (.pointer (some ⟨g, o, none⟩)) (.agg cells)).run P w = .ok () (w.setRow g (over cur o cells.toList).toArray) := by
  have h := run_storeCells_at P g o t cells.toList 0 cur.toArray w hg (by simpa using hfit) h1
  cases hq : P.info? ty with
  | none => simp [hq] at hi
  | some i =>
    have hs : cells.size = i.size := by simp [hq] at hi; omega
    simp only [Nat.add_zero] at h
    simp [Instr.storeAt, Instr.sureAddr, storeVar, sizeOf, typeInfo, hq, Value.cells, hs, h, over]
theorem over_all {cur vs : List Value} (h : cur.length ≤ vs.length) : over cur 0 vs = vs := by
  unfold over
  rw [List.take_zero, List.nil_append, List.drop_eq_nil_of_le (by omega), List.append_nil]
theorem run_buildSlice_one (w : World) (t e : TypeId) (ie : TypeInfo) (z : Value) (cells : Array Value) (hu : P.underlying t = some (.slice e)) (hie : P.info? e = some ie) (hz : ie.zero = some z) (hs : ie.size = cells.size) (h0 : 0 < cells.size) (h1 : cells.size ≤ 16777216)
    (hzs : z.cells.size = cells.size) : (Instr.buildSlice t 1 #[(0, .agg cells)]).run P w = .ok (.slice (some ⟨w.heap.size, 0, none⟩) 1 1) (w.alloc (.cells cells e)) := by
  refine run_buildSlice w t e 1 _ cells ie z hu hie hz (by rw [hs]; omega) (by rw [hs]; omega) ?_
  have h := Great.fill_whole (s := cells.size) h0 [.agg cells] ((Array.range (1 * cells.size)).map (z.cells[· % z.cells.size]!)) (by intro v hv; simp only [List.mem_singleton] at hv; subst hv; rfl) (by simp)
  rw [hs]
  refine Eq.trans h ?_
  simp [Value.cells]
theorem wp_store_row {op : Oper} {a : Act} {w : World} {K : Act → World → Prop} {Q : Exit → Act → World → Prop} (ty : TypeId) (x y : Operand) (ho : op.op = .store ty x y)
    (g o : Nat) (cells : Array Value) (hx : a.eval x = .pointer (some ⟨g, o, none⟩)) (hy : a.eval y = .agg cells) (cur : List Value) (t : TypeId)
    (hg : w.heap[g]? = some (.cells cur.toArray t (0, 0))) (hfit : o + cells.size ≤ cur.length) (hi : (P.info? ty).map (·.size) = some cells.size) (h1 : ∀ v ∈ cells.toList, v.oneCell' = true)
    (h : K (a.put op.dst undef) (w.setRow g (over cur o cells.toList).toArray)) : op.wp P a w K Q := by
  have hr := run_storeAt_row (P := P) w g o ty cur t cells hg hfit hi h1
  unfold Oper.wp execOp
  simp only [ho, hx, hy, Sem.run_bind, hr, Result.andThen_ok, Sem.run_pure]
  exact h
theorem wpList_store_row {ops : Array Oper} {rest : List Oper} {op : Oper} {a : Act} {w : World} {Q : Exit → Act → World → Prop} (hgd : op.guard = none) (ty : TypeId) (x y : Operand) (ho : op.op = .store ty x y)
    (g o : Nat) (cells : Array Value) (hx : a.eval x = .pointer (some ⟨g, o, none⟩)) (hy : a.eval y = .agg cells) (cur : List Value) (t : TypeId)
    (hg : w.heap[g]? = some (.cells cur.toArray t (0, 0))) (hfit : o + cells.size ≤ cur.length) (hi : (P.info? ty).map (·.size) = some cells.size) (h1 : ∀ v ∈ cells.toList, v.oneCell' = true)
    (h : wpList P ops Q rest (a.put op.dst undef) (w.setRow g (over cur o cells.toList).toArray)) : wpList P ops Q (op :: rest) a w :=
  wpList_plain hgd fun _ hK => wp_store_row ty x y ho g o cells hx hy cur t hg hfit hi h1 (hK _ _ h)
theorem range_of {w : World} {g : Nat} {t : TypeId} {α : Type} {f : α → List Value} {l : List α} {s : Nat} (hg : w.heap[g]? = some (.cells (l.flatMap f).toArray t (0, 0))) (hl : ∀ x ∈ l, (f x).length = s) (i : Nat) (hi : i < l.length) : w.rangeAt g (i * s) (f l[i]) := fun j v hv => by
  rw [cell_of_row w g _ _ _ _ hg, List.getElem?_toArray, flat_get hl i hi j]
  · exact hv
  · rw [← hl _ (List.getElem_mem hi)]; exact (List.getElem?_eq_some_iff.1 hv).1
theorem run_convert_row (w : World) (src e dst : TypeId) (hs : P.underlying src = some (.slice e)) (he : P.underlying e = some (.int .u8)) (hd : P.underlying dst = some .string) (g : Nat) (t : TypeId) (l : List ByteArray) (s : Nat)
    (hl : ∀ b ∈ l, b.size = s) (hg : w.heap[g]? = some (.cells (l.flatMap bcells).toArray t (0, 0))) (i : Nat) (hi : i < l.length) (c : Nat) :
    (convert src dst (.slice (some ⟨g, i * s, none⟩) s c)).run P w = .ok (.string (l.getD i ByteArray.empty)) w := by
  have hr := range_of hg (fun b hb => (bcells_length b).trans (hl b hb)) i hi
  have h := run_convert_bytes_arg (P := P) w src e hs he g (i * s) s c (l[i].data.toList.map fun c => (c.toNat : Int)) (by rw [List.length_map, Array.length_toList]; exact hl _ (List.getElem_mem hi)) (fun j hj => by
    have hj' : j < (bcells l[i]).length := by rw [bcells_length, hl _ (List.getElem_mem hi)]; exact hj
    rw [hr j _ (List.getElem?_eq_getElem hj')]
    have hj2 : j < l[i].data.toList.length := by rw [Array.length_toList]; have : l[i].data.size = s := hl _ (List.getElem_mem hi); omega
    simp only [bcells, List.getElem_map, List.getD, List.getElem?_map, List.getElem?_eq_getElem hj2, Option.map_some, Option.getD_some]) dst hd
  rw [h, nums_back]
  simp [List.getD, List.getElem?_eq_getElem hi]
theorem row_range {w : World} {base : Nat} {e : TypeId} {s : Nat} {v : Value} {α : Type} {f : α → List Value} {l : List α} (h : w.ownsRow base e s v l.length (l.flatMap f)) (hl : ∀ x ∈ l, (f x).length = s) (k : Nat) (hk : k < l.length) :
    ∃ g cap, v = .slice (some ⟨g, 0, none⟩) l.length cap ∧ base ≤ g ∧ w.rangeAt g (k * s) (f l[k]) := by
  rcases h.2 with ⟨_, h0⟩ | ⟨g, cap, cur, hv, hg, hgg, hn, hm, hs, ht⟩
  · omega
  · refine ⟨g, cap, hv, hg, fun j u hu => ?_⟩
    have hj : j < s := by rw [← hl _ (List.getElem_mem hk)]; exact (List.getElem?_eq_some_iff.1 hu).1
    have h1 := flat_get hl k hk j hj
    rw [hu, ← ht, List.getElem?_take] at h1
    rw [cell_of_row w g _ _ _ _ hgg]
    split at h1
    · simpa using h1
    · cases h1
theorem row_some {w : World} {base : Nat} {e : TypeId} {s n : Nat} {v : Value} {xs : List Value} (h : w.ownsRow base e s v n xs) : (v = .slice none 0 0 ∧ n = 0) ∨ ∃ g cap, v = .slice (some ⟨g, 0, none⟩) n cap ∧ g < w.heap.size := by
  rcases h.2 with h0 | ⟨g, cap, cur, hv, hg, hgg, _⟩
  · exact .inl h0
  · exact .inr ⟨g, cap, hv, (Array.getElem?_eq_some_iff.1 hgg).1⟩
/-- copy between two rows of several cells, each known whole, of one length. -/
theorem run_copy_all (w : World) (dT sT ty elem : TypeId) (size : Nat) (g n c : Nat) (g' c' : Nat) (cur cs : List Value) (t t' : TypeId)
    (hu : P.underlying dT = some (.slice elem)) (hs : (P.info? elem).map (·.size) = some size)
    (hg : w.heap[g]? = some (.cells cur.toArray t (0, 0))) (hg' : w.heap[g']? = some (.cells cs.toArray t' (0, 0))) (hn : cs.length = n * size) (hfit : cur.length = n * size) (h1 : ∀ v ∈ cs, v.oneCell' = true) :
    (Builtin.copy_ #[dT, sT] ty #[.slice (some ⟨g, 0, none⟩) n c, .slice (some ⟨g', 0, none⟩) n c']).run P w = .ok (goInt n) (w.setRow g cs.toArray) := by
  have hl := run_loadCells_list (P := P) w ⟨g', 0, none⟩ cs (fun j v hv => by
    have hadd : (⟨g', 0, none⟩ : Addr).add j = ⟨g', j, none⟩ := by unfold Addr.add; split <;> simp_all
    rw [hadd, cell_of_row w g' j cs.toArray t' (0, 0) hg']; simpa using hv)
  have hst := run_storeCells_at P g 0 t cs 0 cur.toArray w hg (by simp; omega) h1
  simp only [Nat.add_zero, Nat.zero_add, List.take_zero, List.nil_append] at hst
  rw [List.drop_eq_nil_of_le (by omega), List.append_nil] at hst
  cases hq : P.info? elem with
  | none => simp [hq] at hs
  | some i =>
    have hi : i.size = size := by simpa [hq] using hs
    have hmin : Nat.min n n = n := Nat.min_self n
    simp only [hn] at hl
    simp [Builtin.copy_, run_underlying hu, Builtin.lenOf, Builtin.firstCells, sizeOf, typeInfo, hq, hi, hmin, hl, hst]
end
end Go.Own
