/- Layer net: the document's net: rows of packets. Layer net: Take; a net that is nil. Layer net: the document's net: a row without one; Send, Double. Layer net: the document's net: Take, Move. -/
import Derived.Test.YtiedmkgdhfkcoaaDoorNetFG
import Derived.Test.YtiedmkgdhfkcoaaDoorPktRead
namespace Go.Proofs.YtiedmkgdhfkcoaaDoor.Net
open Go.RowKit Go.Own Go.Blk Go.OpsL Go.XdrL Go.PktL Go.Proofs.YtiedmkgdhfkcoaaDoor.Pkt Go.Proofs.YtiedmkgdhfkcoaaDoorW.PrintLast Go.Proofs.YtiedmkgdhfkcoaaDoorW.PrintWords
set_option linter.unusedVariables false
set_option linter.unusedSimpArgs false
set_option maxRecDepth 100000
def prow (l : List Pk) : List Value := l.flatMap pcells
theorem prow_length (l : List Pk) : (prow l).length = l.length * 20 := flat_length (f := pcells) (s := 20) (fun _ _ => rfl)
theorem prow_append (a b : List Pk) : prow (a ++ b) = prow a ++ prow b := by simp [prow]
theorem prow_drop (l : List Pk) (i : Nat) : (prow l).drop (i * 20) = prow (l.drop i) := flat_drop (f := pcells) (s := 20) (fun _ _ => rfl) i
theorem prow_take (l : List Pk) (i : Nat) : (prow l).take (i * 20) = prow (l.take i) := flat_take (f := pcells) (s := 20) (fun _ _ => rfl) i
theorem pcells_one (p : Pk) : ∀ x ∈ pcells p, x.oneCell' = true := by
  intro x hx
  simp only [pcells, List.mem_cons, List.not_mem_nil, or_false] at hx
  rcases hx with rfl | rfl | rfl | rfl | rfl | rfl | rfl | rfl | rfl | rfl | rfl | rfl | rfl | rfl | rfl | rfl | rfl | rfl | rfl | rfl <;> rfl
theorem prow_one (l : List Pk) : ∀ x ∈ prow l, x.oneCell' = true := by
  intro x hx
  simp only [prow, List.mem_flatMap] at hx
  obtain ⟨p, _, hp⟩ := hx
  exact pcells_one p x hp
/-- A net of the document in block m, its list's value v, its packets l. -/
structure MAt (w : World) (m : Nat) (v : Value) (l : List Pk) : Prop where
  blk : w.heap[m]? = some (.cells #[v] 50 (0, 0))
  row : partRow w 0 27 20 v l.length (prow l)
  off : v.ownBlock ≠ some m
  few : l.length ≤ 200
variable {w w' : World} {m : Nat} {v : Value} {l : List Pk}
theorem MAt.keep {F : Nat → Prop} (h : MAt w m v l) (hf : Fr F w w') (hF : ∀ k, foot m v k → ¬ F k) : MAt w' m v l :=
  ⟨hf.at h.blk (hF m (.inl rfl)), hf.part h.row (fun k hk => hF k (.inr hk)), h.off, h.few⟩
theorem MAt.lt (h : MAt w m v l) : ∀ k, foot m v k → k < w.heap.size := fun k hk => by
  rcases hk with rfl | hk
  · exact (Array.getElem?_eq_some_iff.1 h.blk).1
  · exact (h.row.lt k hk).2
theorem MAt.below (h : MAt w m v l) (hb : Below w.heap.size w w') : MAt w' m v l :=
  h.keep (Fr.of_below (F := fun _ => False) hb) (fun _ _ => id)
theorem info_pkt : (Tryd.prog.info? 27).map (fun i => (i.zero, i.size, i.bytes)) = some (some (.agg #[.int .i64 0, .int .i64 0, .int .i64 0, .int .u32 0, .int .u32 0, .int .u32 0, .int .u32 0, .int .i64 0, .int .i64 0, .int .u32 0, .int .u32 0, .int .u32 0, .int .u32 0, .int .u32 0, .int .u32 0, .int .u32 0, .int .u32 0, .string ⟨#[]⟩, .string ⟨#[]⟩, .string ⟨#[]⟩]), 20, 136) := by kernel_rfl
theorem infoP : ∃ i z, Tryd.prog.info? 27 = some i ∧ i.zero = some z ∧ i.size = 20 ∧ i.bytes = 136 ∧ z.cells.size = 20 := by
  cases h : Tryd.prog.info? 27 with
  | none => have := info_pkt; rw [h] at this; cases this
  | some i =>
    have := info_pkt
    rw [h] at this
    simp only [Option.map_some, Option.some.injEq, Prod.mk.injEq] at this
    exact ⟨i, _, rfl, this.1, this.2.1, this.2.2, rfl⟩
/-- append of packets to a row of one's own. -/
theorem padds (w : World) {u : Value} {l : List Pk} (h : partRow w 0 27 20 u l.length (prow l)) (A : Option Addr) (c : Nat) (news : List Pk) (hA : Shows w A (prow news)) (hl : l.length ≤ 400) (hm : news.length ≤ 400) :
    ∃ u' w', (Builtin.append_ #[48, 48] 48 #[u, .slice A news.length c]).run Tryd.prog w = .ok u' w' ∧ partRow w' 0 27 20 u' (l ++ news).length (prow (l ++ news)) ∧ w.grownBy w' u.ownBlock ∧ (u'.ownBlock = u.ownBlock ∨ u'.ownBlock = some w.heap.size) := by
  obtain ⟨i, z, h1, h2, h3, h4, h5⟩ := infoP
  have := run_append_part (P := Tryd.prog) w 0 48 48 27 i z 20 136 Tryd.underlying48 h1 h2 h3 h4 h5 (by omega) u l.length _ h A news.length c _ (prow_length news) hA (prow_one news) (by unfold maxLen; omega) (by omega) (Nat.zero_le _)
  rw [List.length_append, prow_append]
  exact this
theorem part_from20 {a : Option Addr} {cap n base : Nat} {e : TypeId} {xs : List Value} (h : partRow w base e 20 v n xs) (hv : v = .slice a n cap) (i : Nat) : Shows w (if cap = i then a else a.map (·.add (i * 20))) (xs.drop (i * 20)) := by
  subst hv
  rcases h.2 with ⟨h1, rfl⟩ | ⟨g, cap', cur, h1, _, _, hnc, _⟩
  · cases h1
    left
    have : xs = [] := List.eq_nil_of_length_eq_zero (by simpa using h.1)
    subst this
    simp
  · cases h1
    right
    by_cases hc : cap = i
    · have : xs.drop (i * 20) = [] := List.drop_eq_nil_of_le (by rw [h.1]; omega)
      rw [this, if_pos hc]
      exact ⟨_, rfl, fun j u hj => by simp at hj⟩
    · rw [if_neg hc]
      refine ⟨_, rfl, fun j u hj => ?_⟩
      have h2 := h.cells (g := g) rfl (i * 20 + j) u (by rw [← hj, List.getElem?_drop])
      rw [← h2]
      congr 1
      simp only [Addr.add]
      split <;> split <;> split <;> simp_all <;> omega
theorem part_to20 {a : Option Addr} {cap n base : Nat} {e : TypeId} {xs : List Value} (h : partRow w base e 20 v n xs) (hv : v = .slice a n cap) (i : Nat) : Shows w (if cap = 0 then a else a.map (·.add (0 * 20))) (xs.take (i * 20)) := by
  subst hv
  rcases h.2 with ⟨h1, rfl⟩ | ⟨g, cap', cur, h1, _, _, hnc, _⟩
  · cases h1
    left
    have : xs = [] := List.eq_nil_of_length_eq_zero (by simpa using h.1)
    subst this
    simp
  · cases h1
    right
    have e : (if cap = 0 then some (⟨g, 0, none⟩ : Addr) else (some (⟨g, 0, none⟩ : Addr)).map (·.add (0 * 20))) = some ⟨g, 0, none⟩ := by
      split
      · rfl
      · simp [Addr.add]
    rw [e]
    refine ⟨_, rfl, fun j u hj => ?_⟩
    rw [List.getElem?_take] at hj
    split at hj
    · exact h.cells (g := g) rfl j u hj
    · cases hj
theorem size_pkt (w : World) : (sizeOf 27).run Tryd.prog w = .ok 20 w := by
  obtain ⟨i, _, h1, _, h2, _⟩ := infoP
  simp [sizeOf, typeInfo, h1, h2]
theorem prun_from (w : World) (a : Option Addr) (n c i : Nat) (hi : i ≤ n) : (Instr.sliceAt 48 (.slice a n c) (some (.int .i64 (i : Int))) none none).run Tryd.prog w = .ok (.slice (if c = i then a else a.map (·.add (i * 20))) (n - i) (c - i)) w := by
  have he : Tryd.prog.elem 48 = 27 := by kernel_rfl
  rw [run_sliceAt_slice w _ _ _ _ _ (by rw [he]; exact Tryd.underlying48), run_slice_l w _ _ _ _ (by rw [he]; exact Tryd.underlying48) _ _ (by omega) (by omega), he, size_pkt]
  simp [Result.andThen, sliced]
theorem prun_to (w : World) (a : Option Addr) (n c i : Nat) (hi : i ≤ c) : (Instr.sliceAt 48 (.slice a n c) none (some (.int .i64 (i : Int))) none).run Tryd.prog w = .ok (.slice (if c = 0 then a else a.map (·.add (0 * 20))) i c) w := by
  have he : Tryd.prog.elem 48 = 27 := by kernel_rfl
  rw [run_sliceAt_slice w _ _ _ _ _ (by rw [he]; exact Tryd.underlying48), run_slice_h w _ _ _ _ (by rw [he]; exact Tryd.underlying48) _ _ (by omega) (by omega), he, size_pkt]
  simp [Result.andThen, sliced]
/-- A packet of the row. -/
theorem part_get {n : Nat} {base : Nat} {e : TypeId} {l : List Pk} (h : partRow w base e 20 v n (prow l)) (k : Nat) (hk : k < l.length) : ∃ g c, v = .slice (some ⟨g, 0, none⟩) n c ∧ w.rangeAt g (k * 20) (pcells l[k]) := by
  have hn : l.length * 20 = n * 20 := by rw [← prow_length]; exact h.1
  rcases h.2 with ⟨_, h0⟩ | ⟨g, c, cur, rfl, _⟩
  · omega
  · refine ⟨g, c, rfl, fun j u hu => ?_⟩
    have hj : j < 20 := (List.getElem?_eq_some_iff.1 hu).1
    have h1 := flat_get (l := l) (f := pcells) (s := 20) (fun _ _ => rfl) k hk j hj
    have h2 := h.cells (g := g) rfl (k * 20 + j) u (by unfold prow; rw [h1]; exact hu)
    rw [← h2]
    congr 1
    unfold Addr.add
    split <;> simp_all
theorem run_loadP (w : World) (g o : Nat) (p : Pk) (h : w.rangeAt g o (pcells p)) : (Instr.loadAt 27 (.pointer (some ⟨g, o, none⟩))).run Tryd.prog w = .ok (.agg #[.int .i64 p.kind, .int .i64 p.fr, .int .i64 p.to, .int .u32 (p.life : Int), .int .u32 (p.seq : Int), .int .u32 (p.asked : Int), .int .u32 (p.boot : Int), .int .i64 p.code, .int .i64 p.err, .int .u32 (p.file : Int), .int .u32 (p.epoch : Int), .int .u32 (p.off : Int), .int .u32 (p.len : Int), .int .u32 (p.size : Int), .int .u32 (p.mode : Int), .int .u32 (p.deny : Int), .int .u32 (p.handle : Int), .string p.path, .string p.other, .string p.data]) w := by
  have hv := run_loadVar_mid (P := Tryd.prog) w g o 27 _ _ h Tryd.underlying27 rfl pk_info
  simp only [Instr.loadAt, Instr.sureAddr, Sem.run_bind, Sem.run_pure, Result.andThen_ok, hv]
  rfl
theorem run_oneP (w : World) (p : Pk) : (Instr.buildSlice 48 1 #[(0, .agg #[.int .i64 p.kind, .int .i64 p.fr, .int .i64 p.to, .int .u32 (p.life : Int), .int .u32 (p.seq : Int), .int .u32 (p.asked : Int), .int .u32 (p.boot : Int), .int .i64 p.code, .int .i64 p.err, .int .u32 (p.file : Int), .int .u32 (p.epoch : Int), .int .u32 (p.off : Int), .int .u32 (p.len : Int), .int .u32 (p.size : Int), .int .u32 (p.mode : Int), .int .u32 (p.deny : Int), .int .u32 (p.handle : Int), .string p.path, .string p.other, .string p.data])]).run Tryd.prog w = .ok (.slice (some ⟨w.heap.size, 0, none⟩) 1 1) (w.alloc (.cells (pcells p).toArray 27)) := by
  obtain ⟨i, z, h1, h2, h3, h4, h5⟩ := infoP
  exact run_buildSlice_one (P := Tryd.prog) w 48 27 i z (pcells p).toArray Tryd.underlying48 h1 h2 h3 (by show 0 < 20; omega) (by show 20 ≤ _; omega) h5
theorem shows_oneP (w : World) (p : Pk) (t : TypeId) : Shows (w.alloc (.cells (pcells p).toArray t)) (some ⟨w.heap.size, 0, none⟩) (prow [p]) := by
  refine .inr ⟨_, rfl, fun j u hj => ?_⟩
  have hadd : (⟨w.heap.size, 0, none⟩ : Addr).add j = ⟨w.heap.size, j, none⟩ := by unfold Addr.add; split <;> simp_all
  rw [hadd, cell_at (alloc_at w _)]
  simpa [prow] using hj
end Go.Proofs.YtiedmkgdhfkcoaaDoor.Net
namespace Go.Proofs.YtiedmkgdhfkcoaaDoor.Net
open Go.RowKit Go.Own Go.Blk Go.OpsL Go.XdrL Go.PktL Go.Proofs.YtiedmkgdhfkcoaaDoor.Pkt Go.Proofs.YtiedmkgdhfkcoaaDoorW.PrintLast Go.Proofs.YtiedmkgdhfkcoaaDoorW.PrintWords
set_option linter.unusedVariables false
set_option linter.unusedSimpArgs false
set_option maxRecDepth 100000
variable {w w' : World} {p m : Nat} {v : Value}
set_option maxHeartbeats 4000000 in
theorem at_nil (i : Int) (w : World) : Calls Tryd.prog 29 #[.pointer none, .int .i64 i] w fun e w' => e = .returned (.string ⟨#[]⟩) ∧ w' = w := by
  by_cases h1 : i < 0
  · go_enter Tryd.func29, Tryd.ntmps29
    go_wp2_with (go_at_call 28; refine (len_nil _).mono ?_; rintro e w1 ⟨rfl, rfl⟩)
    try rw [Exit.noGoto_ret]
    go_ret
    exact ⟨rfl, rfl⟩
  · have h2 : (0 : Int) ≤ i := by omega
    go_enter Tryd.func29, Tryd.ntmps29
    go_wp2_with (go_at_call 28; refine (len_nil _).mono ?_; rintro e w1 ⟨rfl, rfl⟩)
    try rw [Exit.noGoto_ret]
    go_ret
    exact ⟨rfl, rfl⟩
set_option maxHeartbeats 4000000 in
theorem drop_nil (i : Int) (w : World) : Calls Tryd.prog 23 #[.pointer none, .int .i64 i] w fun e w' => e = .returned (.int .i64 7) ∧ w' = w := by
  by_cases h1 : i < 0
  · go_enter Tryd.func23, Tryd.ntmps23
    go_wp2_with (go_at_call 28; refine (len_nil _).mono ?_; rintro e w1 ⟨rfl, rfl⟩)
    try rw [Exit.noGoto_ret]
    go_ret
    exact ⟨rfl, rfl⟩
  · have h2 : (0 : Int) ≤ i := by omega
    go_enter Tryd.func23, Tryd.ntmps23
    go_wp2_with (go_at_call 28; refine (len_nil _).mono ?_; rintro e w1 ⟨rfl, rfl⟩)
    try rw [Exit.noGoto_ret]
    go_ret
    exact ⟨rfl, rfl⟩
set_option maxHeartbeats 4000000 in
theorem double_nil (i : Int) (w : World) : Calls Tryd.prog 24 #[.pointer none, .int .i64 i] w fun e w' => e = .returned (.int .i64 7) ∧ w' = w := by
  by_cases h1 : i < 0
  · go_enter Tryd.func24, Tryd.ntmps24
    go_wp2_with (go_at_call 28; refine (len_nil _).mono ?_; rintro e w1 ⟨rfl, rfl⟩)
    try rw [Exit.noGoto_ret]
    go_ret
    exact ⟨rfl, rfl⟩
  · have h2 : (0 : Int) ≤ i := by omega
    go_enter Tryd.func24, Tryd.ntmps24
    go_wp2_with (go_at_call 28; refine (len_nil _).mono ?_; rintro e w1 ⟨rfl, rfl⟩)
    try rw [Exit.noGoto_ret]
    go_ret
    exact ⟨rfl, rfl⟩
set_option maxHeartbeats 4000000 in
theorem move_nil (i j : Int) (w : World) : Calls Tryd.prog 26 #[.pointer none, .int .i64 i, .int .i64 j] w fun e w' => e = .returned (.int .i64 7) ∧ w' = w := by
  by_cases h1 : i < 0
  · go_enter Tryd.func26, Tryd.ntmps26
    go_wp2_with (go_at_call 28; refine (len_nil _).mono ?_; rintro e w1 ⟨rfl, rfl⟩)
    try rw [Exit.noGoto_ret]
    go_ret
    exact ⟨rfl, rfl⟩
  · have h2 : (0 : Int) ≤ i := by omega
    go_enter Tryd.func26, Tryd.ntmps26
    go_wp2_with (go_at_call 28; refine (len_nil _).mono ?_; rintro e w1 ⟨rfl, rfl⟩)
    try rw [Exit.noGoto_ret]
    go_ret
    exact ⟨rfl, rfl⟩
set_option maxHeartbeats 8000000 in
theorem take_out {l : List ByteArray} (h : NAt w p v l) (i : Int) (hi : i < 0 ∨ (l.length : Int) ≤ i) : Calls Tryd.prog 21 #[.pointer (some ⟨p, 0, none⟩), .int .i64 i] w fun e w' => e = .returned (.tuple #[.agg #[.int .i64 0, .int .i64 0, .int .i64 0, .int .u32 0, .int .u32 0, .int .u32 0, .int .u32 0, .int .i64 0, .int .i64 0, .int .u32 0, .int .u32 0, .int .u32 0, .int .u32 0, .int .u32 0, .int .u32 0, .int .u32 0, .int .u32 0, .string ⟨#[]⟩, .string ⟨#[]⟩, .string ⟨#[]⟩], .int .i64 7]) ∧ Below w.heap.size w w' := by
  have hal : Below w.heap.size w (w.alloc (.cells #[.int .i64 0, .int .i64 0, .int .i64 0, .int .u32 0, .int .u32 0, .int .u32 0, .int .u32 0, .int .i64 0, .int .i64 0, .int .u32 0, .int .u32 0, .int .u32 0, .int .u32 0, .int .u32 0, .int .u32 0, .int .u32 0, .int .u32 0, .string ⟨#[]⟩, .string ⟨#[]⟩, .string ⟨#[]⟩] 27)) := (Below.refl _ _).alloc (Nat.le_refl _) _
  have HZ : Hid (PAt (w.alloc (.cells #[.int .i64 0, .int .i64 0, .int .i64 0, .int .u32 0, .int .u32 0, .int .u32 0, .int .u32 0, .int .i64 0, .int .i64 0, .int .u32 0, .int .u32 0, .int .u32 0, .int .u32 0, .int .u32 0, .int .u32 0, .int .u32 0, .int .u32 0, .string ⟨#[]⟩, .string ⟨#[]⟩, .string ⟨#[]⟩] 27)) w.heap.size Pk.zero) := Lib.hid (PAt.alloc w Pk.zero)
  have HB1 := Lib.hid hal
  have HN := Lib.hid (h.below hal)
  have HI := Lib.hid hi
  clear h hi
  obtain ⟨w2, hr2, hp2, hf2⟩ := HZ.out.store Pk.zero
  have HST := Lib.hid hr2
  have HP2 := Lib.hid hp2
  have HB2 : Hid (Below w.heap.size w w2) := Lib.hid (HB1.out.trans (hf2.below HB1.out.size (fun k hk => by have e : k = w.heap.size := hk; omega)))
  clear hr2 hp2 hf2 hal
  go_enter Tryd.func21, Tryd.ntmps21
  go_wp2_with (first | (go_at_call 29; refine (at_out HN.out i HI.out).mono ?_; rintro e w1 ⟨rfl, rfl⟩) | (go_at_call 23; refine (drop_out HN.out i HI.out).mono ?_; rintro e w1 ⟨rfl, rfl⟩) | ((with_reducible refine gate_store (p := 4) rfl ?_); refine wpList_none rfl rfl (execOp_store rfl rfl rfl HST.out) ?_))
  refine bodyPost_ret (res_cell2 (fn := Tryd.f21) (a := 4) (b := 5) (t := 27) rfl rfl HP2.out.loadVar) rfl ?_
  exact ⟨rfl, HB2.out⟩
set_option maxHeartbeats 8000000 in
theorem take_nil (i : Int) (w : World) : Calls Tryd.prog 21 #[.pointer none, .int .i64 i] w fun e w' => e = .returned (.tuple #[.agg #[.int .i64 0, .int .i64 0, .int .i64 0, .int .u32 0, .int .u32 0, .int .u32 0, .int .u32 0, .int .i64 0, .int .i64 0, .int .u32 0, .int .u32 0, .int .u32 0, .int .u32 0, .int .u32 0, .int .u32 0, .int .u32 0, .int .u32 0, .string ⟨#[]⟩, .string ⟨#[]⟩, .string ⟨#[]⟩], .int .i64 7]) ∧ Below w.heap.size w w' := by
  have hal : Below w.heap.size w (w.alloc (.cells #[.int .i64 0, .int .i64 0, .int .i64 0, .int .u32 0, .int .u32 0, .int .u32 0, .int .u32 0, .int .i64 0, .int .i64 0, .int .u32 0, .int .u32 0, .int .u32 0, .int .u32 0, .int .u32 0, .int .u32 0, .int .u32 0, .int .u32 0, .string ⟨#[]⟩, .string ⟨#[]⟩, .string ⟨#[]⟩] 27)) := (Below.refl _ _).alloc (Nat.le_refl _) _
  have HZ : Hid (PAt (w.alloc (.cells #[.int .i64 0, .int .i64 0, .int .i64 0, .int .u32 0, .int .u32 0, .int .u32 0, .int .u32 0, .int .i64 0, .int .i64 0, .int .u32 0, .int .u32 0, .int .u32 0, .int .u32 0, .int .u32 0, .int .u32 0, .int .u32 0, .int .u32 0, .string ⟨#[]⟩, .string ⟨#[]⟩, .string ⟨#[]⟩] 27)) w.heap.size Pk.zero) := Lib.hid (PAt.alloc w Pk.zero)
  have HB1 := Lib.hid hal
  obtain ⟨w2, hr2, hp2, hf2⟩ := HZ.out.store Pk.zero
  have HST := Lib.hid hr2
  have HP2 := Lib.hid hp2
  have HB2 : Hid (Below w.heap.size w w2) := Lib.hid (HB1.out.trans (hf2.below HB1.out.size (fun k hk => by have e : k = w.heap.size := hk; omega)))
  clear hr2 hp2 hf2 hal
  go_enter Tryd.func21, Tryd.ntmps21
  go_wp2_with (first | (go_at_call 29; refine (at_nil i _).mono ?_; rintro e w1 ⟨rfl, rfl⟩) | (go_at_call 23; refine (drop_nil i _).mono ?_; rintro e w1 ⟨rfl, rfl⟩) | ((with_reducible refine gate_store (p := 4) rfl ?_); refine wpList_none rfl rfl (execOp_store rfl rfl rfl HST.out) ?_))
  refine bodyPost_ret (res_cell2 (fn := Tryd.f21) (a := 4) (b := 5) (t := 27) rfl rfl HP2.out.loadVar) rfl ?_
  exact ⟨rfl, HB2.out⟩
set_option maxHeartbeats 8000000 in
theorem take_in {l : List ByteArray} (h : NAt w p v l) (k : Nat) (hk : k < l.length) (s : Pk) (hs : s.OK) (hr : right s = true) (he : l[k] = s.bytes) : Calls Tryd.prog 21 #[.pointer (some ⟨p, 0, none⟩), .int .i64 (k : Int)] w fun e w' => e = .returned (.tuple #[.agg #[.int .i64 s.kind, .int .i64 s.fr, .int .i64 s.to, .int .u32 (s.life : Int), .int .u32 (s.seq : Int), .int .u32 (s.asked : Int), .int .u32 (s.boot : Int), .int .i64 s.code, .int .i64 s.err, .int .u32 (s.file : Int), .int .u32 (s.epoch : Int), .int .u32 (s.off : Int), .int .u32 (s.len : Int), .int .u32 (s.size : Int), .int .u32 (s.mode : Int), .int .u32 (s.deny : Int), .int .u32 (s.handle : Int), .string s.path, .string s.other, .string s.data], .int .i64 0]) ∧
    ∃ v', NAt w' p v' (l.take k ++ l.drop (k + 1)) ∧ Fr (foot p v) w w' ∧ (∀ j, v'.ownBlock = some j → v.ownBlock = some j ∨ w.heap.size ≤ j) := by
  have hal : Below w.heap.size w (w.alloc (.cells #[.int .i64 0, .int .i64 0, .int .i64 0, .int .u32 0, .int .u32 0, .int .u32 0, .int .u32 0, .int .i64 0, .int .i64 0, .int .u32 0, .int .u32 0, .int .u32 0, .int .u32 0, .int .u32 0, .int .u32 0, .int .u32 0, .int .u32 0, .string ⟨#[]⟩, .string ⟨#[]⟩, .string ⟨#[]⟩] 27)) := (Below.refl _ _).alloc (Nat.le_refl _) _
  have HZ : Hid (PAt (w.alloc (.cells #[.int .i64 0, .int .i64 0, .int .i64 0, .int .u32 0, .int .u32 0, .int .u32 0, .int .u32 0, .int .i64 0, .int .i64 0, .int .u32 0, .int .u32 0, .int .u32 0, .int .u32 0, .int .u32 0, .int .u32 0, .int .u32 0, .int .u32 0, .string ⟨#[]⟩, .string ⟨#[]⟩, .string ⟨#[]⟩] 27)) w.heap.size Pk.zero) := Lib.hid (PAt.alloc w Pk.zero)
  have HB1 := Lib.hid hal
  have HN := Lib.hid (h.below hal)
  have H0 := Lib.hid h
  have HK := Lib.hid hk
  have HS := Lib.hid hs
  have HR := Lib.hid hr
  have HE := Lib.hid he
  clear hs hr he h hal
  have hsz : (w.alloc (.cells #[.int .i64 0, .int .i64 0, .int .i64 0, .int .u32 0, .int .u32 0, .int .u32 0, .int .u32 0, .int .i64 0, .int .i64 0, .int .u32 0, .int .u32 0, .int .u32 0, .int .u32 0, .int .u32 0, .int .u32 0, .int .u32 0, .int .u32 0, .string ⟨#[]⟩, .string ⟨#[]⟩, .string ⟨#[]⟩] 27)).heap.size = w.heap.size + 1 := Array.size_push _
  have HSZ := Lib.hid hsz
  clear hsz
  go_enter Tryd.func21, Tryd.ntmps21
  go_wp2_with (first | (go_at_call 29; refine (at_in HN.out k HK.out).mono ?_; rintro e w1 ⟨rfl, rfl⟩; rw [HE.out]) | (go_at_call 23; refine (drop_in HN.out k HK.out).mono ?_; rintro e w2 ⟨rfl, h2⟩; have H2 := Lib.hid h2; clear h2))
  refine (read_back s HS.out HR.out _).mono ?_
  rintro e w3 ⟨rfl, hb3⟩
  obtain ⟨v2, hn2, hf2, ho2⟩ := H2.out
  have hz2 := HZ.out.keep hf2 (fun hk => by have := H0.out.lt _ hk; omega)
  obtain ⟨w4, hr4, hp4, hf4⟩ := (hz2.below hb3).store s
  have HST := Lib.hid hr4
  have HP4 := Lib.hid hp4
  have HPOST : Hid (NAt w4 p v2 (l.take k ++ l.drop (k + 1)) ∧ Fr (foot p v) w w4 ∧ ∀ j, v2.ownBlock = some j → v.ownBlock = some j ∨ w.heap.size ≤ j) := Lib.hid ⟨(hn2.below hb3).keep hf4 (fun j hj e => by
    have e' : j = w.heap.size := e
    have hs1 := HSZ.out
    rcases hj with hj | hj
    · have := H0.out.lt p (.inl rfl); omega
    · rcases ho2 j hj with h | h
      · have := H0.out.lt j (.inr h); omega
      · omega), ((((Fr.of_below (F := foot p v) HB1.out).trans hf2 (fun _ _ h => h)).trans (Fr.of_below (F := fun _ => False) hb3) (fun _ _ h => h.elim)).trans hf4 (fun j hj e => by have e' : j = w.heap.size := e; omega)), fun j hj => by
    have hs1 := HSZ.out
    rcases ho2 j hj with h | h
    · exact .inl h
    · exact .inr (by omega)⟩
  clear hn2 hf2 ho2 hz2 hr4 hp4 hf4 hb3 H2 HN HZ HB1 H0
  go_wp2_with ((with_reducible refine gate_store (p := 4) rfl ?_); refine wpList_none rfl rfl (execOp_store rfl rfl rfl HST.out) ?_)
  refine bodyPost_ret (res_cell2 (fn := Tryd.f21) (a := 4) (b := 5) (t := 27) rfl rfl HP4.out.loadVar) rfl ?_
  exact ⟨rfl, v2, HPOST.out⟩
end Go.Proofs.YtiedmkgdhfkcoaaDoor.Net
namespace Go.Proofs.YtiedmkgdhfkcoaaDoor.Net
open Go.RowKit Go.Own Go.Blk Go.OpsL Go.XdrL Go.PktL Go.Proofs.YtiedmkgdhfkcoaaDoor.Pkt Go.Proofs.YtiedmkgdhfkcoaaDoorW.PrintLast Go.Proofs.YtiedmkgdhfkcoaaDoorW.PrintWords
set_option linter.unusedVariables false
set_option linter.unusedSimpArgs false
set_option maxRecDepth 100000
variable {w w' : World} {m : Nat} {v : Value} {l : List Pk}
set_option maxHeartbeats 8000000 in
theorem without_calls (w : World) (h : partRow w 0 27 20 v (l).length (prow (l))) (hl : l.length ≤ 200) (k : Nat) (hk : k < l.length) : Calls Tryd.prog 47 #[v, .int .i64 (k : Int)] w fun e w' => ∃ u, e = .returned u ∧ partRow w' 0 27 20 u (l.take k ++ l.drop (k + 1)).length (prow (l.take k ++ l.drop (k + 1))) ∧ Below w.heap.size w w' ∧ ∀ j, u.ownBlock = some j → w.heap.size ≤ j := by
  obtain ⟨a, c, rfl, hnc, _⟩ := part_form h
  have hs1 := part_to20 h rfl k
  rw [prow_take] at hs1
  have h0 : partRow w 0 27 20 (.slice none 0 0) ([] : List Pk).length (prow []) := part_of_own (World.ownsRow_nil ..)
  have hlk : (l.take k).length = k := by rw [List.length_take]; omega
  obtain ⟨u1, w1, hr1, ho1, hg1, hat1⟩ := padds w h0 _ c (l.take k) hs1 (by simp) (by omega)
  have hb1 : Below w.heap.size w w1 := (Fr.grown (F := fun _ => False) hg1 (fun k hk => by simp [Value.ownBlock] at hk)).below (Nat.le_refl _) (fun k hk => hk.elim)
  have hs2 := Shows.below (part_from20 h rfl (k + 1)) hb1
  rw [prow_drop] at hs2
  have hld : (l.drop (k + 1)).length = l.length - (k + 1) := by rw [List.length_drop]
  rw [List.nil_append] at ho1
  obtain ⟨u2, w2, hr2, ho2, hg2, hat2⟩ := padds w1 ho1 _ (c - (k + 1)) (l.drop (k + 1)) hs2 (by omega) (by omega)
  have hf1 : ∀ j, u1.ownBlock = some j → w.heap.size ≤ j := fun j hj => by
    rcases hat1 with h | h
    · rw [h] at hj; simp [Value.ownBlock] at hj
    · rw [h] at hj; simp only [Option.some.injEq] at hj; omega
  have HPOST : Hid (partRow w2 0 27 20 u2 (l.take k ++ l.drop (k + 1)).length (prow (l.take k ++ l.drop (k + 1))) ∧ Below w.heap.size w w2 ∧ ∀ j, u2.ownBlock = some j → w.heap.size ≤ j) := Lib.hid ⟨ho2, hb1.trans ((Fr.grown (F := fun k => w.heap.size ≤ k) hg2 hf1).below hb1.size (fun k hk => hk)), fun j hj => by
    rcases hat2 with h | h
    · rw [h] at hj; exact hf1 j hj
    · rw [h] at hj; simp only [Option.some.injEq] at hj; have := hb1.size; omega⟩
  rw [hlk] at hr1
  rw [hld] at hr2
  have HR1 := Lib.hid hr1
  have HR2 := Lib.hid hr2
  have HT := Lib.hid (prun_to w a l.length c k (by omega))
  have HF := Lib.hid (prun_from w1 a l.length c (k + 1) (by omega))
  have e1 : IntKind.i64.wrap ((k : Int) + 1) = (k : Int) + 1 := by first | (rw [IntKind.wrap_i64] <;> omega) | skip
  generalize (if c = 0 then a else a.map (·.add (0 * 20))) = A1 at HR1 HT
  generalize (if c = k + 1 then a else a.map (·.add ((k + 1) * 20))) = A2 at HR2 HF
  have hlt : (l.take k ++ l.drop (k + 1)).length = l.length - 1 := by rw [List.length_append, hlk, hld]; omega
  have ho1' := ho1
  have ho2' := ho2
  rw [hlk] at ho1'
  rw [hlt] at ho2'
  obtain ⟨b1, c1, rfl, _⟩ := part_form ho1'
  obtain ⟨b2, c2, rfl, _⟩ := part_form ho2'
  clear hlt ho1' ho2'
  clear h hs1 h0 hr1 ho1 hg1 hat1 hb1 hs2 hr2 ho2 hg2 hat2 hf1 hlk hld
  go_enter Tryd.func47, Tryd.ntmps47
  go_wp2_with (first | ((with_reducible refine gate_dst (N := 9) rfl ?_); refine wpList_val rfl rfl (execOp_slice rfl rfl rfl rfl rfl (HT.out)) ?_; refine stop_here ?_))
  refine Lib.hid ?_
  go_wp2_with (first | ((with_reducible refine gate_dst (N := 10) rfl ?_); refine wpList_val rfl rfl (execOp_append rfl rfl rfl HR1.out) ?_; refine stop_here ?_))
  refine Lib.hid ?_
  go_wp2_with (first | ((with_reducible refine gate_dst (N := 15) rfl ?_); refine wpList_val rfl rfl (execOp_slice rfl rfl rfl rfl rfl (by first | exact HF.out | (have := HF.out; simpa using this))) ?_; refine stop_here ?_))
  refine Lib.hid ?_
  go_wp2_with (first | ((with_reducible refine gate_dst (N := 16) rfl ?_); refine wpList_val rfl rfl (execOp_append rfl rfl rfl (by first | exact HR2.out | (have := HR2.out; simpa using this))) ?_; refine stop_here ?_))
  refine Lib.hid ?_
  go_wp2
  go_ret
  exact ⟨_, rfl, HPOST.out⟩
set_option maxHeartbeats 16000000 in
theorem dsend_bad (h : MAt w m v l) (s : Pk) (hs : s.OK) (hr : right s = false) : Calls Tryd.prog 20 #[.pointer (some ⟨m, 0, none⟩), .agg #[.int .i64 s.kind, .int .i64 s.fr, .int .i64 s.to, .int .u32 (s.life : Int), .int .u32 (s.seq : Int), .int .u32 (s.asked : Int), .int .u32 (s.boot : Int), .int .i64 s.code, .int .i64 s.err, .int .u32 (s.file : Int), .int .u32 (s.epoch : Int), .int .u32 (s.off : Int), .int .u32 (s.len : Int), .int .u32 (s.size : Int), .int .u32 (s.mode : Int), .int .u32 (s.deny : Int), .int .u32 (s.handle : Int), .string s.path, .string s.other, .string s.data]] w fun e w' => e = .returned (.int .i64 1) ∧ Below w.heap.size w w' := by
  have hal : Below w.heap.size w (w.alloc (.cells #[.int .i64 s.kind, .int .i64 s.fr, .int .i64 s.to, .int .u32 (s.life : Int), .int .u32 (s.seq : Int), .int .u32 (s.asked : Int), .int .u32 (s.boot : Int), .int .i64 s.code, .int .i64 s.err, .int .u32 (s.file : Int), .int .u32 (s.epoch : Int), .int .u32 (s.off : Int), .int .u32 (s.len : Int), .int .u32 (s.size : Int), .int .u32 (s.mode : Int), .int .u32 (s.deny : Int), .int .u32 (s.handle : Int), .string s.path, .string s.other, .string s.data] 27)) := (Below.refl _ _).alloc (Nat.le_refl _) _
  have HAL := Lib.hid hal
  have HPA := Lib.hid (PAt.alloc w s)
  have HSO := Lib.hid hs
  have HN := Lib.hid h
  obtain ⟨a, c, rfl, hnc⟩ := part_form h.row
  have HR := Lib.hid hr
  clear hr
  clear hs hal h hnc
  go_enter Tryd.func20, Tryd.ntmps20
  go_wp2_with (first | ((with_reducible refine gate_dst (N := 5) rfl ?_); refine wpList_val rfl rfl (execOp_load rfl rfl HPA.out.load) ?_))
  refine (dright_any s HSO.out _).mono ?_
  rintro e w2 ⟨rfl, hb⟩
  rw [HR.out]
  have HB2 := Lib.hid (HAL.out.trans (hb.mono HAL.out.size))
  have H2 := Lib.hid (HN.out.below HB2.out)
  have HP2 := Lib.hid (HPA.out.below hb)
  clear hb HPA HN HAL
  obtain ⟨x0, y0⟩ := blk1 H2.out.blk
  go_wp2
  go_ret
  exact ⟨rfl, HB2.out⟩
set_option maxHeartbeats 16000000 in
theorem dsend_full (h : MAt w m v l) (s : Pk) (hs : s.OK) (hr : right s = true) (hf : l.length = 200) : Calls Tryd.prog 20 #[.pointer (some ⟨m, 0, none⟩), .agg #[.int .i64 s.kind, .int .i64 s.fr, .int .i64 s.to, .int .u32 (s.life : Int), .int .u32 (s.seq : Int), .int .u32 (s.asked : Int), .int .u32 (s.boot : Int), .int .i64 s.code, .int .i64 s.err, .int .u32 (s.file : Int), .int .u32 (s.epoch : Int), .int .u32 (s.off : Int), .int .u32 (s.len : Int), .int .u32 (s.size : Int), .int .u32 (s.mode : Int), .int .u32 (s.deny : Int), .int .u32 (s.handle : Int), .string s.path, .string s.other, .string s.data]] w fun e w' => e = .returned (.int .i64 6) ∧ Below w.heap.size w w' := by
  have hal : Below w.heap.size w (w.alloc (.cells #[.int .i64 s.kind, .int .i64 s.fr, .int .i64 s.to, .int .u32 (s.life : Int), .int .u32 (s.seq : Int), .int .u32 (s.asked : Int), .int .u32 (s.boot : Int), .int .i64 s.code, .int .i64 s.err, .int .u32 (s.file : Int), .int .u32 (s.epoch : Int), .int .u32 (s.off : Int), .int .u32 (s.len : Int), .int .u32 (s.size : Int), .int .u32 (s.mode : Int), .int .u32 (s.deny : Int), .int .u32 (s.handle : Int), .string s.path, .string s.other, .string s.data] 27)) := (Below.refl _ _).alloc (Nat.le_refl _) _
  have HAL := Lib.hid hal
  have HPA := Lib.hid (PAt.alloc w s)
  have HSO := Lib.hid hs
  have HN := Lib.hid h
  obtain ⟨a, c, rfl, hnc⟩ := part_form h.row
  have HR := Lib.hid hr
  have h4 : ((l.length : Int) = 200) := by omega
  clear hr
  clear hs hal h hnc
  go_enter Tryd.func20, Tryd.ntmps20
  go_wp2_with (first | ((with_reducible refine gate_dst (N := 5) rfl ?_); refine wpList_val rfl rfl (execOp_load rfl rfl HPA.out.load) ?_))
  refine (dright_any s HSO.out _).mono ?_
  rintro e w2 ⟨rfl, hb⟩
  rw [HR.out]
  have HB2 := Lib.hid (HAL.out.trans (hb.mono HAL.out.size))
  have H2 := Lib.hid (HN.out.below HB2.out)
  have HP2 := Lib.hid (HPA.out.below hb)
  clear hb HPA HN HAL
  obtain ⟨x0, y0⟩ := blk1 H2.out.blk
  go_wp2
  go_ret
  exact ⟨rfl, HB2.out⟩
set_option maxHeartbeats 16000000 in
theorem dsend_in (h : MAt w m v l) (s : Pk) (hs : s.OK) (hr : right s = true) (hf : l.length < 200) : Calls Tryd.prog 20 #[.pointer (some ⟨m, 0, none⟩), .agg #[.int .i64 s.kind, .int .i64 s.fr, .int .i64 s.to, .int .u32 (s.life : Int), .int .u32 (s.seq : Int), .int .u32 (s.asked : Int), .int .u32 (s.boot : Int), .int .i64 s.code, .int .i64 s.err, .int .u32 (s.file : Int), .int .u32 (s.epoch : Int), .int .u32 (s.off : Int), .int .u32 (s.len : Int), .int .u32 (s.size : Int), .int .u32 (s.mode : Int), .int .u32 (s.deny : Int), .int .u32 (s.handle : Int), .string s.path, .string s.other, .string s.data]] w fun e w' => e = .returned (.int .i64 0) ∧
    ∃ v', MAt w' m v' (l ++ [s]) ∧ Fr (foot m v) w w' ∧ (∀ j, v'.ownBlock = some j → v.ownBlock = some j ∨ w.heap.size ≤ j) := by
  have hal : Below w.heap.size w (w.alloc (.cells #[.int .i64 s.kind, .int .i64 s.fr, .int .i64 s.to, .int .u32 (s.life : Int), .int .u32 (s.seq : Int), .int .u32 (s.asked : Int), .int .u32 (s.boot : Int), .int .i64 s.code, .int .i64 s.err, .int .u32 (s.file : Int), .int .u32 (s.epoch : Int), .int .u32 (s.off : Int), .int .u32 (s.len : Int), .int .u32 (s.size : Int), .int .u32 (s.mode : Int), .int .u32 (s.deny : Int), .int .u32 (s.handle : Int), .string s.path, .string s.other, .string s.data] 27)) := (Below.refl _ _).alloc (Nat.le_refl _) _
  have HAL := Lib.hid hal
  have HPA := Lib.hid (PAt.alloc w s)
  have HSO := Lib.hid hs
  have HN := Lib.hid h
  obtain ⟨a, c, rfl, hnc⟩ := part_form h.row
  have HR := Lib.hid hr
  have HFEW := Lib.hid hf
  have h4 : ¬ ((l.length : Int) = 200) := by omega
  have h5 : ¬ (l.length = 200) := by omega
  clear hr
  clear hs hal h hnc
  go_enter Tryd.func20, Tryd.ntmps20
  go_wp2_with (first | ((with_reducible refine gate_dst (N := 5) rfl ?_); refine wpList_val rfl rfl (execOp_load rfl rfl HPA.out.load) ?_))
  refine (dright_any s HSO.out _).mono ?_
  rintro e w2 ⟨rfl, hb⟩
  rw [HR.out]
  have HB2 := Lib.hid (HAL.out.trans (hb.mono HAL.out.size))
  have H2 := Lib.hid (HN.out.below HB2.out)
  have HP2 := Lib.hid (HPA.out.below hb)
  clear hb HPA HN HAL
  obtain ⟨x0, y0⟩ := blk1 H2.out.blk
  go_wp2
  refine start_ (n := 11) (S := fun w' => w'.heap[m]? = some (.cells #[.slice a l.length c] 50 (0, 0)) ∧ PAt w' w.heap.size s) (ds := [7, 10]) #[false, false, false, false, false, false, false, false, false, false, false] (by kernel_rfl) rfl rfl (⟨(H2.out.below (Below.refl _ _).drew).blk, HP2.out.below (Below.refl _ _).drew⟩) (fun hHeld => ?_)
  have H3 := Lib.hid (H2.out.below (Below.refl _ _).drew)
  have HB3 := Lib.hid (HB2.out.trans ((Below.refl w2.heap.size w2).drew.mono HB2.out.size))
  have HX3 := Lib.hid (HP2.out.below (Below.refl _ _).drew)
  generalize w2.drew = w3 at H3 HB3 HX3 hHeld ⊢
  clear H2 HB2 HP2 x0 y0
  refine pure_ (i := 0) (N := some 14) (v := ?_) (a' := ?_) #[true, false, false, false, false, false, false, false, false, false, false] rfl rfl (by kernel_rfl) (fun _ _ _ h => h) (Or.inl ⟨by rfl, ?_⟩) ?_ ?_
  rotate_left
  · intro w'
    go_simp
    with_reducible rfl
  rotate_left
  · simp only [Act.put, List.setIfInBounds_toArray, List.set_cons_zero, List.set_cons_succ, i64_w, i32_w]
    rfl
  refine pure_ (i := 1) (N := some 15) (v := ?_) (a' := ?_) #[true, true, false, false, false, false, false, false, false, false, false] rfl rfl (by kernel_rfl) (fun _ _ _ h => h) (Or.inl ⟨by rfl, ?_⟩) ?_ ?_
  rotate_left
  · intro w'
    go_simp
    with_reducible rfl
  rotate_left
  · simp only [Act.put, List.setIfInBounds_toArray, List.set_cons_zero, List.set_cons_succ, i64_w, i32_w]
    rfl
  refine pure_ (i := 2) (N := some 16) (v := ?_) (a' := ?_) #[true, true, true, false, false, false, false, false, false, false, false] rfl rfl (by kernel_rfl) (fun _ _ _ h => h) (Or.inl ⟨by rfl, ?_⟩) ?_ ?_
  rotate_left
  · intro w'
    go_simp
    with_reducible rfl
  rotate_left
  · simp only [Act.put, List.setIfInBounds_toArray, List.set_cons_zero, List.set_cons_succ, i64_w, i32_w]
    rfl
  refine pure_ (i := 3) (N := some 17) (v := ?_) (a' := ?_) #[true, true, true, true, false, false, false, false, false, false, false] rfl rfl (by kernel_rfl) (fun _ _ _ h => h) (Or.inl ⟨by rfl, ?_⟩) ?_ ?_
  rotate_left
  · intro w'
    go_simp
    with_reducible rfl
  rotate_left
  · simp only [Act.put, List.setIfInBounds_toArray, List.set_cons_zero, List.set_cons_succ, i64_w, i32_w]
    rfl
  refine take_ (i := 4) (N := some 18) (v := ?_) (a' := ?_) #[true, true, true, true, true, false, false, false, false, false, false] rfl rfl (by kernel_rfl) (fun _ _ _ h => h) (Or.inl ⟨by rfl, ?_⟩) hHeld ?_ ?_
  rotate_left
  · intro w' hS
    obtain ⟨x0, y0⟩ := blk1 hS.1
    go_simp
    with_reducible rfl
  rotate_left
  · simp only [Act.put, List.setIfInBounds_toArray, List.set_cons_zero, List.set_cons_succ, i64_w, i32_w]
    rfl
  refine take_ (i := 5) (N := some 19) (v := .agg #[.int .i64 s.kind, .int .i64 s.fr, .int .i64 s.to, .int .u32 (s.life : Int), .int .u32 (s.seq : Int), .int .u32 (s.asked : Int), .int .u32 (s.boot : Int), .int .i64 s.code, .int .i64 s.err, .int .u32 (s.file : Int), .int .u32 (s.epoch : Int), .int .u32 (s.off : Int), .int .u32 (s.len : Int), .int .u32 (s.size : Int), .int .u32 (s.mode : Int), .int .u32 (s.deny : Int), .int .u32 (s.handle : Int), .string s.path, .string s.other, .string s.data]) (a' := ?_) #[true, true, true, true, true, true, false, false, false, false, false] rfl rfl (by kernel_rfl) (fun _ _ _ h => h) (yieldsIf_load_mid (by rfl) 27 (.tmp 3) rfl w.heap.size 0 rfl (pcells s) _ (fun w' hS j v hv => by rw [Nat.zero_add, cell_at hS.2]; simpa [pcells] using hv) Tryd.underlying27 rfl pk_info) hHeld ?_ ?_
  rotate_left
  · simp only [Act.put, List.setIfInBounds_toArray, List.set_cons_zero, List.set_cons_succ, i64_w, i32_w]
    rfl
  refine one_ (i := 6) (N := some 20) #[true, true, true, true, true, true, true, false, false, false, false] rfl rfl (by kernel_rfl) (by decide) (fun K hK => ?_)
  refine value_ (by rfl) rfl (execOp_buildSlice (ps := #[(0, .agg #[.int .i64 s.kind, .int .i64 s.fr, .int .i64 s.to, .int .u32 (s.life : Int), .int .u32 (s.seq : Int), .int .u32 (s.asked : Int), .int .u32 (s.boot : Int), .int .i64 s.code, .int .i64 s.err, .int .u32 (s.file : Int), .int .u32 (s.epoch : Int), .int .u32 (s.off : Int), .int .u32 (s.len : Int), .int .u32 (s.size : Int), .int .u32 (s.mode : Int), .int .u32 (s.deny : Int), .int .u32 (s.handle : Int), .string s.path, .string s.other, .string s.data])]) rfl rfl (run_oneP w3 s)) ?_
  have hb4 : Below w3.heap.size w3 (w3.alloc (.cells (pcells s).toArray 27)) := (Below.refl _ _).alloc (Nat.le_refl _) _
  have H4 := Lib.hid (H3.out.below hb4)
  have HS4 := Lib.hid (shows_oneP w3 s 27)
  have HB4 := Lib.hid (HB3.out.trans (hb4.mono HB3.out.size))
  clear hb4
  have HX4 := Lib.hid (HX3.out.below ((Below.refl w3.heap.size w3).alloc (Nat.le_refl _) (.cells (pcells s).toArray 27)))
  obtain ⟨N, hN⟩ : ∃ N, w3.heap.size = N := ⟨_, rfl⟩
  rw [hN] at HS4 ⊢
  clear hN
  generalize w3.alloc (.cells (pcells s).toArray 27) = w4 at H4 HS4 HB4 HX4 ⊢
  clear H3 HB3 HX3
  refine hK.out _ _ ⟨H4.out.blk, HX4.out⟩ (fun hHeld => ?_)
  clear hK K
  refine norm_ (a' := ?_) ?_ ?_
  rotate_left
  · show Act.put _ (some 20) _ = _
    simp only [Act.put, List.setIfInBounds_toArray, List.set_cons_zero, List.set_cons_succ, i64_w, i32_w]
    rfl
  refine last_ (i := 7) (N := some 21) #[true, true, true, true, true, true, true, true, false, false, false] rfl rfl (by kernel_rfl) (by decide) (fun K hK => ?_)
  obtain ⟨u5, w5, hr5, ho5, hg5, hat5⟩ := padds w4 H4.out.row (some ⟨N, 0, none⟩) 1 [s] HS4.out (by have := HFEW.out; omega) (by simp)
  refine value_ (by rfl) rfl (execOp_append rfl rfl rfl hr5) ?_
  clear hr5
  have HM5 := Lib.hid ((hg5.block m (lt_of H4.out.blk) (fun e => H4.out.off e.symm)).trans H4.out.blk)
  have HU5 : Hid (∀ j, u5.ownBlock = some j → (Value.slice a l.length c).ownBlock = some j ∨ w.heap.size ≤ j) := Lib.hid (fun j hj => by
    rcases hat5 with h | h
    · rw [h] at hj; exact .inl hj
    · rw [h] at hj; simp only [Option.some.injEq] at hj; have := HB4.out.size; exact .inr (by omega))
  have HF5 := Lib.hid ((Fr.of_below (F := foot m (.slice a l.length c)) HB4.out).trans (Fr.grown (F := foot m (.slice a l.length c)) hg5 (fun k hk => .inr hk)) (fun _ _ h => h))
  have HOFF : Hid (u5.ownBlock ≠ some m) := Lib.hid (fun e => by
    rcases hat5 with h | h
    · exact H4.out.off (h ▸ e)
    · rw [h] at e; simp only [Option.some.injEq] at e; have := lt_of H4.out.blk; omega)
  clear hg5 hat5
  rw [List.length_append, List.length_singleton] at ho5
  have HO5 := Lib.hid ho5
  obtain ⟨b5, c5, rfl, _⟩ := part_form ho5
  clear ho5
  refine hK.out _ _ ?_
  clear hK K
  refine norm_ (a' := ?_) ?_ ?_
  rotate_left
  · show Act.put _ (some 21) _ = _
    simp only [Act.put, List.setIfInBounds_toArray, List.set_cons_zero, List.set_cons_succ, i64_w, i32_w]
    rfl
  refine pure_ (i := 8) (N := some 22) (v := ?_) (a' := ?_) #[true, true, true, true, true, true, true, true, true, false, false] rfl rfl (by kernel_rfl) (fun _ _ _ h => h) (Or.inl ⟨by rfl, ?_⟩) ?_ ?_
  rotate_left
  · intro w'
    go_simp
    with_reducible rfl
  rotate_left
  · simp only [Act.put, List.setIfInBounds_toArray, List.set_cons_zero, List.set_cons_succ, i64_w, i32_w]
    rfl
  refine pure_ (i := 9) (N := some 23) (v := ?_) (a' := ?_) #[true, true, true, true, true, true, true, true, true, true, false] rfl rfl (by kernel_rfl) (fun _ _ _ h => h) (Or.inl ⟨by rfl, ?_⟩) ?_ ?_
  rotate_left
  · intro w'
    go_simp
    with_reducible rfl
  rotate_left
  · simp only [Act.put, List.setIfInBounds_toArray, List.set_cons_zero, List.set_cons_succ, i64_w, i32_w]
    rfl
  refine last_ (i := 10) (N := none) #[true, true, true, true, true, true, true, true, true, true, true] rfl rfl (by kernel_rfl) (by decide) (fun K hK => ?_)
  obtain ⟨z0, f0⟩ := blk1 HM5.out
  refine skip_ (w1 := ?_) (by rfl) rfl ?_ ?_
  rotate_left
  · go_simp
    rfl
  clear z0 f0
  refine hK.out _ _ ?_
  clear hK K
  refine done_ (by kernel_rfl) ?_
  have HPOST : Hid (MAt (w5.setCell ⟨m, 0, none⟩ (.slice b5 (l.length + 1) c5)) m (.slice b5 (l.length + 1) c5) (l ++ [s]) ∧ Fr (foot m (.slice a l.length c)) w (w5.setCell ⟨m, 0, none⟩ (.slice b5 (l.length + 1) c5))) := Lib.hid (by
    have hs : Fr (foot m (.slice a l.length c)) w5 (w5.setCell ⟨m, 0, none⟩ (.slice b5 (l.length + 1) c5)) := Fr.setCell w5 (p := ⟨m, 0, none⟩) (.inl rfl) _
    have hs' : Fr (fun k => k = m) w5 (w5.setCell ⟨m, 0, none⟩ (.slice b5 (l.length + 1) c5)) := Fr.setCell (F := fun k => k = m) w5 (p := ⟨m, 0, none⟩) rfl _
    exact ⟨⟨put1 HM5.out, (by rw [List.length_append, List.length_singleton]; exact hs'.part HO5.out (fun k hk e => HOFF.out (hk.trans (congrArg some e)))), HOFF.out, by have := HFEW.out; simp; omega⟩, HF5.out.trans hs (fun _ _ h => h)⟩)
  go_wp2
  go_ret
  exact ⟨rfl, _, HPOST.out.1, HPOST.out.2, HU5.out⟩
set_option maxHeartbeats 4000000 in
theorem ddouble_out (h : MAt w m v l) (i : Int) (hi : i < 0 ∨ (l.length : Int) ≤ i) : Calls Tryd.prog 25 #[.pointer (some ⟨m, 0, none⟩), .int .i64 i] w fun e w' => e = .returned (.int .i64 7) ∧ w' = w := by
  obtain ⟨a, c, rfl, hnc⟩ := part_form h.row
  obtain ⟨x0, y0⟩ := blk1 h.blk
  clear h hnc
  by_cases h1 : i < 0
  · go_enter Tryd.func25, Tryd.ntmps25
    go_wp2
    go_ret
    exact ⟨rfl, rfl⟩
  · have h2 : (l.length : Int) ≤ i := by omega
    go_enter Tryd.func25, Tryd.ntmps25
    go_wp2
    go_ret
    exact ⟨rfl, rfl⟩
set_option maxHeartbeats 16000000 in
theorem ddouble_full (h : MAt w m v l) (k : Nat) (hk : k < l.length) (hf : l.length = 200) : Calls Tryd.prog 25 #[.pointer (some ⟨m, 0, none⟩), .int .i64 (k : Int)] w fun e w' => e = .returned (.int .i64 6) ∧ w' = w := by
  obtain ⟨a, c, rfl, hnc⟩ := part_form h.row
  obtain ⟨x0, y0⟩ := blk1 h.blk
  have h1 : ¬ ((k : Int) < 0) := by omega
  have h2 : ¬ ((l.length : Int) ≤ (k : Int)) := by omega
  have h4 : ((l.length : Int) = 200) := by omega
  clear h hnc
  go_enter Tryd.func25, Tryd.ntmps25
  go_wp2
  go_ret
  exact ⟨rfl, rfl⟩
theorem part_rng {g c k : Nat} {s : Pk} (h : MAt w m (.slice (some ⟨g, 0, none⟩) l.length c) l) (hk : k < l.length) (he : l[k] = s) : w.rangeAt g (k * 20) (pcells s) := by
  subst he
  obtain ⟨g', c', e, hr⟩ := part_get h.row k hk
  cases e
  exact hr
set_option maxHeartbeats 16000000 in
theorem ddouble_in (h : MAt w m v l) (k : Nat) (hk : k < l.length) (s : Pk) (he : l[k] = s) (hf : l.length < 200) : Calls Tryd.prog 25 #[.pointer (some ⟨m, 0, none⟩), .int .i64 (k : Int)] w fun e w' => e = .returned (.int .i64 0) ∧
    ∃ v', MAt w' m v' (l ++ [s]) ∧ Fr (foot m v) w w' ∧ (∀ j, v'.ownBlock = some j → v.ownBlock = some j ∨ w.heap.size ≤ j) := by
  have H2 := Lib.hid h
  obtain ⟨g, c, rfl, _⟩ := part_get h.row k hk
  obtain ⟨a, ha⟩ : ∃ a, a = some (⟨g, 0, none⟩ : Addr) := ⟨_, rfl⟩
  have HB0 := Lib.hid (Below.refl w.heap.size w)
  obtain ⟨x0, y0⟩ := blk1 h.blk
  have HK := Lib.hid hk
  have HE := Lib.hid he
  have HFEW := Lib.hid hf
  have h1 : ¬ ((k : Int) < 0) := by omega
  have h2 : ¬ ((l.length : Int) ≤ (k : Int)) := by omega
  have h3 : ((k : Int) < (l.length : Int)) := by omega
  have h4 : ¬ ((l.length : Int) = 200) := by omega
  have h5 : ¬ (l.length = 200) := by omega
  clear h he
  go_enter Tryd.func25, Tryd.ntmps25
  go_wp2
  subst ha
  refine start_ (n := 17) (S := fun w' => w'.heap[m]? = some (.cells #[.slice (some ⟨g, 0, none⟩) l.length c] 50 (0, 0)) ∧ w'.rangeAt g (k * 20) (pcells s)) (ds := [13, 16]) #[false, false, false, false, false, false, false, false, false, false, false, false, false, false, false, false, false] (by kernel_rfl) rfl rfl (⟨(H2.out.below (Below.refl _ _).drew).blk, part_rng (H2.out.below (Below.refl _ _).drew) HK.out HE.out⟩) (fun hHeld => ?_)
  have H3 := Lib.hid (H2.out.below (Below.refl _ _).drew)
  have HB3 := Lib.hid ((Below.refl w.heap.size w).drew)
  generalize w.drew = w3 at H3 HB3 hHeld ⊢
  clear H2 x0 y0
  refine pure_ (i := 0) (N := some 22) (v := ?_) (a' := ?_) #[true, false, false, false, false, false, false, false, false, false, false, false, false, false, false, false, false] rfl rfl (by kernel_rfl) (fun _ _ _ h => h) (Or.inl ⟨by rfl, ?_⟩) ?_ ?_
  rotate_left
  · intro w'
    go_simp
    with_reducible rfl
  rotate_left
  · simp only [Act.put, List.setIfInBounds_toArray, List.set_cons_zero, List.set_cons_succ, i64_w, i32_w]
    rfl
  refine pure_ (i := 1) (N := some 23) (v := ?_) (a' := ?_) #[true, true, false, false, false, false, false, false, false, false, false, false, false, false, false, false, false] rfl rfl (by kernel_rfl) (fun _ _ _ h => h) (Or.inl ⟨by rfl, ?_⟩) ?_ ?_
  rotate_left
  · intro w'
    go_simp
    with_reducible rfl
  rotate_left
  · simp only [Act.put, List.setIfInBounds_toArray, List.set_cons_zero, List.set_cons_succ, i64_w, i32_w]
    rfl
  refine pure_ (i := 2) (N := some 24) (v := ?_) (a' := ?_) #[true, true, true, false, false, false, false, false, false, false, false, false, false, false, false, false, false] rfl rfl (by kernel_rfl) (fun _ _ _ h => h) (Or.inl ⟨by rfl, ?_⟩) ?_ ?_
  rotate_left
  · intro w'
    go_simp
    with_reducible rfl
  rotate_left
  · simp only [Act.put, List.setIfInBounds_toArray, List.set_cons_zero, List.set_cons_succ, i64_w, i32_w]
    rfl
  refine pure_ (i := 3) (N := some 25) (v := ?_) (a' := ?_) #[true, true, true, true, false, false, false, false, false, false, false, false, false, false, false, false, false] rfl rfl (by kernel_rfl) (fun _ _ _ h => h) (Or.inl ⟨by rfl, ?_⟩) ?_ ?_
  rotate_left
  · intro w'
    go_simp
    with_reducible rfl
  rotate_left
  · simp only [Act.put, List.setIfInBounds_toArray, List.set_cons_zero, List.set_cons_succ, i64_w, i32_w]
    rfl
  refine take_ (i := 4) (N := some 26) (v := ?_) (a' := ?_) #[true, true, true, true, true, false, false, false, false, false, false, false, false, false, false, false, false] rfl rfl (by kernel_rfl) (fun _ _ _ h => h) (Or.inl ⟨by rfl, ?_⟩) hHeld ?_ ?_
  rotate_left
  · intro w' hS
    obtain ⟨x0, y0⟩ := blk1 hS.1
    go_simp
    with_reducible rfl
  rotate_left
  · simp only [Act.put, List.setIfInBounds_toArray, List.set_cons_zero, List.set_cons_succ, i64_w, i32_w]
    rfl
  refine pure_ (i := 5) (N := some 27) (v := ?_) (a' := ?_) #[true, true, true, true, true, true, false, false, false, false, false, false, false, false, false, false, false] rfl rfl (by kernel_rfl) (fun _ _ _ h => h) (Or.inl ⟨by rfl, ?_⟩) ?_ ?_
  rotate_left
  · intro w'
    go_simp
    with_reducible rfl
  rotate_left
  · simp only [Act.put, List.setIfInBounds_toArray, List.set_cons_zero, List.set_cons_succ, i64_w, i32_w]
    rfl
  refine pure_ (i := 6) (N := some 28) (v := ?_) (a' := ?_) #[true, true, true, true, true, true, true, false, false, false, false, false, false, false, false, false, false] rfl rfl (by kernel_rfl) (fun _ _ _ h => h) (Or.inl ⟨by rfl, ?_⟩) ?_ ?_
  rotate_left
  · intro w'
    go_simp
    with_reducible rfl
  rotate_left
  · simp only [Act.put, List.setIfInBounds_toArray, List.set_cons_zero, List.set_cons_succ, i64_w, i32_w]
    rfl
  refine pure_ (i := 7) (N := some 29) (v := ?_) (a' := ?_) #[true, true, true, true, true, true, true, true, false, false, false, false, false, false, false, false, false] rfl rfl (by kernel_rfl) (fun _ _ _ h => h) (Or.inl ⟨by rfl, ?_⟩) ?_ ?_
  rotate_left
  · intro w'
    go_simp
    with_reducible rfl
  rotate_left
  · simp only [Act.put, List.setIfInBounds_toArray, List.set_cons_zero, List.set_cons_succ, i64_w, i32_w]
    rfl
  refine take_ (i := 8) (N := some 30) (v := ?_) (a' := ?_) #[true, true, true, true, true, true, true, true, true, false, false, false, false, false, false, false, false] rfl rfl (by kernel_rfl) (fun _ _ _ h => h) (Or.inl ⟨by rfl, ?_⟩) hHeld ?_ ?_
  rotate_left
  · intro w' hS
    obtain ⟨x0, y0⟩ := blk1 hS.1
    go_simp
    with_reducible rfl
  rotate_left
  · simp only [Act.put, List.setIfInBounds_toArray, List.set_cons_zero, List.set_cons_succ, i64_w, i32_w]
    rfl
  refine pure_ (i := 9) (N := some 31) (v := ?_) (a' := ?_) #[true, true, true, true, true, true, true, true, true, true, false, false, false, false, false, false, false] rfl rfl (by kernel_rfl) (fun _ _ _ h => h) (Or.inl ⟨by rfl, ?_⟩) ?_ ?_
  rotate_left
  · intro w'
    go_simp
    with_reducible rfl
  rotate_left
  · simp only [Act.put, List.setIfInBounds_toArray, List.set_cons_zero, List.set_cons_succ, i64_w, i32_w]
    rfl
  refine pure_ (i := 10) (N := some 32) (v := ?_) (a' := ?_) #[true, true, true, true, true, true, true, true, true, true, true, false, false, false, false, false, false] rfl rfl (by kernel_rfl) (fun _ _ _ h => h) (Or.inl ⟨by rfl, ?_⟩) ?_ ?_
  rotate_left
  · intro w'
    go_simp
    with_reducible rfl
  rotate_left
  · simp only [Act.put, List.setIfInBounds_toArray, List.set_cons_zero, List.set_cons_succ, i64_w, i32_w]
    rfl
  refine take_ (i := 11) (N := some 33) (v := .agg #[.int .i64 s.kind, .int .i64 s.fr, .int .i64 s.to, .int .u32 (s.life : Int), .int .u32 (s.seq : Int), .int .u32 (s.asked : Int), .int .u32 (s.boot : Int), .int .i64 s.code, .int .i64 s.err, .int .u32 (s.file : Int), .int .u32 (s.epoch : Int), .int .u32 (s.off : Int), .int .u32 (s.len : Int), .int .u32 (s.size : Int), .int .u32 (s.mode : Int), .int .u32 (s.deny : Int), .int .u32 (s.handle : Int), .string s.path, .string s.other, .string s.data]) (a' := ?_) #[true, true, true, true, true, true, true, true, true, true, true, true, false, false, false, false, false] rfl rfl (by kernel_rfl) (fun _ _ _ h => h) (yieldsIf_load_mid (by rfl) 27 (.tmp 32) rfl g (k * 20) rfl (pcells s) _ (fun w' hS => hS.2) Tryd.underlying27 rfl pk_info) hHeld ?_ ?_
  rotate_left
  · simp only [Act.put, List.setIfInBounds_toArray, List.set_cons_zero, List.set_cons_succ, i64_w, i32_w]
    rfl
  refine one_ (i := 12) (N := some 34) #[true, true, true, true, true, true, true, true, true, true, true, true, true, false, false, false, false] rfl rfl (by kernel_rfl) (by decide) (fun K hK => ?_)
  refine value_ (by rfl) rfl (execOp_buildSlice (ps := #[(0, .agg #[.int .i64 s.kind, .int .i64 s.fr, .int .i64 s.to, .int .u32 (s.life : Int), .int .u32 (s.seq : Int), .int .u32 (s.asked : Int), .int .u32 (s.boot : Int), .int .i64 s.code, .int .i64 s.err, .int .u32 (s.file : Int), .int .u32 (s.epoch : Int), .int .u32 (s.off : Int), .int .u32 (s.len : Int), .int .u32 (s.size : Int), .int .u32 (s.mode : Int), .int .u32 (s.deny : Int), .int .u32 (s.handle : Int), .string s.path, .string s.other, .string s.data])]) rfl rfl (run_oneP w3 s)) ?_
  have hb4 : Below w3.heap.size w3 (w3.alloc (.cells (pcells s).toArray 27)) := (Below.refl _ _).alloc (Nat.le_refl _) _
  have H4 := Lib.hid (H3.out.below hb4)
  have HS4 := Lib.hid (shows_oneP w3 s 27)
  have HB4 := Lib.hid (HB3.out.trans (hb4.mono HB3.out.size))
  clear hb4
  obtain ⟨N, hN⟩ : ∃ N, w3.heap.size = N := ⟨_, rfl⟩
  rw [hN] at HS4 ⊢
  clear hN
  generalize w3.alloc (.cells (pcells s).toArray 27) = w4 at H4 HS4 HB4 ⊢
  clear H3 HB3
  refine hK.out _ _ ⟨H4.out.blk, part_rng H4.out HK.out HE.out⟩ (fun hHeld => ?_)
  clear hK K
  refine norm_ (a' := ?_) ?_ ?_
  rotate_left
  · show Act.put _ (some 34) _ = _
    simp only [Act.put, List.setIfInBounds_toArray, List.set_cons_zero, List.set_cons_succ, i64_w, i32_w]
    rfl
  refine last_ (i := 13) (N := some 35) #[true, true, true, true, true, true, true, true, true, true, true, true, true, true, false, false, false] rfl rfl (by kernel_rfl) (by decide) (fun K hK => ?_)
  obtain ⟨u5, w5, hr5, ho5, hg5, hat5⟩ := padds w4 H4.out.row (some ⟨N, 0, none⟩) 1 [s] HS4.out (by have := HFEW.out; omega) (by simp)
  refine value_ (by rfl) rfl (execOp_append rfl rfl rfl hr5) ?_
  clear hr5
  have HM5 := Lib.hid ((hg5.block m (lt_of H4.out.blk) (fun e => H4.out.off e.symm)).trans H4.out.blk)
  have HU5 : Hid (∀ j, u5.ownBlock = some j → (Value.slice (some ⟨g, 0, none⟩) l.length c).ownBlock = some j ∨ w.heap.size ≤ j) := Lib.hid (fun j hj => by
    rcases hat5 with h | h
    · rw [h] at hj; exact .inl hj
    · rw [h] at hj; simp only [Option.some.injEq] at hj; have := HB4.out.size; exact .inr (by omega))
  have HF5 := Lib.hid ((Fr.of_below (F := foot m (.slice (some ⟨g, 0, none⟩) l.length c)) HB4.out).trans (Fr.grown (F := foot m (.slice (some ⟨g, 0, none⟩) l.length c)) hg5 (fun k hk => .inr hk)) (fun _ _ h => h))
  have HOFF : Hid (u5.ownBlock ≠ some m) := Lib.hid (fun e => by
    rcases hat5 with h | h
    · exact H4.out.off (h ▸ e)
    · rw [h] at e; simp only [Option.some.injEq] at e; have := lt_of H4.out.blk; omega)
  clear hg5 hat5
  rw [List.length_append, List.length_singleton] at ho5
  have HO5 := Lib.hid ho5
  obtain ⟨b5, c5, rfl, _⟩ := part_form ho5
  clear ho5
  refine hK.out _ _ ?_
  clear hK K
  refine norm_ (a' := ?_) ?_ ?_
  rotate_left
  · show Act.put _ (some 35) _ = _
    simp only [Act.put, List.setIfInBounds_toArray, List.set_cons_zero, List.set_cons_succ, i64_w, i32_w]
    rfl
  refine pure_ (i := 14) (N := some 36) (v := ?_) (a' := ?_) #[true, true, true, true, true, true, true, true, true, true, true, true, true, true, true, false, false] rfl rfl (by kernel_rfl) (fun _ _ _ h => h) (Or.inl ⟨by rfl, ?_⟩) ?_ ?_
  rotate_left
  · intro w'
    go_simp
    with_reducible rfl
  rotate_left
  · simp only [Act.put, List.setIfInBounds_toArray, List.set_cons_zero, List.set_cons_succ, i64_w, i32_w]
    rfl
  refine pure_ (i := 15) (N := some 37) (v := ?_) (a' := ?_) #[true, true, true, true, true, true, true, true, true, true, true, true, true, true, true, true, false] rfl rfl (by kernel_rfl) (fun _ _ _ h => h) (Or.inl ⟨by rfl, ?_⟩) ?_ ?_
  rotate_left
  · intro w'
    go_simp
    with_reducible rfl
  rotate_left
  · simp only [Act.put, List.setIfInBounds_toArray, List.set_cons_zero, List.set_cons_succ, i64_w, i32_w]
    rfl
  refine last_ (i := 16) (N := none) #[true, true, true, true, true, true, true, true, true, true, true, true, true, true, true, true, true] rfl rfl (by kernel_rfl) (by decide) (fun K hK => ?_)
  obtain ⟨z0, f0⟩ := blk1 HM5.out
  refine skip_ (w1 := ?_) (by rfl) rfl ?_ ?_
  rotate_left
  · go_simp
    rfl
  clear z0 f0
  refine hK.out _ _ ?_
  clear hK K
  refine done_ (by kernel_rfl) ?_
  have HPOST : Hid (MAt (w5.setCell ⟨m, 0, none⟩ (.slice b5 (l.length + 1) c5)) m (.slice b5 (l.length + 1) c5) (l ++ [s]) ∧ Fr (foot m (.slice (some ⟨g, 0, none⟩) l.length c)) w (w5.setCell ⟨m, 0, none⟩ (.slice b5 (l.length + 1) c5))) := Lib.hid (by
    have hs : Fr (foot m (.slice (some ⟨g, 0, none⟩) l.length c)) w5 (w5.setCell ⟨m, 0, none⟩ (.slice b5 (l.length + 1) c5)) := Fr.setCell w5 (p := ⟨m, 0, none⟩) (.inl rfl) _
    have hs' : Fr (fun k => k = m) w5 (w5.setCell ⟨m, 0, none⟩ (.slice b5 (l.length + 1) c5)) := Fr.setCell (F := fun k => k = m) w5 (p := ⟨m, 0, none⟩) rfl _
    exact ⟨⟨put1 HM5.out, (by rw [List.length_append, List.length_singleton]; exact hs'.part HO5.out (fun k hk e => HOFF.out (hk.trans (congrArg some e)))), HOFF.out, by have := HFEW.out; simp; omega⟩, HF5.out.trans hs (fun _ _ h => h)⟩)
  go_wp2
  go_ret
  exact ⟨rfl, _, HPOST.out.1, HPOST.out.2, HU5.out⟩
end Go.Proofs.YtiedmkgdhfkcoaaDoor.Net
namespace Go.Proofs.YtiedmkgdhfkcoaaDoor.Net
open Go.RowKit Go.Own Go.Blk Go.OpsL Go.XdrL Go.PktL Go.Proofs.YtiedmkgdhfkcoaaDoor.Pkt Go.Proofs.YtiedmkgdhfkcoaaDoorW.PrintLast Go.Proofs.YtiedmkgdhfkcoaaDoorW.PrintWords
set_option linter.unusedVariables false
set_option linter.unusedSimpArgs false
set_option maxRecDepth 100000
variable {w w' : World} {m : Nat} {v : Value} {l : List Pk}
set_option maxHeartbeats 8000000 in
theorem dtake_out (h : MAt w m v l) (i : Int) (hi : i < 0 ∨ (l.length : Int) ≤ i) : Calls Tryd.prog 22 #[.pointer (some ⟨m, 0, none⟩), .int .i64 i] w fun e w' => e = .returned (.tuple #[.agg #[.int .i64 0, .int .i64 0, .int .i64 0, .int .u32 0, .int .u32 0, .int .u32 0, .int .u32 0, .int .i64 0, .int .i64 0, .int .u32 0, .int .u32 0, .int .u32 0, .int .u32 0, .int .u32 0, .int .u32 0, .int .u32 0, .int .u32 0, .string ⟨#[]⟩, .string ⟨#[]⟩, .string ⟨#[]⟩], .int .i64 7]) ∧ Below w.heap.size w w' := by
  have hal : Below w.heap.size w (w.alloc (.cells #[.int .i64 0, .int .i64 0, .int .i64 0, .int .u32 0, .int .u32 0, .int .u32 0, .int .u32 0, .int .i64 0, .int .i64 0, .int .u32 0, .int .u32 0, .int .u32 0, .int .u32 0, .int .u32 0, .int .u32 0, .int .u32 0, .int .u32 0, .string ⟨#[]⟩, .string ⟨#[]⟩, .string ⟨#[]⟩] 27)) := (Below.refl _ _).alloc (Nat.le_refl _) _
  have hz : PAt (w.alloc (.cells #[.int .i64 0, .int .i64 0, .int .i64 0, .int .u32 0, .int .u32 0, .int .u32 0, .int .u32 0, .int .i64 0, .int .i64 0, .int .u32 0, .int .u32 0, .int .u32 0, .int .u32 0, .int .u32 0, .int .u32 0, .int .u32 0, .int .u32 0, .string ⟨#[]⟩, .string ⟨#[]⟩, .string ⟨#[]⟩] 27)) w.heap.size Pk.zero := PAt.alloc w Pk.zero
  obtain ⟨a, c, rfl, hnc⟩ := part_form h.row
  obtain ⟨x0, y0⟩ := blk1 (h.below hal).blk
  obtain ⟨w2, hr2, hp2, hf2⟩ := hz.store Pk.zero
  have HST := Lib.hid hr2
  have HP2 := Lib.hid hp2
  have HB2 : Hid (Below w.heap.size w w2) := Lib.hid (hal.trans (hf2.below hal.size (fun k hk => by have e : k = w.heap.size := hk; omega)))
  clear hr2 hp2 hf2 hal hz h hnc
  by_cases h1 : i < 0
  · go_enter Tryd.func22, Tryd.ntmps22
    go_wp2_with (first | ((with_reducible refine gate_store (p := 4) rfl ?_); refine wpList_none rfl rfl (execOp_store rfl rfl rfl HST.out) ?_))
    refine bodyPost_ret (res_cell2 (fn := Tryd.f22) (a := 4) (b := 5) (t := 27) rfl rfl HP2.out.loadVar) rfl ?_
    exact ⟨rfl, HB2.out⟩
  · have h2 : (l.length : Int) ≤ i := by omega
    go_enter Tryd.func22, Tryd.ntmps22
    go_wp2_with (first | ((with_reducible refine gate_store (p := 4) rfl ?_); refine wpList_none rfl rfl (execOp_store rfl rfl rfl HST.out) ?_))
    refine bodyPost_ret (res_cell2 (fn := Tryd.f22) (a := 4) (b := 5) (t := 27) rfl rfl HP2.out.loadVar) rfl ?_
    exact ⟨rfl, HB2.out⟩
set_option maxHeartbeats 16000000 in
theorem dtake_in (h : MAt w m v l) (k : Nat) (hk : k < l.length) (s : Pk) (he : l[k] = s) : Calls Tryd.prog 22 #[.pointer (some ⟨m, 0, none⟩), .int .i64 (k : Int)] w fun e w' => e = .returned (.tuple #[.agg #[.int .i64 s.kind, .int .i64 s.fr, .int .i64 s.to, .int .u32 (s.life : Int), .int .u32 (s.seq : Int), .int .u32 (s.asked : Int), .int .u32 (s.boot : Int), .int .i64 s.code, .int .i64 s.err, .int .u32 (s.file : Int), .int .u32 (s.epoch : Int), .int .u32 (s.off : Int), .int .u32 (s.len : Int), .int .u32 (s.size : Int), .int .u32 (s.mode : Int), .int .u32 (s.deny : Int), .int .u32 (s.handle : Int), .string s.path, .string s.other, .string s.data], .int .i64 0]) ∧
    ∃ v', MAt w' m v' (l.take k ++ l.drop (k + 1)) ∧ Fr (foot m v) w w' ∧ (∀ j, v'.ownBlock = some j → v.ownBlock = some j ∨ w.heap.size ≤ j) := by
  have hal : Below w.heap.size w (w.alloc (.cells #[.int .i64 0, .int .i64 0, .int .i64 0, .int .u32 0, .int .u32 0, .int .u32 0, .int .u32 0, .int .i64 0, .int .i64 0, .int .u32 0, .int .u32 0, .int .u32 0, .int .u32 0, .int .u32 0, .int .u32 0, .int .u32 0, .int .u32 0, .string ⟨#[]⟩, .string ⟨#[]⟩, .string ⟨#[]⟩] 27)) := (Below.refl _ _).alloc (Nat.le_refl _) _
  have hz : PAt (w.alloc (.cells #[.int .i64 0, .int .i64 0, .int .i64 0, .int .u32 0, .int .u32 0, .int .u32 0, .int .u32 0, .int .i64 0, .int .i64 0, .int .u32 0, .int .u32 0, .int .u32 0, .int .u32 0, .int .u32 0, .int .u32 0, .int .u32 0, .int .u32 0, .string ⟨#[]⟩, .string ⟨#[]⟩, .string ⟨#[]⟩] 27)) w.heap.size Pk.zero := PAt.alloc w Pk.zero
  obtain ⟨g, c, rfl, _⟩ := part_get h.row k hk
  have H0 := Lib.hid h
  have H1 := Lib.hid (h.below hal)
  have HSZ : Hid ((w.alloc (.cells #[.int .i64 0, .int .i64 0, .int .i64 0, .int .u32 0, .int .u32 0, .int .u32 0, .int .u32 0, .int .i64 0, .int .i64 0, .int .u32 0, .int .u32 0, .int .u32 0, .int .u32 0, .int .u32 0, .int .u32 0, .int .u32 0, .int .u32 0, .string ⟨#[]⟩, .string ⟨#[]⟩, .string ⟨#[]⟩] 27)).heap.size = w.heap.size + 1) := Lib.hid (Array.size_push _)
  have HB1 := Lib.hid hal
  have HZ1 := Lib.hid hz
  have HK := Lib.hid hk
  have HE := Lib.hid he
  have h1 : ¬ ((k : Int) < 0) := by omega
  have h2 : ¬ ((l.length : Int) ≤ (k : Int)) := by omega
  have h3 : ((k : Int) < (l.length : Int)) := by omega
  clear h hal hz he
  have hrg := part_rng H1.out HK.out HE.out
  have HLD := Lib.hid (run_loadP (w.alloc (.cells #[.int .i64 0, .int .i64 0, .int .i64 0, .int .u32 0, .int .u32 0, .int .u32 0, .int .u32 0, .int .i64 0, .int .i64 0, .int .u32 0, .int .u32 0, .int .u32 0, .int .u32 0, .int .u32 0, .int .u32 0, .int .u32 0, .int .u32 0, .string ⟨#[]⟩, .string ⟨#[]⟩, .string ⟨#[]⟩] 27)) g (k * 20) s hrg)
  obtain ⟨w2, hr2, hp2, hb2⟩ := fresh_pk (w.alloc (.cells #[.int .i64 0, .int .i64 0, .int .i64 0, .int .u32 0, .int .u32 0, .int .u32 0, .int .u32 0, .int .i64 0, .int .i64 0, .int .u32 0, .int .u32 0, .int .u32 0, .int .u32 0, .int .u32 0, .int .u32 0, .int .u32 0, .int .u32 0, .string ⟨#[]⟩, .string ⟨#[]⟩, .string ⟨#[]⟩] 27)) s
  rw [HSZ.out] at hr2 hp2
  have HST2 := Lib.hid hr2
  have HP2 := Lib.hid hp2
  have HB2 := Lib.hid hb2
  clear hr2 hp2 hb2 hrg
  have H2 := Lib.hid (H1.out.below HB2.out)
  obtain ⟨x0, y0⟩ := blk1 H1.out.blk
  go_enter Tryd.func22, Tryd.ntmps22
  go_wp2_with (first | ((with_reducible refine gate_dst (N := 25) rfl ?_); refine wpList_val rfl rfl (execOp_load rfl rfl HLD.out) ?_) | ((with_reducible refine gate_store (p := 6) rfl ?_); refine wpList_none rfl rfl (execOp_store rfl rfl rfl HST2.out) ?_; refine stop_here ?_))
  refine Lib.hid ?_
  clear x0 y0 HLD HST2
  obtain ⟨x0, y0⟩ := blk1 H2.out.blk
  go_wp2_with fail
  refine (without_calls _ H2.out.row H2.out.few k HK.out).mono ?_
  rintro e w3 ⟨u, rfl, ho, hb, hu⟩
  have HO := Lib.hid ho
  have HB3 := Lib.hid hb
  have HU := Lib.hid hu
  have HP3 := Lib.hid (HP2.out.below hb)
  have HZ3 := Lib.hid ((HZ1.out.below HB2.out).below hb)
  have HM3 := Lib.hid (H2.out.below hb)
  have hlt : (l.take k ++ l.drop (k + 1)).length = l.length - 1 := by have := HK.out; simp; omega
  have ho' := ho
  rw [hlt] at ho'
  obtain ⟨b3, c3, rfl, _⟩ := part_form ho'
  clear ho ho' hlt hb hu x0 y0
  obtain ⟨x0, y0⟩ := blk1 HM3.out.blk
  have hm0 := H0.out.lt m (.inl rfl)
  have hs : Fr (fun k => k = m) w3 (w3.setCell ⟨m, 0, none⟩ (.slice b3 (l.length - 1) c3)) := Fr.setCell (F := fun k => k = m) w3 (p := ⟨m, 0, none⟩) rfl _
  have HZ4 := Lib.hid (HZ3.out.keep hs (by omega))
  have HP4 := Lib.hid (HP3.out.keep hs (by have := HB1.out.size; omega))
  obtain ⟨w5, hr5, hp5, hf5⟩ := HZ4.out.store s
  have HST5 := Lib.hid hr5
  have HP5 := Lib.hid hp5
  have hm4 : MAt (w3.setCell ⟨m, 0, none⟩ (.slice b3 (l.length - 1) c3)) m (.slice b3 (l.length - 1) c3) (l.take k ++ l.drop (k + 1)) := by
    have hlt : ∀ j, (Value.slice b3 (l.length - 1) c3).ownBlock = some j → j ≠ m := fun j hj e => by
      have := HU.out j hj; have := HB2.out.size; have := HB1.out.size; omega
    exact ⟨put1 HM3.out.blk, hs.part HO.out (fun j hj e => hlt j hj e), fun e => hlt m e rfl, by have := H0.out.few; have := HK.out; simp; omega⟩
  have HPOST : Hid (MAt w5 m (.slice b3 (l.length - 1) c3) (l.take k ++ l.drop (k + 1)) ∧ Fr (foot m (.slice (some ⟨g, 0, none⟩) l.length c)) w w5 ∧ ∀ j, (Value.slice b3 (l.length - 1) c3).ownBlock = some j → (Value.slice (some ⟨g, 0, none⟩) l.length c).ownBlock = some j ∨ w.heap.size ≤ j) := Lib.hid (by
    have hs1 := HSZ.out
    have hs2 := HB2.out.size
    refine ⟨hm4.keep hf5 (fun j hj e => ?_), ?_, fun j hj => .inr (by have := HU.out j hj; omega)⟩
    · have e' : j = w.heap.size := e
      rcases hj with hj | hj
      · omega
      · have := HU.out j hj; omega
    · exact ((((Fr.of_below (F := foot m (.slice (some ⟨g, 0, none⟩) l.length c)) HB1.out).trans (Fr.of_below (F := fun _ => False) HB2.out) (fun _ _ h => h.elim)).trans (Fr.of_below (F := fun _ => False) HB3.out) (fun _ _ h => h.elim)).trans hs (fun j _ e => .inl e)).trans hf5 (fun j hj e => by have e' : j = w.heap.size := e; omega))
  clear hs hm4 hr5 hp5 hf5 HZ4 HZ3 HO HM3 HP3
  go_wp2_with (first | ((with_reducible refine gate_dst (N := 35) rfl ?_); refine wpList_val rfl rfl (execOp_load rfl rfl HP4.out.load) ?_) | ((with_reducible refine gate_store (p := 4) rfl ?_); refine wpList_none rfl rfl (execOp_store rfl rfl rfl HST5.out) ?_))
  refine bodyPost_ret (res_cell2 (fn := Tryd.f22) (a := 4) (b := 5) (t := 27) rfl rfl HP5.out.loadVar) rfl ?_
  exact ⟨rfl, _, HPOST.out⟩
set_option maxHeartbeats 4000000 in
theorem dmove_out (h : MAt w m v l) (i j : Int) (hi : i < 0 ∨ (l.length : Int) ≤ i) : Calls Tryd.prog 27 #[.pointer (some ⟨m, 0, none⟩), .int .i64 i, .int .i64 j] w fun e w' => e = .returned (.int .i64 7) ∧ w' = w := by
  obtain ⟨a, c, rfl, hnc⟩ := part_form h.row
  obtain ⟨x0, y0⟩ := blk1 h.blk
  clear h hnc
  by_cases h1 : i < 0
  · go_enter Tryd.func27, Tryd.ntmps27
    go_wp2
    go_ret
    exact ⟨rfl, rfl⟩
  · have h2 : (l.length : Int) ≤ i := by omega
    go_enter Tryd.func27, Tryd.ntmps27
    go_wp2
    go_ret
    exact ⟨rfl, rfl⟩
set_option maxHeartbeats 4000000 in
theorem dmove_bad (h : MAt w m v l) (k : Nat) (hk : k < l.length) (i : Int) (hi : i < 0 ∨ (l.length : Int) ≤ i) : Calls Tryd.prog 27 #[.pointer (some ⟨m, 0, none⟩), .int .i64 (k : Int), .int .i64 i] w fun e w' => e = .returned (.int .i64 1) ∧ w' = w := by
  obtain ⟨a, c, rfl, hnc⟩ := part_form h.row
  obtain ⟨x0, y0⟩ := blk1 h.blk
  have h3 : ¬ ((k : Int) < 0) := by omega
  have h4 : ¬ ((l.length : Int) ≤ (k : Int)) := by omega
  clear h hnc
  by_cases h1 : i < 0
  · go_enter Tryd.func27, Tryd.ntmps27
    go_wp2
    go_ret
    exact ⟨rfl, rfl⟩
  · have h2 : (l.length : Int) ≤ i := by omega
    go_enter Tryd.func27, Tryd.ntmps27
    go_wp2
    go_ret
    exact ⟨rfl, rfl⟩
def dmoved (l : List Pk) (i tt : Nat) (s : Pk) : List Pk := (l.take i ++ l.drop (i + 1)).take tt ++ [s] ++ (l.take i ++ l.drop (i + 1)).drop tt
set_option maxHeartbeats 16000000 in
theorem dmove_in (h : MAt w m v l) (i tt : Nat) (hi : i < l.length) (ht : tt < l.length) (s : Pk) (he : l[i] = s) : Calls Tryd.prog 27 #[.pointer (some ⟨m, 0, none⟩), .int .i64 (i : Int), .int .i64 (tt : Int)] w fun e w' => e = .returned (.int .i64 0) ∧
    ∃ v', MAt w' m v' (dmoved l i tt s) ∧ Fr (foot m v) w w' ∧ (∀ j, v'.ownBlock = some j → v.ownBlock = some j ∨ w.heap.size ≤ j) := by
  obtain ⟨g, c, rfl, _⟩ := part_get h.row i hi
  have H0 := Lib.hid h
  have HE := Lib.hid he
  have HI := Lib.hid hi
  have HT := Lib.hid ht
  have h1 : ¬ ((i : Int) < 0) := by omega
  have h2 : ¬ ((l.length : Int) ≤ (i : Int)) := by omega
  have h3 : ((i : Int) < (l.length : Int)) := by omega
  have h4 : ¬ ((tt : Int) < 0) := by omega
  have h5 : ¬ ((l.length : Int) ≤ (tt : Int)) := by omega
  clear h he
  have hrg := part_rng H0.out HI.out HE.out
  have HLD := Lib.hid (run_loadP w g (i * 20) s hrg)
  obtain ⟨w1, hr1, hp1, hb1⟩ := fresh_pk w s
  have HST1 := Lib.hid hr1
  have HP1 := Lib.hid hp1
  have HB1 := Lib.hid hb1
  clear hr1 hp1 hb1 hrg
  have H1 := Lib.hid (H0.out.below HB1.out)
  obtain ⟨x0, y0⟩ := blk1 H0.out.blk
  go_enter Tryd.func27, Tryd.ntmps27
  go_wp2_with (first | ((with_reducible refine gate_dst (N := 38) rfl ?_); refine wpList_val rfl rfl (execOp_load rfl rfl HLD.out) ?_) | ((with_reducible refine gate_store (p := 7) rfl ?_); refine wpList_none rfl rfl (execOp_store rfl rfl rfl HST1.out) ?_; refine stop_here ?_))
  refine Lib.hid ?_
  clear x0 y0 HLD HST1
  obtain ⟨x0, y0⟩ := blk1 H1.out.blk
  go_wp2_with fail
  refine (without_calls _ H1.out.row H1.out.few i HI.out).mono ?_
  rintro e w2 ⟨u, rfl, ho, hb, hu⟩
  have HB2 := Lib.hid (HB1.out.trans (hb.mono HB1.out.size))
  have HP2 := Lib.hid (HP1.out.below hb)
  have HM2 := Lib.hid (H1.out.below hb)
  clear x0 y0
  have hlen : (l.take i ++ l.drop (i + 1)).length = l.length - 1 := by have := HI.out; simp; omega
  have HSP : Hid (dmoved l i tt s = (l.take i ++ l.drop (i + 1)).take tt ++ [s] ++ (l.take i ++ l.drop (i + 1)).drop tt) := Lib.hid rfl
  generalize hL : l.take i ++ l.drop (i + 1) = L at ho hlen HSP
  clear hL
  obtain ⟨b2, c2, rfl, hnc2, _⟩ := part_form ho
  have htl : tt ≤ L.length := by have := HT.out; omega
  have hL2 : L.length ≤ 199 := by have := H0.out.few; have := HI.out; omega
  have hs1 := part_to20 ho rfl tt
  rw [prow_take] at hs1
  have h0 : partRow w2 0 27 20 (.slice none 0 0) ([] : List Pk).length (prow []) := part_of_own (World.ownsRow_nil ..)
  have hlt : (L.take tt).length = tt := by rw [List.length_take]; omega
  have hld : (L.drop tt).length = L.length - tt := by rw [List.length_drop]
  obtain ⟨u3, w3, hr3, ho3, hg3, hat3⟩ := padds w2 h0 _ c2 (L.take tt) hs1 (by simp) (by omega)
  rw [List.nil_append] at ho3
  have hb3 : Below w2.heap.size w2 w3 := (Fr.grown (F := fun _ => False) hg3 (fun k hk => by simp [Value.ownBlock] at hk)).below (Nat.le_refl _) (fun k hk => hk.elim)
  have hf3 : ∀ j, u3.ownBlock = some j → w2.heap.size ≤ j := fun j hj => by
    rcases hat3 with h | h
    · rw [h] at hj; simp [Value.ownBlock] at hj
    · rw [h] at hj; simp only [Option.some.injEq] at hj; omega
  have hb4 : Below w3.heap.size w3 (w3.alloc (.cells (pcells s).toArray 27)) := (Below.refl _ _).alloc (Nat.le_refl _) _
  have hr4 := run_oneP w3 s
  have hs4 := shows_oneP w3 s 27
  have ho4 : partRow (w3.alloc (.cells (pcells s).toArray 27)) 0 27 20 u3 (L.take tt).length (prow (L.take tt)) := (Fr.of_below (F := fun _ => False) hb4).part ho3 (fun _ _ => id)
  have HP3 := Lib.hid (HP2.out.below hb3)
  have hsz2 := HB2.out.size
  have hsz3 := hb3.size
  obtain ⟨N, hN⟩ : ∃ N, w3.heap.size = N := ⟨_, rfl⟩
  have hb4' := hb4
  rw [hN] at hs4 hr4 hsz3
  generalize w3.alloc (.cells (pcells s).toArray 27) = w4 at hb4 hb4' hr4 hs4 ho4
  have hsz4 := hb4'.size
  rw [hN] at hsz4
  obtain ⟨u5, w5, hr5, ho5, hg5, hat5⟩ := padds w4 ho4 (some ⟨N, 0, none⟩) 1 [s] hs4 (by omega) (by simp)
  have hf5 : ∀ j, u5.ownBlock = some j → w2.heap.size ≤ j := fun j hj => by
    rcases hat5 with h | h
    · rw [h] at hj; exact hf3 j hj
    · rw [h] at hj; simp only [Option.some.injEq] at hj; omega
  have hF5 : Fr (fun k => w2.heap.size ≤ k) w2 w5 := ((Fr.of_below (F := fun k => w2.heap.size ≤ k) hb3).trans (Fr.of_below (F := fun _ => False) hb4) (fun _ _ h => h.elim)).trans (Fr.grown (F := fun k => w2.heap.size ≤ k) hg5 hf3) (fun _ _ h => h)
  have hs6 := part_from20 (hF5.part ho (fun k hk h => by have := (ho.lt k hk).2; omega)) rfl tt
  rw [prow_drop] at hs6
  have hlt5 : (L.take tt ++ [s]).length = tt + 1 := by rw [List.length_append, hlt]; rfl
  obtain ⟨u6, w6, hr6, ho6, hg6, hat6⟩ := padds w5 ho5 _ (c2 - tt) (L.drop tt) hs6 (by omega) (by omega)
  have hf6 : ∀ j, u6.ownBlock = some j → w2.heap.size ≤ j := fun j hj => by
    rcases hat6 with h | h
    · rw [h] at hj; exact hf5 j hj
    · rw [h] at hj; simp only [Option.some.injEq] at hj; have := hF5.size; omega
  have hF6 : Fr (fun k => w2.heap.size ≤ k) w2 w6 := hF5.trans (Fr.grown (F := fun k => w2.heap.size ≤ k) hg6 hf5) (fun _ _ h => h)
  have hlt6 : (L.take tt ++ [s] ++ L.drop tt).length = L.length + 1 := by rw [List.length_append, hlt5, hld]; omega
  have HM6 := Lib.hid (HM2.out.keep hF6 (fun j hj h => by have := HM2.out.lt j hj; omega))
  rw [hlt] at hr3
  rw [hld] at hr6
  have ho3' := ho3
  have ho5' := ho5
  have ho6' := ho6
  rw [hlt] at ho3'
  rw [hlt5] at ho5'
  rw [hlt6] at ho6'
  obtain ⟨b3, c3, rfl, _⟩ := part_form ho3'
  obtain ⟨b5, c5, rfl, _⟩ := part_form ho5'
  obtain ⟨b6, c6, rfl, _⟩ := part_form ho6'
  have HR3 := Lib.hid hr3
  have HR4 := Lib.hid hr4
  have HR5 := Lib.hid hr5
  have HR6 := Lib.hid hr6
  have HTO := Lib.hid (prun_to w2 b2 L.length c2 tt (by omega))
  have HFR := Lib.hid (prun_from w5 b2 L.length c2 tt (by omega))
  generalize (if c2 = 0 then b2 else b2.map (·.add (0 * 20))) = A1 at HR3 HTO
  generalize (if c2 = tt then b2 else b2.map (·.add (tt * 20))) = A2 at HR6 HFR
  have hms : Fr (fun k => k = m) w6 (w6.setCell ⟨m, 0, none⟩ (.slice b6 (L.length + 1) c6)) := Fr.setCell (F := fun k => k = m) w6 (p := ⟨m, 0, none⟩) rfl _
  have hm2 := H0.out.lt m (.inl rfl)
  have hw1 := HB1.out.size
  have HPOST : Hid (MAt (w6.setCell ⟨m, 0, none⟩ (.slice b6 (L.length + 1) c6)) m (.slice b6 (L.length + 1) c6) (dmoved l i tt s) ∧ Fr (foot m (.slice (some ⟨g, 0, none⟩) l.length c)) w (w6.setCell ⟨m, 0, none⟩ (.slice b6 (L.length + 1) c6)) ∧ ∀ j, (Value.slice b6 (L.length + 1) c6).ownBlock = some j → (Value.slice (some ⟨g, 0, none⟩) l.length c).ownBlock = some j ∨ w.heap.size ≤ j) := Lib.hid (by
    refine ⟨⟨put1 HM6.out.blk, ?_, fun e => by have := hf6 m e; omega, by rw [HSP.out, hlt6]; omega⟩, ?_, fun j hj => .inr (by have := hf6 j hj; omega)⟩
    · rw [HSP.out]
      exact hms.part ho6 (fun j hj e => by have := hf6 j hj; omega)
    · exact ((Fr.of_below (F := foot m (.slice (some ⟨g, 0, none⟩) l.length c)) HB2.out).trans hF6 (fun j hj h => by omega)).trans hms (fun j _ e => .inl e))
  clear hlen HSP hms hf6 hF6 hF5 hf5 hf3 hb3 hb4 hb4' hs1 hs4 hs6 h0 ho hu hb ho3 ho4 ho5 ho6 ho3' ho5' ho6' hg3 hg5 hg6 hat3 hat5 hat6 hr3 hr4 hr5 hr6 hlt hld hlt5 hlt6 HM2 H1 HP2 HP1 HB2 HB1 H0 hsz2 hsz3 hsz4
  go_wp2_with ((with_reducible refine gate_dst (N := 48) rfl ?_); refine wpList_val rfl rfl (execOp_slice rfl rfl rfl rfl rfl (HTO.out)) ?_; refine stop_here ?_)
  refine Lib.hid ?_
  go_wp2_with ((with_reducible refine gate_dst (N := 49) rfl ?_); refine wpList_val rfl rfl (execOp_append rfl rfl rfl HR3.out) ?_; refine stop_here ?_)
  refine Lib.hid ?_
  go_wp2_with (first | ((with_reducible refine gate_dst (N := 51) rfl ?_); refine wpList_val rfl rfl (execOp_load rfl rfl HP3.out.load) ?_) | ((with_reducible refine gate_dst (N := 52) rfl ?_); refine wpList_val rfl rfl (execOp_buildSlice (ps := #[(0, .agg #[.int .i64 s.kind, .int .i64 s.fr, .int .i64 s.to, .int .u32 (s.life : Int), .int .u32 (s.seq : Int), .int .u32 (s.asked : Int), .int .u32 (s.boot : Int), .int .i64 s.code, .int .i64 s.err, .int .u32 (s.file : Int), .int .u32 (s.epoch : Int), .int .u32 (s.off : Int), .int .u32 (s.len : Int), .int .u32 (s.size : Int), .int .u32 (s.mode : Int), .int .u32 (s.deny : Int), .int .u32 (s.handle : Int), .string s.path, .string s.other, .string s.data])]) rfl rfl HR4.out) ?_; refine stop_here ?_))
  refine Lib.hid ?_
  go_wp2_with ((with_reducible refine gate_dst (N := 53) rfl ?_); refine wpList_val rfl rfl (execOp_append rfl rfl rfl HR5.out) ?_; refine stop_here ?_)
  refine Lib.hid ?_
  go_wp2_with ((with_reducible refine gate_dst (N := 57) rfl ?_); refine wpList_val rfl rfl (execOp_slice rfl rfl rfl rfl rfl (HFR.out)) ?_; refine stop_here ?_)
  refine Lib.hid ?_
  go_wp2_with ((with_reducible refine gate_dst (N := 58) rfl ?_); refine wpList_val rfl rfl (execOp_append rfl rfl rfl HR6.out) ?_; refine stop_here ?_)
  refine Lib.hid ?_
  obtain ⟨x0, y0⟩ := blk1 HM6.out.blk
  go_wp2
  go_ret
  exact ⟨rfl, _, HPOST.out⟩
end Go.Proofs.YtiedmkgdhfkcoaaDoor.Net
