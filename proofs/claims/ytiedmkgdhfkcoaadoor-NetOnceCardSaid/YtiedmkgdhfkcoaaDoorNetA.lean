/- Layer net: the net as the program keeps it: its row of strings; splice, Len. -/
import Derived.Test.YtiedmkgdhfkcoaaDoorPart
import Derived.Test.YtiedmkgdhfkcoaaDoorOps
import Derived.Test.YtiedmkgdhfkcoaaDoorPktAt
namespace Go.Proofs.YtiedmkgdhfkcoaaDoor.Net
open Go.RowKit Go.Own Go.Blk Go.OpsL Go.XdrL Go.Proofs.YtiedmkgdhfkcoaaDoorW.PrintLast Go.Proofs.YtiedmkgdhfkcoaaDoorW.PrintWords
set_option linter.unusedVariables false
set_option linter.unusedSimpArgs false
set_option maxRecDepth 100000
def scells (l : List ByteArray) : List Value := l.map Value.string
/-- A net in block p, its row's value v, its strings l. -/
structure NAt (w : World) (p : Nat) (v : Value) (l : List ByteArray) : Prop where
  blk : w.heap[p]? = some (.cells #[v] 46 (0, 0))
  row : partRow w 0 9 1 v l.length (scells l)
  off : v.ownBlock ≠ some p
  few : l.length ≤ 200
/-- The blocks that the net's own functions write. -/
def foot (p : Nat) (v : Value) (k : Nat) : Prop := k = p ∨ v.ownBlock = some k
variable {w w' : World} {p : Nat} {v : Value} {l : List ByteArray}
theorem NAt.keep {F : Nat → Prop} (h : NAt w p v l) (hf : Fr F w w') (hF : ∀ k, foot p v k → ¬ F k) : NAt w' p v l :=
  ⟨hf.at h.blk (hF p (.inl rfl)), hf.part h.row (fun k hk => hF k (.inr hk)), h.off, h.few⟩
theorem NAt.lt (h : NAt w p v l) : ∀ k, foot p v k → k < w.heap.size := fun k hk => by
  rcases hk with rfl | hk
  · exact (Array.getElem?_eq_some_iff.1 h.blk).1
  · exact (h.row.lt k hk).2
theorem NAt.below (h : NAt w p v l) (hb : Below w.heap.size w w') : NAt w' p v l :=
  h.keep (Fr.of_below (F := fun _ => False) hb) (fun _ _ => id)
theorem info_str : (Tryd.prog.info? 9).map (fun i => (i.zero, i.size, i.bytes)) = some (some (.string ⟨#[]⟩), 1, 16) := by kernel_rfl
theorem infoS : ∃ i, Tryd.prog.info? 9 = some i ∧ i.zero = some (.string ⟨#[]⟩) ∧ i.size = 1 ∧ i.bytes = 16 := by
  cases h : Tryd.prog.info? 9 with
  | none => have := info_str; rw [h] at this; cases this
  | some i =>
    have := info_str
    rw [h] at this
    simp only [Option.map_some, Option.some.injEq, Prod.mk.injEq] at this
    exact ⟨i, rfl, this.1, this.2.1, this.2.2⟩
/-- append of strings to a row of one's own. -/
theorem adds (w : World) {u : Value} {l : List ByteArray} (h : partRow w 0 9 1 u l.length (scells l)) (A : Option Addr) (c : Nat) (news : List ByteArray) (hA : Shows w A (scells news)) (hl : l.length ≤ 400) (hm : news.length ≤ 400) :
    ∃ u' w', (Builtin.append_ #[42, 42] 42 #[u, .slice A news.length c]).run Tryd.prog w = .ok u' w' ∧ partRow w' 0 9 1 u' (l ++ news).length (scells (l ++ news)) ∧ w.grownBy w' u.ownBlock ∧ (u'.ownBlock = u.ownBlock ∨ u'.ownBlock = some w.heap.size) := by
  have h1 : ∀ x ∈ scells news, x.oneCell' = true := fun x hx => by
    simp only [scells, List.mem_map] at hx
    obtain ⟨b, _, rfl⟩ := hx
    rfl
  have := run_append_part (P := Tryd.prog) w 0 42 42 9 infoS.choose _ 1 16 Tryd.underlying42 infoS.choose_spec.1 infoS.choose_spec.2.1 infoS.choose_spec.2.2.1 infoS.choose_spec.2.2.2 rfl (by omega) u l.length _ h A news.length c _ (by simp [scells]) hA h1 (by unfold maxLen; omega) (by omega) (Nat.zero_le _)
  simpa [scells] using this
theorem run_empty (w : World) : (Instr.buildSlice 42 0 #[]).run Tryd.prog w = .ok (.slice (some ⟨w.heap.size, 0, none⟩) 0 0) (w.alloc (.cells #[] 9)) :=
  run_buildSlice_none w _ _ _ Tryd.underlying42 infoS.choose_spec.1
theorem Shows.below {w w' : World} {A : Option Addr} {xs : List Value} (h : Shows w A xs) (hb : Below w.heap.size w w') : Shows w' A xs := by
  rcases h with h | ⟨a, rfl, h⟩
  · exact .inl h
  · refine .inr ⟨a, rfl, fun j u hj => ?_⟩
    have h1 := h j u hj
    have h2 := World.block_lt_of_cell? w _ h1
    rw [← h1]
    exact hb.cell h2
set_option maxHeartbeats 4000000 in
theorem len_calls (h : NAt w p v l) : Calls Tryd.prog 28 #[.pointer (some ⟨p, 0, none⟩)] w fun e w' => e = .returned (.int .i64 l.length) ∧ w' = w := by
  have HB := Lib.hid h.blk
  obtain ⟨a, c, rfl, hc⟩ := part_form h.row
  clear h
  obtain ⟨x0, y0⟩ := blk1 HB.out
  go_enter Tryd.func28, Tryd.ntmps28
  go_wp2
  try rw [Exit.noGoto_ret]
  go_ret
  exact ⟨rfl, rfl⟩
theorem len_nil (w : World) : Calls Tryd.prog 28 #[.pointer none] w fun e w' => e = .returned (.int .i64 0) ∧ w' = w := by
  go_enter Tryd.func28, Tryd.ntmps28
  go_wp2
  try rw [Exit.noGoto_ret]
  go_ret
  exact ⟨rfl, rfl⟩
/-- A string of the row. -/
theorem NAt.cell (h : NAt w p v l) (k : Nat) (hk : k < l.length) : ∃ g c, v = .slice (some ⟨g, 0, none⟩) l.length c ∧ w.cell? ⟨g, k, none⟩ = some (.string l[k]) := by
  rcases h.row.2 with ⟨_, h0⟩ | ⟨g, c, cur, rfl, _⟩
  · omega
  · refine ⟨g, c, rfl, ?_⟩
    have := h.row.cells (g := g) rfl k (.string l[k]) (by simp [scells, List.getElem?_eq_getElem hk])
    rw [Addr.add_mid] at this
    simpa using this
set_option maxHeartbeats 4000000 in
theorem at_in (h : NAt w p v l) (k : Nat) (hk : k < l.length) : Calls Tryd.prog 29 #[.pointer (some ⟨p, 0, none⟩), .int .i64 (k : Int)] w fun e w' => e = .returned (.string l[k]) ∧ w' = w := by
  have H := Lib.hid h
  obtain ⟨g, c, rfl, hc⟩ := h.cell k hk
  obtain ⟨x0, y0⟩ := blk1 h.blk
  clear h
  have h1 : ¬ ((k : Int) < 0) := by omega
  have h2 : ¬ ((l.length : Int) ≤ (k : Int)) := by omega
  have h3 : ((k : Int) < (l.length : Int)) := by omega
  go_enter Tryd.func29, Tryd.ntmps29
  go_wp2_with (go_at_call 28; refine (len_calls H.out).mono ?_; rintro e w1 ⟨rfl, rfl⟩)
  try rw [Exit.noGoto_ret]
  go_ret
  exact ⟨rfl, rfl⟩
set_option maxHeartbeats 4000000 in
theorem at_out (h : NAt w p v l) (i : Int) (hi : i < 0 ∨ (l.length : Int) ≤ i) : Calls Tryd.prog 29 #[.pointer (some ⟨p, 0, none⟩), .int .i64 i] w fun e w' => e = .returned (.string ⟨#[]⟩) ∧ w' = w := by
  have H := Lib.hid h
  clear h
  by_cases h1 : i < 0
  · go_enter Tryd.func29, Tryd.ntmps29
    go_wp2_with (go_at_call 28; refine (len_calls H.out).mono ?_; rintro e w1 ⟨rfl, rfl⟩)
    try rw [Exit.noGoto_ret]
    go_ret
    exact ⟨rfl, rfl⟩
  · have h2 : (l.length : Int) ≤ i := by omega
    go_enter Tryd.func29, Tryd.ntmps29
    go_wp2_with (go_at_call 28; refine (len_calls H.out).mono ?_; rintro e w1 ⟨rfl, rfl⟩)
    try rw [Exit.noGoto_ret]
    go_ret
    exact ⟨rfl, rfl⟩
end Go.Proofs.YtiedmkgdhfkcoaaDoor.Net
