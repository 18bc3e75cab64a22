/- Layer xdr: the reader's lists. -/
import Derived.Test.YtjmdjikjelhbmaaDoorXdrR
namespace Go.Proofs.YtjmdjikjelhbmaaDoor.Xdr
open Go.RowKit Go.Own Go.XdrL Go.Blk Go.OpsL Go.Proofs.YtjmdjikjelhbmaaDoorW.PrintLast Go.Proofs.YtjmdjikjelhbmaaDoorW.PrintWords
set_option linter.unusedVariables false
set_option linter.unusedSimpArgs false
variable {w w' : World} {p : Nat} {r : Rd}
def ucells (l : List Nat) : List Value := l.map fun x : Nat => Value.int .u32 (x : Int)
theorem run_one32 (w : World) (a : Int) : (Instr.buildSlice 37 1 #[(0, .int .u32 a)]).run Tryd.prog w = .ok (.slice (some ⟨w.heap.size, 0, none⟩) 1 1) (w.alloc (.cells #[.int .u32 a] 29)) := by kernel_rfl
theorem info_u32 : (Tryd.prog.info? 29).map (fun i => (i.zero, i.size, i.bytes)) = some (some (.int .u32 0), 1, 4) := by kernel_rfl
theorem info32_parts : ∃ i, Tryd.prog.info? 29 = some i ∧ i.zero = some (.int .u32 0) ∧ i.size = 1 ∧ i.bytes = 4 := by
  cases h : Tryd.prog.info? 29 with
  | none => have := info_u32; rw [h] at this; cases this
  | some i =>
    have := info_u32
    rw [h] at this
    simp only [Option.map_some, Option.some.injEq, Prod.mk.injEq] at this
    exact ⟨i, rfl, this.1, this.2.1, this.2.2⟩
/-- A number is put behind a row. -/
theorem add32 {B n : Nat} {v : Value} {l : List Nat} (h : w.ownsRow B 29 1 v n (ucells l)) (x : Nat) (hn : n ≤ 4294967296) (hB : B ≤ w.heap.size) :
    ∃ v' w', (Builtin.append_ #[37, 37] 37 #[v, .slice (some ⟨w.heap.size, 0, none⟩) 1 1]).run Tryd.prog (w.alloc (.cells #[.int .u32 (x : Int)] 29)) = .ok v' w' ∧ w'.ownsRow B 29 1 v' (n + 1) (ucells (l ++ [x])) ∧ Fr (fun k => v.ownBlock = some k) w w' := by
  have hl := (Fr.alloc (fun _ => False) w (.cells #[.int .u32 (x : Int)] 29)).row h (fun _ _ => id)
  have BN := alloc_at w (.cells #[.int .u32 (x : Int)] 29)
  obtain ⟨v', w3, hr, hown', hg', _, hat'⟩ := run_append_own_at (P := Tryd.prog) (w.alloc (.cells #[.int .u32 (x : Int)] 29)) B 37 37 29 info32_parts.choose _ 1 4 Tryd.underlying37 info32_parts.choose_spec.1 info32_parts.choose_spec.2.1 info32_parts.choose_spec.2.2.1 info32_parts.choose_spec.2.2.2 rfl (by omega) v n _ hl ⟨w.heap.size, 0, none⟩ 1 1 [.int .u32 (x : Int)] rfl (fun j u hu => by rw [Addr.add_mid, cell_of_row _ w.heap.size _ _ _ _ BN]; simpa using hu) (by intro u hu; simp only [List.mem_singleton] at hu; subst hu; rfl) (by unfold maxLen; omega) (by omega) (by have := (Fr.alloc (fun _ => False) w (.cells #[.int .u32 (x : Int)] 29)).size; omega)
  refine ⟨v', w3, hr, by rw [show ucells (l ++ [x]) = ucells l ++ [.int .u32 (x : Int)] by simp [ucells]]; exact hown', (Fr.alloc _ w _).trans (Fr.grown (F := fun k => v.ownBlock = some k) hg' (fun k hk => hk)) (fun _ _ h => h)⟩
set_option maxHeartbeats 4000000 in
theorem list_reads (h : RAt w p r) (most : Int) : Calls Tryd.prog 28 #[.pointer (some ⟨p, 0, none⟩), .int .i64 most] w fun e w' => (∃ v, e = .returned v ∧ w'.ownsRow w.heap.size 29 1 v (r.list most).1.length (ucells (r.list most).1)) ∧ Left p (r.list most).2 w w' := by
  have H := Lib.hid h
  by_cases he : r.e = 0
  · by_cases hs : r.s.size < 4
    · have e : r.list most = ([], r.fail 2) := by simp [Rd.list, he, hs]
      rw [e]
      clear h
      go_enter Tryd.func28, Tryd.ntmps28
      go_wp2
      refine wp_scope_once 0 rfl ?_
      go_wp2_with (first | (go_at_call 32; refine (err_ok H.out he).mono ?_; rintro e w1 ⟨rfl, rfl⟩) | (go_at_call 41; refine (peek_short H.out hs).mono ?_; rintro e w2 ⟨rfl, hb⟩; have H2 := Lib.hid (H.out.below hb); have HB := Lib.hid hb; clear hb; obtain ⟨x0, y0, x1, y1⟩ := H2.out.blk))
      go_step3
      refine And.intro rfl ?_
      show Code.wp _ _ _ _ _
      go_wp2
      try rw [Exit.noGoto_ret]
      go_ret
      have h3 := H2.out.fail 2
      exact ⟨⟨_, rfl, World.ownsRow_nil _ _ _ _⟩, h3.1, (Fr.of_below HB.out).trans h3.2 (fun _ _ h => h)⟩
    · have hm := h.2
      have hg := get4_lt r.s
      have HGE := Lib.hid (show 4 ≤ r.s.size by omega)
      by_cases hg1 : most < (get4 r.s : Int)
      · have e : r.list most = ([], r.fail 4) := by simp [Rd.list, he, hs, hg1]
        rw [e]
        clear h
        go_enter Tryd.func28, Tryd.ntmps28
        go_wp2
        refine wp_scope_once 0 rfl ?_
        go_wp2_with (first | (go_at_call 32; refine (err_ok H.out he).mono ?_; rintro e w1 ⟨rfl, rfl⟩) | (go_at_call 41; refine (peek_ok H.out HGE.out).mono ?_; rintro e w2 ⟨rfl, hb⟩; have H2 := Lib.hid (H.out.below hb); have HB := Lib.hid hb; clear hb; obtain ⟨x0, y0, x1, y1⟩ := H2.out.blk))
        go_step3
        refine And.intro rfl ?_
        show Code.wp _ _ _ _ _
        go_wp2
        try rw [Exit.noGoto_ret]
        go_ret
        have h3 := H2.out.fail 4
        exact ⟨⟨_, rfl, World.ownsRow_nil _ _ _ _⟩, h3.1, (Fr.of_below HB.out).trans h3.2 (fun _ _ h => h)⟩
      · by_cases hg2 : r.s.size < 4 + 4 * get4 r.s
        · have e : r.list most = ([], r.fail 2) := by simp [Rd.list, he, hs, hg1, hg2]
          rw [e]
          clear h
          go_enter Tryd.func28, Tryd.ntmps28
          go_wp2
          refine wp_scope_once 0 rfl ?_
          go_wp2_with (first | (go_at_call 32; refine (err_ok H.out he).mono ?_; rintro e w1 ⟨rfl, rfl⟩) | (go_at_call 41; refine (peek_ok H.out HGE.out).mono ?_; rintro e w2 ⟨rfl, hb⟩; have H2 := Lib.hid (H.out.below hb); have HB := Lib.hid hb; clear hb; obtain ⟨x0, y0, x1, y1⟩ := H2.out.blk))
          go_step3
          refine And.intro rfl ?_
          show Code.wp _ _ _ _ _
          go_wp2
          try rw [Exit.noGoto_ret]
          go_ret
          have h3 := H2.out.fail 2
          exact ⟨⟨_, rfl, World.ownsRow_nil _ _ _ _⟩, h3.1, (Fr.of_below HB.out).trans h3.2 (fun _ _ h => h)⟩
        · have e : r.list most = readNums (get4 r.s) (r.skip 4) := by simp [Rd.list, he, hs, hg1, hg2]
          rw [e]
          clear h
          generalize hn : get4 r.s = n at hg hg1 hg2 ⊢
          have HN := Lib.hid hn
          have HPK : Hid (Calls Tryd.prog 41 #[.pointer (some ⟨p, 0, none⟩), .int .i64 0] w fun e w' => e = .returned (.tuple #[.int .i64 (n : Int), .bool true]) ∧ Below w.heap.size w w') := by
            have := peek_ok H.out HGE.out
            rw [hn] at this
            exact this
          clear hn
          go_enter Tryd.func28, Tryd.ntmps28
          go_wp2
          go_step3
          go_wp2_with (first | (go_at_call 32; refine (err_ok H.out he).mono ?_; rintro e w1 ⟨rfl, rfl⟩) | (go_at_call 41; refine HPK.out.mono ?_; rintro e w2 ⟨rfl, hb⟩; have H2 := Lib.hid (H.out.below hb); have HB := Lib.hid hb; clear hb; obtain ⟨x0, y0, x1, y1⟩ := H2.out.blk))
          have H3 : Hid (Left p (r.skip 4) w (w2.setCell ⟨p, 0, none⟩ (.string (r.s.extract 4 r.s.size)))) := ⟨(H2.out.skip 4).1, (Fr.of_below HB.out).trans (H2.out.skip 4).2 (fun _ _ h => h)⟩
          clear x0 y0 x1 y1 H2
          generalize w2.setCell ⟨p, 0, none⟩ (.string (r.s.extract 4 r.s.size)) = w3 at H3 ⊢
          have HPL := Lib.hid (lt_of H.out.1)
          have HGG := Lib.hid hg
          go_loopw [5, 40] (fun s5 s40 wr => ∃ (k : Nat) (v : Value), s40 = .int .i64 k ∧ k ≤ n ∧ s5 = v ∧ Hid (wr.ownsRow w.heap.size 29 1 v k (ucells (readNums k (r.skip 4)).1)) ∧ Hid (Left p (readNums k (r.skip 4)).2 w wr)) (fun _ s40 _ => n - (intOf s40).toNat)
          case atStart => exact ⟨0, _, by simp, Nat.zero_le _, rfl, Lib.hid (World.ownsRow_nil _ _ _ _), H3⟩
          case round =>
            clear H3
            obtain ⟨k, v, rfl, hk, rfl, HO, HL⟩ := hrel
            obtain ⟨av, cv, rfl, _⟩ := row_form HO.out
            by_cases hlt : k < n
            · have HK := Lib.hid (readNums_succ k (r.skip 4))
              have HX := Lib.hid (number_reads HL.out.1)
              generalize (readNums k (r.skip 4)).2.number = q at HK HX
              go_wp2_with (first | (go_at_call 19; refine HX.out.mono ?_; rintro e w4 ⟨rfl, h4⟩; have H4 := Lib.hid h4; clear h4) | ((with_reducible refine gate_dst (N := 46) rfl ?_); refine stop_here ?_))
              refine Lib.hid ?_
              have HO4 := H4.out.2.row HO.out (fun j hj e => by have := (HO.out.lt j hj).1; have := HPL.out; omega)
              have hsz4 := (HL.out.2.trans H4.out.2 (fun _ _ h => h)).size
              obtain ⟨v', w5, hr, hO5, hF5⟩ := add32 HO4 q.1 (by have := HGG.out; omega) hsz4
              have HO5 := Lib.hid hO5
              have hnb : ∀ j, (Value.slice av k cv).ownBlock = some j → w.heap.size ≤ j := fun j hj => (HO.out.lt j hj).1
              have HL5 : Hid (Left p q.2 w w5) := ⟨H4.out.1.keep hF5 (fun hj => by have := hnb _ hj; have := HPL.out; omega), (HL.out.2.trans H4.out.2 (fun _ _ h => h)).trans hF5 (fun i hi hj => by have := hnb _ hj; omega)⟩
              refine wpList_val rfl rfl (execOp_append rfl rfl rfl hr) ?_
              clear hr hO5 hF5 hsz4 HO4 hnb
              go_wp2
              go_roundw
              case rel => exact ⟨k + 1, _, by simp, by omega, rfl, Lib.hid (by rw [HK.out]; exact HO5.out), Lib.hid (by rw [HK.out]; exact HL5.out)⟩
              case measure => simp [intOf]; omega
            · obtain rfl : k = n := by omega
              go_wp2
              try rw [Exit.noGoto_ret]
              go_ret
              exact ⟨⟨_, rfl, by rw [readNums_length]; exact HO.out⟩, HL.out⟩
  · have e : r.list most = ([], r) := by simp [Rd.list, he]
    rw [e]
    clear h
    have hi : ¬ (r.e : Int) = 0 := by omega
    go_enter Tryd.func28, Tryd.ntmps28
    go_wp2
    go_step3
    go_wp2_with (go_at_call 32; refine (err_calls H.out).mono ?_; rintro e w1 ⟨rfl, rfl⟩)
    try rw [Exit.noGoto_ret]
    go_ret
    exact ⟨⟨_, rfl, World.ownsRow_nil _ _ _ _⟩, H.out, Fr.refl _ _⟩
end Go.Proofs.YtjmdjikjelhbmaaDoor.Xdr
