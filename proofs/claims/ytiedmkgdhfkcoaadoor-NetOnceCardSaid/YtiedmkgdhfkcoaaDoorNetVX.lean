/- Layer net: the lists that NetOnce keeps: more, fewer. Layer net: a law's net beside the lists that NetOnce keeps. -/
import Derived.Test.YtiedmkgdhfkcoaaDoorNetU
import Derived.Test.YtiedmkgdhfkcoaaDoorPktDRead
namespace Go.Proofs.YtiedmkgdhfkcoaaDoor.Net
open Go.RowKit Go.Sees Go.Own Go.Blk Go.OpsL Go.XdrL Go.PktL Go.Proofs.YtiedmkgdhfkcoaaDoor.Pkt Go.Proofs.YtiedmkgdhfkcoaaDoorW.PrintLast Go.Proofs.YtiedmkgdhfkcoaaDoorW.PrintWords
set_option linter.unusedVariables false
set_option linter.unusedSimpArgs false
set_option maxRecDepth 100000
def icells (l : List Int) : List Value := l.map (Value.int .i64)
theorem info_int : (Tryd.prog.info? 3).map (fun i => (i.zero, i.size, i.bytes)) = some (some (.int .i64 0), 1, 8) := by kernel_rfl
theorem infoI : ∃ i, Tryd.prog.info? 3 = some i ∧ i.zero = some (.int .i64 0) ∧ i.size = 1 ∧ i.bytes = 8 := by
  cases h : Tryd.prog.info? 3 with
  | none => have := info_int; rw [h] at this; cases this
  | some i =>
    have := info_int
    rw [h] at this
    simp only [Option.map_some, Option.some.injEq, Prod.mk.injEq] at this
    exact ⟨i, rfl, this.1, this.2.1, this.2.2⟩
theorem iadds (w : World) {u : Value} {l : List Int} (h : partRow w 0 3 1 u (l).length (icells (l))) (A : Option Addr) (c : Nat) (news : List Int) (hA : Shows w A (icells news)) (hl : l.length ≤ 1000) (hm : news.length ≤ 1000) :
    ∃ u' w', (Builtin.append_ #[66, 66] 66 #[u, .slice A news.length c]).run Tryd.prog w = .ok u' w' ∧ partRow w' 0 3 1 u' (l ++ news).length (icells (l ++ news)) ∧ w.grownBy w' u.ownBlock ∧ (u'.ownBlock = u.ownBlock ∨ u'.ownBlock = some w.heap.size) := by
  obtain ⟨i, h1, h2, h3, h4⟩ := infoI
  have h0 : ∀ x ∈ icells news, x.oneCell' = true := fun x hx => by
    simp only [icells, List.mem_map] at hx
    obtain ⟨b, _, rfl⟩ := hx
    rfl
  have := run_append_part (P := Tryd.prog) w 0 66 66 3 i _ 1 8 Tryd.underlying66 h1 h2 h3 h4 rfl (by omega) u l.length _ h A news.length c _ (by simp [icells]) hA h0 (by unfold maxLen; omega) (by omega) (Nat.zero_le _)
  simpa [icells] using this
theorem run_oneI (w : World) : (Instr.buildSlice 66 1 #[(0, .int .i64 1)]).run Tryd.prog w = .ok (.slice (some ⟨w.heap.size, 0, none⟩) 1 1) (w.alloc (.cells #[.int .i64 1] 3)) := by kernel_rfl
theorem shows_oneI (w : World) : Shows (w.alloc (.cells #[.int .i64 1] 3)) (some ⟨w.heap.size, 0, none⟩) (icells [1]) := .inr ⟨_, rfl, cell_one_new w _ 3⟩
variable {w0 w w' : World} {p m : Nat} {L had : List Pk} {cn : List Int} {hv cv : Value}
theorem part_below {base : Nat} {e : TypeId} {size n : Nat} {v : Value} {xs : List Value} (h : partRow w base e size v n xs) (hb : Below w.heap.size w w') : partRow w' base e size v n xs := (Fr.of_below (F := fun _ => False) hb).part h (fun _ _ => id)
/-- A count is read. -/
theorem crow_get (h : partRow w 0 3 1 cv (cn).length (icells (cn))) (k : Nat) (hk : k < cn.length) : ∃ g c, cv = .slice (some ⟨g, 0, none⟩) cn.length c ∧ w.cell? ⟨g, k, none⟩ = some (.int .i64 cn[k]) ∧ w.frozen? ⟨g, k, none⟩ = false := by
  rcases h.2 with ⟨_, h0⟩ | ⟨g, c, cur, rfl, _, hg, _⟩
  · omega
  · refine ⟨g, c, rfl, ?_, free_at hg k⟩
    have := h.cells (g := g) rfl k (.int .i64 cn[k]) (by simp [icells, List.getElem?_eq_getElem hk])
    rw [Addr.add_mid] at this
    simpa using this
/-- A count is written. -/
theorem crow_set {g c : Nat} (h : partRow w 0 3 1 (.slice (some ⟨g, 0, none⟩) cn.length c) (cn).length (icells (cn))) (k : Nat) (hk : k < cn.length) (x : Int) : partRow (w.setCell ⟨g, k, none⟩ (.int .i64 x)) 0 3 1 (.slice (some ⟨g, 0, none⟩) cn.length c) (cn.set k x).length (icells (cn.set k x)) := by
  rw [List.length_set]
  refine ⟨by simp [icells], ?_⟩
  rcases h.2 with ⟨h1, h0⟩ | ⟨g', c', cur, h1, hb, hg, hn, hm, hs, ht⟩
  · cases h1
  · cases h1
    refine .inr ⟨g, c, cur.setIfInBounds k (.int .i64 x), rfl, hb, set_at hg k _, hn, hm, by rw [Array.size_setIfInBounds]; exact hs, ?_⟩
    rw [Array.toList_setIfInBounds, List.take_set, ht]
    simp [icells]
/-- What 'more' leaves. -/
def MoreP (had : List Pk) (cn : List Int) (s : Pk) (had' : List Pk) (cn' : List Int) : Prop :=
  (∃ i, had[i]? = some s ∧ had' = had ∧ cn' = cn.set i (cn.getD i 0 + 1)) ∨ (s ∉ had ∧ had' = had ++ [s] ∧ cn' = cn ++ [1])
set_option maxHeartbeats 16000000 in
theorem more_calls (hh : partRow w 0 27 20 hv (had).length (prow (had))) (hc : partRow w 0 3 1 cv (cn).length (icells (cn))) (hl : cn.length = had.length) (hf : had.length ≤ 390) (hne : ∀ k, hv.ownBlock = some k → cv.ownBlock ≠ some k) (hb : ∀ x ∈ cn, 0 ≤ x ∧ x ≤ 100000) (s : Pk) :
    Calls Tryd.prog 30 #[hv, cv, .agg #[.int .i64 s.kind, .int .i64 s.fr, .int .i64 s.to, .int .u32 (s.life : Int), .int .u32 (s.seq : Int), .int .u32 (s.asked : Int), .int .u32 (s.boot : Int), .int .i64 s.code, .int .i64 s.err, .int .u32 (s.file : Int), .int .u32 (s.epoch : Int), .int .u32 (s.off : Int), .int .u32 (s.len : Int), .int .u32 (s.size : Int), .int .u32 (s.mode : Int), .int .u32 (s.deny : Int), .int .u32 (s.handle : Int), .string s.path, .string s.other, .string s.data]] w fun e w' => ∃ hv' cv' had' cn', e = .returned (.tuple #[hv', cv']) ∧ MoreP had cn s had' cn' ∧ partRow w' 0 27 20 hv' (had').length (prow (had')) ∧ partRow w' 0 3 1 cv' (cn').length (icells (cn')) ∧ Fr (fun k => hv.ownBlock = some k ∨ cv.ownBlock = some k) w w' ∧
      (∀ k, hv'.ownBlock = some k → hv.ownBlock = some k ∨ w.heap.size ≤ k) ∧ (∀ k, cv'.ownBlock = some k → cv.ownBlock = some k ∨ w.heap.size ≤ k) ∧ ∀ k, hv'.ownBlock = some k → cv'.ownBlock ≠ some k := by
  have hal : Below w.heap.size w (w.alloc (.cells #[.int .i64 s.kind, .int .i64 s.fr, .int .i64 s.to, .int .u32 (s.life : Int), .int .u32 (s.seq : Int), .int .u32 (s.asked : Int), .int .u32 (s.boot : Int), .int .i64 s.code, .int .i64 s.err, .int .u32 (s.file : Int), .int .u32 (s.epoch : Int), .int .u32 (s.off : Int), .int .u32 (s.len : Int), .int .u32 (s.size : Int), .int .u32 (s.mode : Int), .int .u32 (s.deny : Int), .int .u32 (s.handle : Int), .string s.path, .string s.other, .string s.data] 27)) := (Below.refl _ _).alloc (Nat.le_refl _) _
  have HAL := Lib.hid hal
  have HPA := Lib.hid (PAt.alloc w s)
  have H0 := Lib.hid hh
  have C0 := Lib.hid hc
  have HL := Lib.hid hl
  have HF := Lib.hid hf
  have HNE := Lib.hid hne
  have HBD := Lib.hid hb
  obtain ⟨a, c, rfl, _⟩ := part_form hh
  clear hh hc hl hne hb hal
  go_enter Tryd.func30, Tryd.ntmps30
  go_wp2
  generalize w.alloc (.cells #[.int .i64 s.kind, .int .i64 s.fr, .int .i64 s.to, .int .u32 (s.life : Int), .int .u32 (s.seq : Int), .int .u32 (s.asked : Int), .int .u32 (s.boot : Int), .int .i64 s.code, .int .i64 s.err, .int .u32 (s.file : Int), .int .u32 (s.epoch : Int), .int .u32 (s.off : Int), .int .u32 (s.len : Int), .int .u32 (s.size : Int), .int .u32 (s.mode : Int), .int .u32 (s.deny : Int), .int .u32 (s.handle : Int), .string s.path, .string s.other, .string s.data] 27) = w1 at HAL HPA ⊢
  have HH := Lib.hid (part_below H0.out HAL.out)
  have HC := Lib.hid (part_below C0.out HAL.out)
  go_loopw [8] (fun s8 wr => ∃ i : Nat, i ≤ had.length ∧ s8 = .int .i64 i ∧ Hid (∀ j, j < i → had[j]? ≠ some s) ∧ Hid (Below w1.heap.size w1 wr)) (fun s8 _ => had.length - (intOf s8).toNat)
  case atStart => exact ⟨0, Nat.zero_le _, by simp, Lib.hid (fun j hj => by omega), Lib.hid (Below.refl _ _)⟩
  case round =>
    obtain ⟨i, hi, rfl, HJ, HB⟩ := hrel
    by_cases hlt : i < had.length
    · obtain ⟨G, c', e1, hr⟩ := part_get (part_below HH.out HB.out) i hlt
      cases e1
      obtain ⟨t, ht⟩ : ∃ t, had[i] = t := ⟨_, rfl⟩
      rw [ht] at hr
      have HR := Lib.hid hr
      have HT := Lib.hid ht
      have HP := Lib.hid (HPA.out.below HB.out)
      have i1 : ((i : Int) < (had.length : Int)) := by omega
      have HI1 := Lib.hid i1
      clear hr ht
      go_wp2_with fail
      refine start_ (n := 6) (S := fun w' => w'.rangeAt G (i * 20) (pcells t) ∧ PAt w' w.heap.size s) (ds := []) #[false, false, false, false, false, false] (by kernel_rfl) rfl rfl (⟨HR.out, HP.out⟩) (fun hHeld => ?_)
      have HBw := Lib.hid (HB.out.trans ((Below.refl wr.heap.size wr).drew.mono HB.out.size))
      generalize wr.drew = w2 at HBw hHeld ⊢
      clear HR HP HB
      refine pure_ (i := 0) (N := some 15) (v := ?_) (a' := ?_) #[true, false, false, false, false, false] rfl rfl (by kernel_rfl) (fun _ _ _ h => h) (Or.inl ⟨by rfl, ?_⟩) ?_ ?_
      rotate_left
      · intro w'
        go_simp
        with_reducible rfl
      rotate_left
      · simp only [Act.put, List.setIfInBounds_toArray, List.set_cons_zero, List.set_cons_succ, i64_w, i32_w]
        rfl
      refine pure_ (i := 1) (N := some 16) (v := ?_) (a' := ?_) #[true, true, false, false, false, false] rfl rfl (by kernel_rfl) (fun _ _ _ h => h) (Or.inl ⟨by rfl, ?_⟩) ?_ ?_
      rotate_left
      · intro w'
        go_simp
        with_reducible rfl
      rotate_left
      · simp only [Act.put, List.setIfInBounds_toArray, List.set_cons_zero, List.set_cons_succ, i64_w, i32_w]
        rfl
      refine pure_ (i := 2) (N := some 17) (v := ?_) (a' := ?_) #[true, true, true, false, false, false] rfl rfl (by kernel_rfl) (fun _ _ _ h => h) (Or.inl ⟨by rfl, ?_⟩) ?_ ?_
      rotate_left
      · intro w'
        have i1 := HI1.out
        go_simp
        with_reducible rfl
      rotate_left
      · simp only [Act.put, List.setIfInBounds_toArray, List.set_cons_zero, List.set_cons_succ, i64_w, i32_w]
        rfl
      refine take_ (i := 3) (N := some 18) (v := .agg #[.int .i64 t.kind, .int .i64 t.fr, .int .i64 t.to, .int .u32 (t.life : Int), .int .u32 (t.seq : Int), .int .u32 (t.asked : Int), .int .u32 (t.boot : Int), .int .i64 t.code, .int .i64 t.err, .int .u32 (t.file : Int), .int .u32 (t.epoch : Int), .int .u32 (t.off : Int), .int .u32 (t.len : Int), .int .u32 (t.size : Int), .int .u32 (t.mode : Int), .int .u32 (t.deny : Int), .int .u32 (t.handle : Int), .string t.path, .string t.other, .string t.data]) (a' := ?_) #[true, true, true, true, false, false] rfl rfl (by kernel_rfl) (fun _ _ _ h => h) (yieldsIf_load_mid (by rfl) 27 (.tmp 17) rfl G (i * 20) rfl (pcells t) _ (fun w' hS => hS.1) Tryd.underlying27 rfl pk_info) hHeld ?_ ?_
      rotate_left
      · simp only [Act.put, List.setIfInBounds_toArray, List.set_cons_zero, List.set_cons_succ, i64_w, i32_w]
        rfl
      refine take_ (i := 4) (N := some 19) (v := .agg #[.int .i64 s.kind, .int .i64 s.fr, .int .i64 s.to, .int .u32 (s.life : Int), .int .u32 (s.seq : Int), .int .u32 (s.asked : Int), .int .u32 (s.boot : Int), .int .i64 s.code, .int .i64 s.err, .int .u32 (s.file : Int), .int .u32 (s.epoch : Int), .int .u32 (s.off : Int), .int .u32 (s.len : Int), .int .u32 (s.size : Int), .int .u32 (s.mode : Int), .int .u32 (s.deny : Int), .int .u32 (s.handle : Int), .string s.path, .string s.other, .string s.data]) (a' := ?_) #[true, true, true, true, true, false] rfl rfl (by kernel_rfl) (fun _ _ _ h => h) (yieldsIf_load_mid (by rfl) 27 (.tmp 5) rfl w.heap.size 0 rfl (pcells s) _ (fun w' hS j v hv => by rw [Nat.zero_add, cell_at hS.2]; simpa [pcells] using hv) Tryd.underlying27 rfl pk_info) hHeld ?_ ?_
      rotate_left
      · simp only [Act.put, List.setIfInBounds_toArray, List.set_cons_zero, List.set_cons_succ, i64_w, i32_w]
        rfl
      refine pure_ (i := 5) (N := some 20) (v := .bool (decide (t = s))) (a' := ?_) #[true, true, true, true, true, true] rfl rfl (by kernel_rfl) (fun _ _ _ h => h) (Or.inl ⟨by rfl, ?_⟩) ?_ ?_
      · intro w'
        exact execOp_eq (p := t) (q := s) rfl rfl rfl
      rotate_left
      · simp only [Act.put, List.setIfInBounds_toArray, List.set_cons_zero, List.set_cons_succ, i64_w, i32_w]
        rfl
      refine done_ (by kernel_rfl) ?_
      by_cases hts : t = s
      · have hd : decide (t = s) = true := decide_eq_true hts
        have HC2 := Lib.hid (part_below HC.out HBw.out)
        have hic : i < cn.length := by rw [HL.out]; exact hlt
        obtain ⟨gc, cc, rfl, hcell, hfr⟩ := crow_get HC2.out i hic
        have hbx := HBD.out _ (List.getElem_mem hic)
        have HSET := Lib.hid (crow_set HC2.out i hic (cn[i] + 1))
        have HFS : Hid (Fr (fun k => k = gc) w2 (w2.setCell ⟨gc, i, none⟩ (.int .i64 (cn[i] + 1)))) := Lib.hid (Fr.setCell (F := fun k => k = gc) w2 (p := ⟨gc, i, none⟩) rfl _)
        have HGD : Hid (cn.getD i 0 = cn[i]) := Lib.hid (by simp [List.getD, List.getElem?_eq_getElem hic])
        have HH2 := Lib.hid (part_below HH.out HBw.out)
        obtain ⟨y, hy⟩ : ∃ y, cn[i] = y := ⟨_, rfl⟩
        rw [hy] at hcell HSET HFS HGD hbx
        have e2 : wrap64 (y + 1) = y + 1 := by unfold wrap64; omega
        have i2 : ((i : Int) < (cn.length : Int)) := by omega
        have HIC := Lib.hid hic
        clear hic hy hbx HC HC2 HH
        go_wp2
        go_ret2
        refine ⟨_, _, had, cn.set i (y + 1), rfl, .inl ⟨i, by rw [List.getElem?_eq_getElem hlt, HT.out, hts], rfl, by rw [HGD.out]⟩, HFS.out.part HH2.out (fun k hk e => HNE.out k hk (by rw [e]; rfl)), by rw [List.length_set]; have := HSET.out; rw [List.length_set] at this; exact this, ?_, fun k hk => .inl hk, fun k hk => .inl hk, fun k hk => HNE.out k hk⟩
        exact ((Fr.of_below (F := fun k => (Value.slice (some ⟨G, 0, none⟩) had.length c).ownBlock = some k ∨ (Value.slice (some ⟨gc, 0, none⟩) cn.length cc).ownBlock = some k) HAL.out).trans (Fr.of_below (F := fun _ => False) HBw.out) (fun _ _ h => h.elim)).trans HFS.out (fun k _ e => .inr (by rw [e]; rfl))
      · have hd : decide (t = s) = false := decide_eq_false hts
        go_wp2
        go_roundw
        case rel => exact ⟨i + 1, by omega, by go_num, Lib.hid (fun j hj => by
          by_cases hji : j = i
          · subst hji; rw [List.getElem?_eq_getElem hlt, HT.out]; intro e; injection e with e; exact hts e
          · exact HJ.out j (by omega)), HBw⟩
        case measure => simp [intOf]; omega
    · obtain rfl : i = had.length := by omega
      have HNM : Hid (s ∉ had) := Lib.hid (fun hm => by
        obtain ⟨j, hj, e⟩ := List.getElem_of_mem hm
        exact HJ.out j hj (by rw [List.getElem?_eq_getElem hj, e]))
      have hh2 := part_below HH.out HB.out
      have hc2 := part_below HC.out HB.out
      have HP2 := Lib.hid (HPA.out.below HB.out)
      have hb3 : Below wr.heap.size wr (wr.alloc (.cells (pcells s).toArray 27)) := (Below.refl _ _).alloc (Nat.le_refl _) _
      have hr3 := run_oneP wr s
      have hs3 := shows_oneP wr s 27
      have hh3 := part_below hh2 hb3
      have hc3 := part_below hc2 hb3
      obtain ⟨N, hN⟩ : ∃ N, wr.heap.size = N := ⟨_, rfl⟩
      have hb3' := hb3
      rw [hN] at hr3 hs3
      generalize wr.alloc (.cells (pcells s).toArray 27) = w3 at hb3 hb3' hr3 hs3 hh3 hc3
      obtain ⟨u4, w4, hr4, ho4, hg4, hat4⟩ := padds w3 hh3 (some ⟨N, 0, none⟩) 1 [s] hs3 (by omega) (by simp)
      have hlc : ∀ k, cv.ownBlock = some k → k < wr.heap.size := fun k hk => (hc2.lt k hk).2
      have hlh : ∀ k, (Value.slice a had.length c).ownBlock = some k → k < wr.heap.size := fun k hk => (hh2.lt k hk).2
      have hs33 := hb3.size
      have hc4 := part_kept hc3 (w' := w4) (fun k hk => hg4.block k (hc3.lt k hk).2 (fun e => HNE.out k e.symm hk))
      have hu4 : ∀ k, u4.ownBlock = some k → ((Value.slice a had.length c).ownBlock = some k ∨ wr.heap.size ≤ k) ∧ cv.ownBlock ≠ some k := fun k hk => by
        rcases hat4 with h | h
        · rw [h] at hk; exact ⟨.inl hk, HNE.out k hk⟩
        · rw [h] at hk; simp only [Option.some.injEq] at hk; exact ⟨.inr (by omega), fun e => by have := hlc k e; omega⟩
      have hb5 : Below w4.heap.size w4 (w4.alloc (.cells #[.int .i64 1] 3)) := (Below.refl _ _).alloc (Nat.le_refl _) _
      have hr5 := run_oneI w4
      have hs5 := shows_oneI w4
      have hc5 := part_below hc4 hb5
      have ho5 := part_below ho4 hb5
      obtain ⟨N5, hN5⟩ : ∃ N, w4.heap.size = N := ⟨_, rfl⟩
      have hb5' := hb5
      have hs44 := hg4.size
      rw [hN5] at hr5 hs5 hs44
      generalize w4.alloc (.cells #[.int .i64 1] 3) = w5 at hb5 hb5' hr5 hs5 hc5 ho5
      have hs55 := hb5'.size
      rw [hN5] at hs55
      obtain ⟨u6, w6, hr6, ho6, hg6, hat6⟩ := iadds w5 hc5 (some ⟨N5, 0, none⟩) 1 [1] hs5 (by rw [HL.out]; omega) (by simp)
      have hh6 := part_kept ho5 (w' := w6) (fun k hk => hg6.block k (ho5.lt k hk).2 (fun e => (hu4 k hk).2 e.symm))
      have hu6 : ∀ k, u6.ownBlock = some k → (cv.ownBlock = some k ∨ N5 ≤ k) := fun k hk => by
        rcases hat6 with h | h
        · rw [h] at hk; exact .inl hk
        · rw [h] at hk; simp only [Option.some.injEq] at hk; exact .inr (by omega)
      have hswr := HB.out.size
      have hsw1 := HAL.out.size
      have HPOST : Hid (MoreP had cn s (had ++ [s]) (cn ++ [1]) ∧ partRow w6 0 27 20 u4 (had ++ [s]).length (prow (had ++ [s])) ∧ partRow w6 0 3 1 u6 (cn ++ [1]).length (icells (cn ++ [1])) ∧ Fr (fun k => (Value.slice a had.length c).ownBlock = some k ∨ cv.ownBlock = some k) w w6 ∧ (∀ k, u4.ownBlock = some k → (Value.slice a had.length c).ownBlock = some k ∨ w.heap.size ≤ k) ∧ (∀ k, u6.ownBlock = some k → cv.ownBlock = some k ∨ w.heap.size ≤ k) ∧ ∀ k, u4.ownBlock = some k → u6.ownBlock ≠ some k) := Lib.hid (by
        refine ⟨.inr ⟨HNM.out, rfl, rfl⟩, hh6, ho6, ?_, fun k hk => ?_, fun k hk => ?_, fun k hk e => ?_⟩
        · refine ((((Fr.of_below (F := fun k => (Value.slice a had.length c).ownBlock = some k ∨ cv.ownBlock = some k) HAL.out).trans (Fr.of_below (F := fun _ => False) HB.out) (fun _ _ h => h.elim)).trans (Fr.of_below (F := fun _ => False) hb3) (fun _ _ h => h.elim)).trans (Fr.grown (F := fun k => (Value.slice a had.length c).ownBlock = some k) hg4 (fun k hk => hk)) (fun _ _ h => .inl h)).trans ((Fr.of_below (F := fun k => cv.ownBlock = some k) hb5).trans (Fr.grown (F := fun k => cv.ownBlock = some k) hg6 (fun k hk => hk)) (fun _ _ h => h)) (fun _ _ h => .inr h)
        · rcases (hu4 k hk).1 with h | h
          · exact .inl h
          · exact .inr (by omega)
        · rcases hu6 k hk with h | h
          · exact .inl h
          · exact .inr (by omega)
        · rcases hu6 k e with h | h
          · exact (hu4 k hk).2 h
          · have := (ho4.lt k hk).2; omega)
      obtain ⟨b4, c4, rfl, _⟩ : ∃ b4 c4, u4 = .slice b4 (had.length + 1) c4 ∧ True := by
        obtain ⟨b4, c4, e, _⟩ := part_form ho4
        exact ⟨b4, c4, by rw [e]; simp, trivial⟩
      obtain ⟨b6, c6, rfl, _⟩ : ∃ b6 c6, u6 = .slice b6 (had.length + 1) c6 ∧ True := by
        obtain ⟨b6, c6, e, _⟩ := part_form ho6
        exact ⟨b6, c6, by rw [e, List.length_append, HL.out]; rfl, trivial⟩
      obtain ⟨ac, cc, rfl, _⟩ := part_form C0.out
      have HR3 := Lib.hid hr3
      have HR4 := Lib.hid hr4
      have HR5 := Lib.hid hr5
      have HR6 := Lib.hid hr6
      clear hh2 hc2 hb3 hb3' hr3 hs3 hh3 hc3 hr4 ho4 hg4 hat4 hlc hlh hs33 hc4 hu4 hb5 hb5' hr5 hs5 hc5 ho5 hs44 hs55 hr6 ho6 hg6 hat6 hh6 hu6 hswr hsw1 HH HC HB HJ HNM HAL HPA H0 C0 hN hN5
      go_wp2_with (first | ((with_reducible refine gate_dst (N := 30) rfl ?_); refine wpList_val rfl rfl (execOp_load rfl rfl HP2.out.load) ?_) | ((with_reducible refine gate_dst (N := 31) rfl ?_); refine wpList_val rfl rfl (execOp_buildSlice (ps := #[(0, .agg #[.int .i64 s.kind, .int .i64 s.fr, .int .i64 s.to, .int .u32 (s.life : Int), .int .u32 (s.seq : Int), .int .u32 (s.asked : Int), .int .u32 (s.boot : Int), .int .i64 s.code, .int .i64 s.err, .int .u32 (s.file : Int), .int .u32 (s.epoch : Int), .int .u32 (s.off : Int), .int .u32 (s.len : Int), .int .u32 (s.size : Int), .int .u32 (s.mode : Int), .int .u32 (s.deny : Int), .int .u32 (s.handle : Int), .string s.path, .string s.other, .string s.data])]) rfl rfl HR3.out) ?_; refine stop_here ?_))
      refine Lib.hid ?_
      go_wp2_with ((with_reducible refine gate_dst (N := 32) rfl ?_); refine wpList_val rfl rfl (execOp_append rfl rfl rfl HR4.out) ?_; refine stop_here ?_)
      refine Lib.hid ?_
      go_wp2_with ((with_reducible refine gate_dst (N := 34) rfl ?_); refine wpList_val rfl rfl (execOp_buildSlice (ps := #[(0, .int .i64 1)]) rfl rfl HR5.out) ?_; refine stop_here ?_)
      refine Lib.hid ?_
      go_wp2_with ((with_reducible refine gate_dst (N := 35) rfl ?_); refine wpList_val rfl rfl (execOp_append rfl rfl rfl HR6.out) ?_; refine stop_here ?_)
      refine Lib.hid ?_
      go_wp2
      go_ret2
      exact ⟨_, _, had ++ [s], cn ++ [1], rfl, HPOST.out⟩
/-- What 'fewer' leaves, where there is one. -/
def LessP (had : List Pk) (cn : List Int) (s : Pk) (cn' : List Int) : Prop := ∃ i, had[i]? = some s ∧ cn' = cn.set i (cn.getD i 0 - 1)
set_option maxHeartbeats 16000000 in
theorem fewer_calls (hh : partRow w 0 27 20 hv (had).length (prow (had))) (hc : partRow w 0 3 1 cv (cn).length (icells (cn))) (hl : cn.length = had.length) (hf : had.length ≤ 390) (hne : ∀ k, hv.ownBlock = some k → cv.ownBlock ≠ some k) (hb : ∀ x ∈ cn, 0 ≤ x ∧ x ≤ 100000) (s : Pk) (hex : ∃ i, had[i]? = some s ∧ 0 < cn.getD i 0) :
    Calls Tryd.prog 31 #[hv, cv, .agg #[.int .i64 s.kind, .int .i64 s.fr, .int .i64 s.to, .int .u32 (s.life : Int), .int .u32 (s.seq : Int), .int .u32 (s.asked : Int), .int .u32 (s.boot : Int), .int .i64 s.code, .int .i64 s.err, .int .u32 (s.file : Int), .int .u32 (s.epoch : Int), .int .u32 (s.off : Int), .int .u32 (s.len : Int), .int .u32 (s.size : Int), .int .u32 (s.mode : Int), .int .u32 (s.deny : Int), .int .u32 (s.handle : Int), .string s.path, .string s.other, .string s.data]] w fun e w' => ∃ cn', e = .returned (.bool true) ∧ LessP had cn s cn' ∧ partRow w' 0 27 20 hv (had).length (prow (had)) ∧ partRow w' 0 3 1 cv (cn').length (icells (cn')) ∧ Fr (fun k => cv.ownBlock = some k) w w' := by
  have hal : Below w.heap.size w (w.alloc (.cells #[.int .i64 s.kind, .int .i64 s.fr, .int .i64 s.to, .int .u32 (s.life : Int), .int .u32 (s.seq : Int), .int .u32 (s.asked : Int), .int .u32 (s.boot : Int), .int .i64 s.code, .int .i64 s.err, .int .u32 (s.file : Int), .int .u32 (s.epoch : Int), .int .u32 (s.off : Int), .int .u32 (s.len : Int), .int .u32 (s.size : Int), .int .u32 (s.mode : Int), .int .u32 (s.deny : Int), .int .u32 (s.handle : Int), .string s.path, .string s.other, .string s.data] 27)) := (Below.refl _ _).alloc (Nat.le_refl _) _
  have HAL := Lib.hid hal
  have HPA := Lib.hid (PAt.alloc w s)
  have H0 := Lib.hid hh
  have C0 := Lib.hid hc
  have HL := Lib.hid hl
  have HNE := Lib.hid hne
  have HBD := Lib.hid hb
  obtain ⟨i0, hi0, hp0⟩ := hex
  have hi0l : i0 < had.length := (List.getElem?_eq_some_iff.1 hi0).1
  have HI0 := Lib.hid hi0
  have HP0 := Lib.hid hp0
  obtain ⟨a, c, rfl, _⟩ := part_form hh
  clear hh hc hl hne hb hal hi0 hp0
  go_enter Tryd.func31, Tryd.ntmps31
  go_wp2
  generalize w.alloc (.cells #[.int .i64 s.kind, .int .i64 s.fr, .int .i64 s.to, .int .u32 (s.life : Int), .int .u32 (s.seq : Int), .int .u32 (s.asked : Int), .int .u32 (s.boot : Int), .int .i64 s.code, .int .i64 s.err, .int .u32 (s.file : Int), .int .u32 (s.epoch : Int), .int .u32 (s.off : Int), .int .u32 (s.len : Int), .int .u32 (s.size : Int), .int .u32 (s.mode : Int), .int .u32 (s.deny : Int), .int .u32 (s.handle : Int), .string s.path, .string s.other, .string s.data] 27) = w1 at HAL HPA ⊢
  have HH := Lib.hid (part_below H0.out HAL.out)
  have HC := Lib.hid (part_below C0.out HAL.out)
  go_loopw [7] (fun s7 wr => ∃ i : Nat, i ≤ i0 ∧ s7 = .int .i64 i ∧ Hid (Below w1.heap.size w1 wr)) (fun s7 _ => had.length - (intOf s7).toNat)
  case atStart => exact ⟨0, Nat.zero_le _, by simp, Lib.hid (Below.refl _ _)⟩
  case round =>
    obtain ⟨i, hi, rfl, HB⟩ := hrel
    have hlt : i < had.length := by omega
    have hic : i < cn.length := by rw [HL.out]; exact hlt
    obtain ⟨G, c', e1, hr⟩ := part_get (part_below HH.out HB.out) i hlt
    cases e1
    obtain ⟨gc, cc, rfl, hcell, hfr⟩ := crow_get (part_below HC.out HB.out) i hic
    obtain ⟨t, ht⟩ : ∃ t, had[i] = t := ⟨_, rfl⟩
    obtain ⟨y, hy⟩ : ∃ y, cn[i] = y := ⟨_, rfl⟩
    have hgd : cn.getD i 0 = y := by rw [← hy]; simp [List.getD, List.getElem?_eq_getElem hic]
    have hbx := HBD.out _ (List.getElem_mem hic)
    rw [ht] at hr
    rw [hy] at hcell hbx
    have HGD := Lib.hid hgd
    have HR := Lib.hid hr
    have HT := Lib.hid ht
    have HY := Lib.hid hcell
    have HP := Lib.hid (HPA.out.below HB.out)
    have HI1 := Lib.hid (show ((i : Int) < (had.length : Int)) by omega)
    have HI2 := Lib.hid (show ((i : Int) < (cn.length : Int)) by omega)
    have i1 : ((i : Int) < (had.length : Int)) := by omega
    have HH2 := Lib.hid (part_below HH.out HB.out)
    have HC2 := Lib.hid (part_below HC.out HB.out)
    have HIC := Lib.hid hic
    clear hr ht hcell hfr hgd hy hic
    by_cases hts : t = s
    · have HD := Lib.hid (show decide (t = s) = true from decide_eq_true hts)
      by_cases hy0 : 0 < y
      · have HY0 := Lib.hid hy0
        go_wp2_with fail
        refine start_ (n := 13) (S := fun w' => w'.rangeAt G (i * 20) (pcells t) ∧ PAt w' w.heap.size s ∧ w'.cell? ⟨gc, i, none⟩ = some (.int .i64 y)) (ds := []) #[false, false, false, false, false, false, false, false, false, false, false, false, false] (by kernel_rfl) rfl rfl (⟨HR.out, HP.out, HY.out⟩) (fun hHeld => ?_)
        have HBw := Lib.hid (HB.out.trans ((Below.refl wr.heap.size wr).drew.mono HB.out.size))
        generalize wr.drew = w2 at HBw hHeld ⊢
        clear HR HP HB HY
        refine pure_ (i := 0) (N := some 14) (v := ?_) (a' := ?_) #[true, false, false, false, false, false, false, false, false, false, false, false, false] rfl rfl (by kernel_rfl) (fun _ _ _ h => h) (Or.inl ⟨by rfl, ?_⟩) ?_ ?_
        rotate_left
        · intro w'
          go_simp
          with_reducible rfl
        rotate_left
        · simp only [Act.put, List.setIfInBounds_toArray, List.set_cons_zero, List.set_cons_succ, i64_w, i32_w]
          rfl
        refine pure_ (i := 1) (N := some 15) (v := ?_) (a' := ?_) #[true, true, false, false, false, false, false, false, false, false, false, false, false] rfl rfl (by kernel_rfl) (fun _ _ _ h => h) (Or.inl ⟨by rfl, ?_⟩) ?_ ?_
        rotate_left
        · intro w'
          go_simp
          with_reducible rfl
        rotate_left
        · simp only [Act.put, List.setIfInBounds_toArray, List.set_cons_zero, List.set_cons_succ, i64_w, i32_w]
          rfl
        refine pure_ (i := 2) (N := some 16) (v := ?_) (a' := ?_) #[true, true, true, false, false, false, false, false, false, false, false, false, false] rfl rfl (by kernel_rfl) (fun _ _ _ h => h) (Or.inl ⟨by rfl, ?_⟩) ?_ ?_
        rotate_left
        · intro w'
          have i1 := HI1.out
          go_simp
          with_reducible rfl
        rotate_left
        · simp only [Act.put, List.setIfInBounds_toArray, List.set_cons_zero, List.set_cons_succ, i64_w, i32_w]
          rfl
        refine take_ (i := 3) (N := some 17) (v := .agg #[.int .i64 t.kind, .int .i64 t.fr, .int .i64 t.to, .int .u32 (t.life : Int), .int .u32 (t.seq : Int), .int .u32 (t.asked : Int), .int .u32 (t.boot : Int), .int .i64 t.code, .int .i64 t.err, .int .u32 (t.file : Int), .int .u32 (t.epoch : Int), .int .u32 (t.off : Int), .int .u32 (t.len : Int), .int .u32 (t.size : Int), .int .u32 (t.mode : Int), .int .u32 (t.deny : Int), .int .u32 (t.handle : Int), .string t.path, .string t.other, .string t.data]) (a' := ?_) #[true, true, true, true, false, false, false, false, false, false, false, false, false] rfl rfl (by kernel_rfl) (fun _ _ _ h => h) (yieldsIf_load_mid (by rfl) 27 (.tmp 16) rfl G (i * 20) rfl (pcells t) _ (fun w' hS => hS.1) Tryd.underlying27 rfl pk_info) hHeld ?_ ?_
        rotate_left
        · simp only [Act.put, List.setIfInBounds_toArray, List.set_cons_zero, List.set_cons_succ, i64_w, i32_w]
          rfl
        refine take_ (i := 4) (N := some 18) (v := .agg #[.int .i64 s.kind, .int .i64 s.fr, .int .i64 s.to, .int .u32 (s.life : Int), .int .u32 (s.seq : Int), .int .u32 (s.asked : Int), .int .u32 (s.boot : Int), .int .i64 s.code, .int .i64 s.err, .int .u32 (s.file : Int), .int .u32 (s.epoch : Int), .int .u32 (s.off : Int), .int .u32 (s.len : Int), .int .u32 (s.size : Int), .int .u32 (s.mode : Int), .int .u32 (s.deny : Int), .int .u32 (s.handle : Int), .string s.path, .string s.other, .string s.data]) (a' := ?_) #[true, true, true, true, true, false, false, false, false, false, false, false, false] rfl rfl (by kernel_rfl) (fun _ _ _ h => h) (yieldsIf_load_mid (by rfl) 27 (.tmp 5) rfl w.heap.size 0 rfl (pcells s) _ (fun w' hS j v hv => by rw [Nat.zero_add, cell_at hS.2.1]; simpa [pcells] using hv) Tryd.underlying27 rfl pk_info) hHeld ?_ ?_
        rotate_left
        · simp only [Act.put, List.setIfInBounds_toArray, List.set_cons_zero, List.set_cons_succ, i64_w, i32_w]
          rfl
        refine pure_ (i := 5) (N := some 19) (v := .bool true) (a' := ?_) #[true, true, true, true, true, true, false, false, false, false, false, false, false] rfl rfl (by kernel_rfl) (fun _ _ _ h => h) (Or.inl ⟨by rfl, ?_⟩) ?_ ?_
        · intro w'
          exact (execOp_eq (p := t) (q := s) rfl rfl rfl).trans (by rw [HD.out])
        rotate_left
        · simp only [Act.put, List.setIfInBounds_toArray, List.set_cons_zero, List.set_cons_succ, i64_w, i32_w]
          rfl
        refine pure_ (i := 6) (N := some 20) (v := ?_) (a' := ?_) #[true, true, true, true, true, true, true, false, false, false, false, false, false] rfl rfl (by kernel_rfl) (fun _ _ _ h => h) (Or.inl ⟨by rfl, ?_⟩) ?_ ?_
        rotate_left
        · intro w'
          go_simp
          with_reducible rfl
        rotate_left
        · simp only [Act.put, List.setIfInBounds_toArray, List.set_cons_zero, List.set_cons_succ, i64_w, i32_w]
          rfl
        refine pure_ (i := 7) (N := some 21) (v := ?_) (a' := ?_) #[true, true, true, true, true, true, true, true, false, false, false, false, false] rfl rfl (by kernel_rfl) (fun _ _ _ h => h) (Or.inl ⟨by rfl, ?_⟩) ?_ ?_
        rotate_left
        · intro w'
          go_simp
          with_reducible rfl
        rotate_left
        · simp only [Act.put, List.setIfInBounds_toArray, List.set_cons_zero, List.set_cons_succ, i64_w, i32_w]
          rfl
        refine pure_ (i := 8) (N := some 22) (v := ?_) (a' := ?_) #[true, true, true, true, true, true, true, true, true, false, false, false, false] rfl rfl (by kernel_rfl) (fun _ _ _ h => h) (Or.inl ⟨by rfl, ?_⟩) ?_ ?_
        rotate_left
        · intro w'
          go_simp
          with_reducible rfl
        rotate_left
        · simp only [Act.put, List.setIfInBounds_toArray, List.set_cons_zero, List.set_cons_succ, i64_w, i32_w]
          rfl
        refine pure_ (i := 9) (N := some 23) (v := ?_) (a' := ?_) #[true, true, true, true, true, true, true, true, true, true, false, false, false] rfl rfl (by kernel_rfl) (fun _ _ _ h => h) (Or.inl ⟨by rfl, ?_⟩) ?_ ?_
        rotate_left
        · intro w'
          have i2 := HI2.out
          go_simp
          with_reducible rfl
        rotate_left
        · simp only [Act.put, List.setIfInBounds_toArray, List.set_cons_zero, List.set_cons_succ, i64_w, i32_w]
          rfl
        refine take_ (i := 10) (N := some 24) (v := ?_) (a' := ?_) #[true, true, true, true, true, true, true, true, true, true, true, false, false] rfl rfl (by kernel_rfl) (fun _ _ _ h => h) (Or.inl ⟨by rfl, ?_⟩) hHeld ?_ ?_
        rotate_left
        · intro w' hS
          obtain ⟨_, _, hcl⟩ := hS
          go_simp
          with_reducible rfl
        rotate_left
        · simp only [Act.put, List.setIfInBounds_toArray, List.set_cons_zero, List.set_cons_succ, i64_w, i32_w]
          rfl
        refine pure_ (i := 11) (N := some 25) (v := ?_) (a' := ?_) #[true, true, true, true, true, true, true, true, true, true, true, true, false] rfl rfl (by kernel_rfl) (fun _ _ _ h => h) (Or.inl ⟨by rfl, ?_⟩) ?_ ?_
        rotate_left
        · intro w'
          have y0 := HY0.out
          go_simp
          with_reducible rfl
        rotate_left
        · simp only [Act.put, List.setIfInBounds_toArray, List.set_cons_zero, List.set_cons_succ, i64_w, i32_w]
          rfl
        refine pure_ (i := 12) (N := some 26) (v := ?_) (a' := ?_) #[true, true, true, true, true, true, true, true, true, true, true, true, true] rfl rfl (by kernel_rfl) (fun _ _ _ h => h) (Or.inl ⟨by rfl, ?_⟩) ?_ ?_
        rotate_left
        · intro w'
          go_simp
          with_reducible rfl
        rotate_left
        · simp only [Act.put, List.setIfInBounds_toArray, List.set_cons_zero, List.set_cons_succ, i64_w, i32_w]
          rfl
        refine done_ (by kernel_rfl) ?_
        have HC3 := Lib.hid (part_below HC.out HBw.out)
        have HH3 := Lib.hid (part_below HH.out HBw.out)
        obtain ⟨gc', cc', e1, hcell, hfr⟩ := crow_get HC3.out i HIC.out
        cases e1
        have HSET := Lib.hid (crow_set HC3.out i HIC.out (y - 1))
        have HFS : Hid (Fr (fun k => k = gc) w2 (w2.setCell ⟨gc, i, none⟩ (.int .i64 (y - 1)))) := Lib.hid (Fr.setCell (F := fun k => k = gc) w2 (p := ⟨gc, i, none⟩) rfl _)
        have hcy := HGD.out
        rw [List.getD, List.getElem?_eq_getElem HIC.out, Option.getD_some] at hcy
        rw [hcy] at hcell
        have e2 : wrap64 (y - 1) = y - 1 := by unfold wrap64; omega
        have i2 := HI2.out
        clear hcy HC HC2 HH HH2
        go_wp2
        go_ret
        refine ⟨cn.set i (y - 1), rfl, ⟨i, by rw [List.getElem?_eq_getElem hlt, HT.out, hts], by rw [HGD.out]⟩, HFS.out.part HH3.out (fun k hk e => HNE.out k hk (by rw [e]; rfl)), by rw [List.length_set]; have := HSET.out; rw [List.length_set] at this; exact this, ?_⟩
        exact ((Fr.of_below (F := fun k => (Value.slice (some ⟨gc, 0, none⟩) cn.length cc).ownBlock = some k) HAL.out).trans (Fr.of_below (F := fun _ => False) HBw.out) (fun _ _ h => h.elim)).trans HFS.out (fun k _ e => by rw [e]; rfl)
      · have HY0 := Lib.hid hy0
        go_wp2_with fail
        refine start_ (n := 13) (S := fun w' => w'.rangeAt G (i * 20) (pcells t) ∧ PAt w' w.heap.size s ∧ w'.cell? ⟨gc, i, none⟩ = some (.int .i64 y)) (ds := []) #[false, false, false, false, false, false, false, false, false, false, false, false, false] (by kernel_rfl) rfl rfl (⟨HR.out, HP.out, HY.out⟩) (fun hHeld => ?_)
        have HBw := Lib.hid (HB.out.trans ((Below.refl wr.heap.size wr).drew.mono HB.out.size))
        generalize wr.drew = w2 at HBw hHeld ⊢
        clear HR HP HB HY
        refine pure_ (i := 0) (N := some 14) (v := ?_) (a' := ?_) #[true, false, false, false, false, false, false, false, false, false, false, false, false] rfl rfl (by kernel_rfl) (fun _ _ _ h => h) (Or.inl ⟨by rfl, ?_⟩) ?_ ?_
        rotate_left
        · intro w'
          go_simp
          with_reducible rfl
        rotate_left
        · simp only [Act.put, List.setIfInBounds_toArray, List.set_cons_zero, List.set_cons_succ, i64_w, i32_w]
          rfl
        refine pure_ (i := 1) (N := some 15) (v := ?_) (a' := ?_) #[true, true, false, false, false, false, false, false, false, false, false, false, false] rfl rfl (by kernel_rfl) (fun _ _ _ h => h) (Or.inl ⟨by rfl, ?_⟩) ?_ ?_
        rotate_left
        · intro w'
          go_simp
          with_reducible rfl
        rotate_left
        · simp only [Act.put, List.setIfInBounds_toArray, List.set_cons_zero, List.set_cons_succ, i64_w, i32_w]
          rfl
        refine pure_ (i := 2) (N := some 16) (v := ?_) (a' := ?_) #[true, true, true, false, false, false, false, false, false, false, false, false, false] rfl rfl (by kernel_rfl) (fun _ _ _ h => h) (Or.inl ⟨by rfl, ?_⟩) ?_ ?_
        rotate_left
        · intro w'
          have i1 := HI1.out
          go_simp
          with_reducible rfl
        rotate_left
        · simp only [Act.put, List.setIfInBounds_toArray, List.set_cons_zero, List.set_cons_succ, i64_w, i32_w]
          rfl
        refine take_ (i := 3) (N := some 17) (v := .agg #[.int .i64 t.kind, .int .i64 t.fr, .int .i64 t.to, .int .u32 (t.life : Int), .int .u32 (t.seq : Int), .int .u32 (t.asked : Int), .int .u32 (t.boot : Int), .int .i64 t.code, .int .i64 t.err, .int .u32 (t.file : Int), .int .u32 (t.epoch : Int), .int .u32 (t.off : Int), .int .u32 (t.len : Int), .int .u32 (t.size : Int), .int .u32 (t.mode : Int), .int .u32 (t.deny : Int), .int .u32 (t.handle : Int), .string t.path, .string t.other, .string t.data]) (a' := ?_) #[true, true, true, true, false, false, false, false, false, false, false, false, false] rfl rfl (by kernel_rfl) (fun _ _ _ h => h) (yieldsIf_load_mid (by rfl) 27 (.tmp 16) rfl G (i * 20) rfl (pcells t) _ (fun w' hS => hS.1) Tryd.underlying27 rfl pk_info) hHeld ?_ ?_
        rotate_left
        · simp only [Act.put, List.setIfInBounds_toArray, List.set_cons_zero, List.set_cons_succ, i64_w, i32_w]
          rfl
        refine take_ (i := 4) (N := some 18) (v := .agg #[.int .i64 s.kind, .int .i64 s.fr, .int .i64 s.to, .int .u32 (s.life : Int), .int .u32 (s.seq : Int), .int .u32 (s.asked : Int), .int .u32 (s.boot : Int), .int .i64 s.code, .int .i64 s.err, .int .u32 (s.file : Int), .int .u32 (s.epoch : Int), .int .u32 (s.off : Int), .int .u32 (s.len : Int), .int .u32 (s.size : Int), .int .u32 (s.mode : Int), .int .u32 (s.deny : Int), .int .u32 (s.handle : Int), .string s.path, .string s.other, .string s.data]) (a' := ?_) #[true, true, true, true, true, false, false, false, false, false, false, false, false] rfl rfl (by kernel_rfl) (fun _ _ _ h => h) (yieldsIf_load_mid (by rfl) 27 (.tmp 5) rfl w.heap.size 0 rfl (pcells s) _ (fun w' hS j v hv => by rw [Nat.zero_add, cell_at hS.2.1]; simpa [pcells] using hv) Tryd.underlying27 rfl pk_info) hHeld ?_ ?_
        rotate_left
        · simp only [Act.put, List.setIfInBounds_toArray, List.set_cons_zero, List.set_cons_succ, i64_w, i32_w]
          rfl
        refine pure_ (i := 5) (N := some 19) (v := .bool true) (a' := ?_) #[true, true, true, true, true, true, false, false, false, false, false, false, false] rfl rfl (by kernel_rfl) (fun _ _ _ h => h) (Or.inl ⟨by rfl, ?_⟩) ?_ ?_
        · intro w'
          exact (execOp_eq (p := t) (q := s) rfl rfl rfl).trans (by rw [HD.out])
        rotate_left
        · simp only [Act.put, List.setIfInBounds_toArray, List.set_cons_zero, List.set_cons_succ, i64_w, i32_w]
          rfl
        refine pure_ (i := 6) (N := some 20) (v := ?_) (a' := ?_) #[true, true, true, true, true, true, true, false, false, false, false, false, false] rfl rfl (by kernel_rfl) (fun _ _ _ h => h) (Or.inl ⟨by rfl, ?_⟩) ?_ ?_
        rotate_left
        · intro w'
          go_simp
          with_reducible rfl
        rotate_left
        · simp only [Act.put, List.setIfInBounds_toArray, List.set_cons_zero, List.set_cons_succ, i64_w, i32_w]
          rfl
        refine pure_ (i := 7) (N := some 21) (v := ?_) (a' := ?_) #[true, true, true, true, true, true, true, true, false, false, false, false, false] rfl rfl (by kernel_rfl) (fun _ _ _ h => h) (Or.inl ⟨by rfl, ?_⟩) ?_ ?_
        rotate_left
        · intro w'
          go_simp
          with_reducible rfl
        rotate_left
        · simp only [Act.put, List.setIfInBounds_toArray, List.set_cons_zero, List.set_cons_succ, i64_w, i32_w]
          rfl
        refine pure_ (i := 8) (N := some 22) (v := ?_) (a' := ?_) #[true, true, true, true, true, true, true, true, true, false, false, false, false] rfl rfl (by kernel_rfl) (fun _ _ _ h => h) (Or.inl ⟨by rfl, ?_⟩) ?_ ?_
        rotate_left
        · intro w'
          go_simp
          with_reducible rfl
        rotate_left
        · simp only [Act.put, List.setIfInBounds_toArray, List.set_cons_zero, List.set_cons_succ, i64_w, i32_w]
          rfl
        refine pure_ (i := 9) (N := some 23) (v := ?_) (a' := ?_) #[true, true, true, true, true, true, true, true, true, true, false, false, false] rfl rfl (by kernel_rfl) (fun _ _ _ h => h) (Or.inl ⟨by rfl, ?_⟩) ?_ ?_
        rotate_left
        · intro w'
          have i2 := HI2.out
          go_simp
          with_reducible rfl
        rotate_left
        · simp only [Act.put, List.setIfInBounds_toArray, List.set_cons_zero, List.set_cons_succ, i64_w, i32_w]
          rfl
        refine take_ (i := 10) (N := some 24) (v := ?_) (a' := ?_) #[true, true, true, true, true, true, true, true, true, true, true, false, false] rfl rfl (by kernel_rfl) (fun _ _ _ h => h) (Or.inl ⟨by rfl, ?_⟩) hHeld ?_ ?_
        rotate_left
        · intro w' hS
          obtain ⟨_, _, hcl⟩ := hS
          go_simp
          with_reducible rfl
        rotate_left
        · simp only [Act.put, List.setIfInBounds_toArray, List.set_cons_zero, List.set_cons_succ, i64_w, i32_w]
          rfl
        refine pure_ (i := 11) (N := some 25) (v := ?_) (a' := ?_) #[true, true, true, true, true, true, true, true, true, true, true, true, false] rfl rfl (by kernel_rfl) (fun _ _ _ h => h) (Or.inl ⟨by rfl, ?_⟩) ?_ ?_
        rotate_left
        · intro w'
          have y0 := HY0.out
          go_simp
          with_reducible rfl
        rotate_left
        · simp only [Act.put, List.setIfInBounds_toArray, List.set_cons_zero, List.set_cons_succ, i64_w, i32_w]
          rfl
        refine pure_ (i := 12) (N := some 26) (v := ?_) (a' := ?_) #[true, true, true, true, true, true, true, true, true, true, true, true, true] rfl rfl (by kernel_rfl) (fun _ _ _ h => h) (Or.inl ⟨by rfl, ?_⟩) ?_ ?_
        rotate_left
        · intro w'
          go_simp
          with_reducible rfl
        rotate_left
        · simp only [Act.put, List.setIfInBounds_toArray, List.set_cons_zero, List.set_cons_succ, i64_w, i32_w]
          rfl
        refine done_ (by kernel_rfl) ?_
        go_wp2
        go_roundw
        case rel => exact ⟨i + 1, by
          have h1 := HP0.out
          by_cases hii : i = i0
          · subst hii; have := HGD.out; omega
          · omega, by go_num, HBw⟩
        case measure => simp [intOf]; omega
    · have HD := Lib.hid (show decide (t = s) = false from decide_eq_false hts)
      go_wp2_with fail
      refine start_ (n := 13) (S := fun w' => w'.rangeAt G (i * 20) (pcells t) ∧ PAt w' w.heap.size s ∧ w'.cell? ⟨gc, i, none⟩ = some (.int .i64 y)) (ds := []) #[false, false, false, false, false, false, false, false, false, false, false, false, false] (by kernel_rfl) rfl rfl (⟨HR.out, HP.out, HY.out⟩) (fun hHeld => ?_)
      have HBw := Lib.hid (HB.out.trans ((Below.refl wr.heap.size wr).drew.mono HB.out.size))
      generalize wr.drew = w2 at HBw hHeld ⊢
      clear HR HP HB HY
      refine pure_ (i := 0) (N := some 14) (v := ?_) (a' := ?_) #[true, false, false, false, false, false, false, false, false, false, false, false, false] rfl rfl (by kernel_rfl) (fun _ _ _ h => h) (Or.inl ⟨by rfl, ?_⟩) ?_ ?_
      rotate_left
      · intro w'
        go_simp
        with_reducible rfl
      rotate_left
      · simp only [Act.put, List.setIfInBounds_toArray, List.set_cons_zero, List.set_cons_succ, i64_w, i32_w]
        rfl
      refine pure_ (i := 1) (N := some 15) (v := ?_) (a' := ?_) #[true, true, false, false, false, false, false, false, false, false, false, false, false] rfl rfl (by kernel_rfl) (fun _ _ _ h => h) (Or.inl ⟨by rfl, ?_⟩) ?_ ?_
      rotate_left
      · intro w'
        go_simp
        with_reducible rfl
      rotate_left
      · simp only [Act.put, List.setIfInBounds_toArray, List.set_cons_zero, List.set_cons_succ, i64_w, i32_w]
        rfl
      refine pure_ (i := 2) (N := some 16) (v := ?_) (a' := ?_) #[true, true, true, false, false, false, false, false, false, false, false, false, false] rfl rfl (by kernel_rfl) (fun _ _ _ h => h) (Or.inl ⟨by rfl, ?_⟩) ?_ ?_
      rotate_left
      · intro w'
        have i1 := HI1.out
        go_simp
        with_reducible rfl
      rotate_left
      · simp only [Act.put, List.setIfInBounds_toArray, List.set_cons_zero, List.set_cons_succ, i64_w, i32_w]
        rfl
      refine take_ (i := 3) (N := some 17) (v := .agg #[.int .i64 t.kind, .int .i64 t.fr, .int .i64 t.to, .int .u32 (t.life : Int), .int .u32 (t.seq : Int), .int .u32 (t.asked : Int), .int .u32 (t.boot : Int), .int .i64 t.code, .int .i64 t.err, .int .u32 (t.file : Int), .int .u32 (t.epoch : Int), .int .u32 (t.off : Int), .int .u32 (t.len : Int), .int .u32 (t.size : Int), .int .u32 (t.mode : Int), .int .u32 (t.deny : Int), .int .u32 (t.handle : Int), .string t.path, .string t.other, .string t.data]) (a' := ?_) #[true, true, true, true, false, false, false, false, false, false, false, false, false] rfl rfl (by kernel_rfl) (fun _ _ _ h => h) (yieldsIf_load_mid (by rfl) 27 (.tmp 16) rfl G (i * 20) rfl (pcells t) _ (fun w' hS => hS.1) Tryd.underlying27 rfl pk_info) hHeld ?_ ?_
      rotate_left
      · simp only [Act.put, List.setIfInBounds_toArray, List.set_cons_zero, List.set_cons_succ, i64_w, i32_w]
        rfl
      refine take_ (i := 4) (N := some 18) (v := .agg #[.int .i64 s.kind, .int .i64 s.fr, .int .i64 s.to, .int .u32 (s.life : Int), .int .u32 (s.seq : Int), .int .u32 (s.asked : Int), .int .u32 (s.boot : Int), .int .i64 s.code, .int .i64 s.err, .int .u32 (s.file : Int), .int .u32 (s.epoch : Int), .int .u32 (s.off : Int), .int .u32 (s.len : Int), .int .u32 (s.size : Int), .int .u32 (s.mode : Int), .int .u32 (s.deny : Int), .int .u32 (s.handle : Int), .string s.path, .string s.other, .string s.data]) (a' := ?_) #[true, true, true, true, true, false, false, false, false, false, false, false, false] rfl rfl (by kernel_rfl) (fun _ _ _ h => h) (yieldsIf_load_mid (by rfl) 27 (.tmp 5) rfl w.heap.size 0 rfl (pcells s) _ (fun w' hS j v hv => by rw [Nat.zero_add, cell_at hS.2.1]; simpa [pcells] using hv) Tryd.underlying27 rfl pk_info) hHeld ?_ ?_
      rotate_left
      · simp only [Act.put, List.setIfInBounds_toArray, List.set_cons_zero, List.set_cons_succ, i64_w, i32_w]
        rfl
      refine pure_ (i := 5) (N := some 19) (v := .bool false) (a' := ?_) #[true, true, true, true, true, true, false, false, false, false, false, false, false] rfl rfl (by kernel_rfl) (fun _ _ _ h => h) (Or.inl ⟨by rfl, ?_⟩) ?_ ?_
      · intro w'
        exact (execOp_eq (p := t) (q := s) rfl rfl rfl).trans (by rw [HD.out])
      rotate_left
      · simp only [Act.put, List.setIfInBounds_toArray, List.set_cons_zero, List.set_cons_succ, i64_w, i32_w]
        rfl
      refine pure_ (i := 6) (N := some 20) (v := ?_) (a' := ?_) #[true, true, true, true, true, true, true, false, false, false, false, false, false] rfl rfl (by kernel_rfl) (fun _ _ _ h => h) (Or.inl ⟨by rfl, ?_⟩) ?_ ?_
      rotate_left
      · intro w'
        go_simp
        with_reducible rfl
      rotate_left
      · simp only [Act.put, List.setIfInBounds_toArray, List.set_cons_zero, List.set_cons_succ, i64_w, i32_w]
        rfl
      refine pure_ (i := 7) (N := some 21) (v := undef) (a' := ?_) #[true, true, true, true, true, true, true, true, false, false, false, false, false] rfl rfl (by kernel_rfl) (fun _ _ _ h => h) (Or.inr ⟨by rfl, rfl⟩) ?_ ?_
      rotate_left
      · simp only [Act.put, List.setIfInBounds_toArray, List.set_cons_zero, List.set_cons_succ, i64_w, i32_w]
        rfl
      refine pure_ (i := 8) (N := some 22) (v := undef) (a' := ?_) #[true, true, true, true, true, true, true, true, true, false, false, false, false] rfl rfl (by kernel_rfl) (fun _ _ _ h => h) (Or.inr ⟨by rfl, rfl⟩) ?_ ?_
      rotate_left
      · simp only [Act.put, List.setIfInBounds_toArray, List.set_cons_zero, List.set_cons_succ, i64_w, i32_w]
        rfl
      refine pure_ (i := 9) (N := some 23) (v := undef) (a' := ?_) #[true, true, true, true, true, true, true, true, true, true, false, false, false] rfl rfl (by kernel_rfl) (fun _ _ _ h => h) (Or.inr ⟨by rfl, rfl⟩) ?_ ?_
      rotate_left
      · simp only [Act.put, List.setIfInBounds_toArray, List.set_cons_zero, List.set_cons_succ, i64_w, i32_w]
        rfl
      refine pure_ (i := 10) (N := some 24) (v := undef) (a' := ?_) #[true, true, true, true, true, true, true, true, true, true, true, false, false] rfl rfl (by kernel_rfl) (fun _ _ _ h => h) (Or.inr ⟨by rfl, rfl⟩) ?_ ?_
      rotate_left
      · simp only [Act.put, List.setIfInBounds_toArray, List.set_cons_zero, List.set_cons_succ, i64_w, i32_w]
        rfl
      refine pure_ (i := 11) (N := some 25) (v := undef) (a' := ?_) #[true, true, true, true, true, true, true, true, true, true, true, true, false] rfl rfl (by kernel_rfl) (fun _ _ _ h => h) (Or.inr ⟨by rfl, rfl⟩) ?_ ?_
      rotate_left
      · simp only [Act.put, List.setIfInBounds_toArray, List.set_cons_zero, List.set_cons_succ, i64_w, i32_w]
        rfl
      refine pure_ (i := 12) (N := some 26) (v := ?_) (a' := ?_) #[true, true, true, true, true, true, true, true, true, true, true, true, true] rfl rfl (by kernel_rfl) (fun _ _ _ h => h) (Or.inl ⟨by rfl, ?_⟩) ?_ ?_
      rotate_left
      · intro w'
        go_simp
        with_reducible rfl
      rotate_left
      · simp only [Act.put, List.setIfInBounds_toArray, List.set_cons_zero, List.set_cons_succ, i64_w, i32_w]
        rfl
      refine done_ (by kernel_rfl) ?_
      go_wp2
      go_roundw
      case rel => exact ⟨i + 1, by
        by_cases hii : i = i0
        · subst hii
          have := HI0.out
          rw [List.getElem?_eq_getElem hlt, HT.out] at this
          injection this with this
          exact absurd this hts
        · omega, by go_num, HBw⟩
      case measure => simp [intOf]; omega
/-! ### the counts, plainly -/
/-- cn counts L's packets in had. -/
def Inv (L had : List Pk) (cn : List Int) : Prop := cn = had.map (fun s => (L.count s : Int)) ∧ had.Nodup ∧ ∀ s ∈ L, s ∈ had
theorem Inv.nil : Inv [] [] [] := ⟨rfl, List.nodup_nil, fun s hs => by simp at hs⟩
theorem nodup_idx {l : List Pk} (h : l.Nodup) {i j : Nat} {s : Pk} (hi : l[i]? = some s) (hj : l[j]? = some s) : i = j := by
  obtain ⟨h1, e1⟩ := List.getElem?_eq_some_iff.1 hi
  obtain ⟨h2, e2⟩ := List.getElem?_eq_some_iff.1 hj
  exact (List.getElem_inj h).1 (e1.trans e2.symm)
theorem Inv.more {L had had' : List Pk} {cn cn' : List Int} {s : Pk} (h : Inv L had cn) (k : MoreP had cn s had' cn') : Inv (L ++ [s]) had' cn' := by
  obtain ⟨rfl, hn, ha⟩ := h
  rcases k with ⟨i, hi, rfl, rfl⟩ | ⟨hs, rfl, rfl⟩
  · obtain ⟨hil, he⟩ := List.getElem?_eq_some_iff.1 hi
    refine ⟨?_, hn, fun t ht => ?_⟩
    · refine List.ext_getElem (by simp) (fun j h1 h2 => ?_)
      have hj : j < had'.length := by simpa using h1
      rw [List.getElem_set]
      simp only [List.getElem_map, List.count_append]
      by_cases hji : i = j
      · subst hji
        rw [if_pos rfl]
        simp [List.getD, List.getElem?_eq_getElem hil, he]
      · rw [if_neg hji]
        have : had'[j] ≠ s := fun e => hji (nodup_idx hn hi (by rw [List.getElem?_eq_getElem hj, e]))
        rw [List.count_eq_zero_of_not_mem (l := [s]) (by simpa using this)]
        simp
    · rcases List.mem_append.1 ht with ht | ht
      · exact ha t ht
      · rw [List.mem_singleton.1 ht]; exact List.mem_of_getElem? hi
  · refine ⟨?_, ?_, fun t ht => ?_⟩
    · rw [List.map_append]
      congr 1
      · refine List.map_congr_left (fun t ht => ?_)
        have : t ≠ s := fun e => hs (e ▸ ht)
        rw [List.count_append, List.count_eq_zero_of_not_mem (l := [s]) (by simpa using this)]
        simp
      · have : L.count s = 0 := List.count_eq_zero_of_not_mem (fun hm => hs (ha s hm))
        simp [List.count_append, this]
    · rw [List.nodup_append]
      exact ⟨hn, by simp, fun x hx y hy e => by rw [List.mem_singleton] at hy; exact hs (by rw [← hy, ← e]; exact hx)⟩
    · rcases List.mem_append.1 ht with ht | ht
      · exact List.mem_append_left _ (ha t ht)
      · exact List.mem_append_right _ ht
theorem count_cut (L : List Pk) (k : Nat) (hk : k < L.length) (t : Pk) : L.count t = (L.take k ++ L.drop (k + 1)).count t + (if L[k] = t then 1 else 0) := by
  have h1 : L = L.take k ++ (L[k] :: L.drop (k + 1)) := by rw [List.getElem_cons_drop, List.take_append_drop]
  have h2 : L.count t = (L.take k ++ (L[k] :: L.drop (k + 1))).count t := by rw [← h1]
  rw [h2, List.count_append, List.count_append, List.count_cons]
  by_cases e : L[k] = t
  · simp [e]; omega
  · simp [e]
theorem Inv.cut {L had : List Pk} {cn cn' : List Int} {k : Nat} (h : Inv L had cn) (hk : k < L.length) (hl : LessP had cn L[k] cn') : Inv (L.take k ++ L.drop (k + 1)) had cn' := by
  obtain ⟨rfl, hn, ha⟩ := h
  obtain ⟨i, hi, rfl⟩ := hl
  obtain ⟨hil, he⟩ := List.getElem?_eq_some_iff.1 hi
  refine ⟨?_, hn, fun t ht => ha t ?_⟩
  · refine List.ext_getElem (by simp) (fun j h1 h2 => ?_)
    have hj : j < had.length := by simpa using h1
    rw [List.getElem_set]
    simp only [List.getElem_map]
    by_cases hji : i = j
    · subst hji
      rw [if_pos rfl]
      have hc := count_cut L k hk L[k]
      rw [if_pos rfl] at hc
      simp [List.getD, List.getElem?_eq_getElem hil, he, hc]
    · rw [if_neg hji]
      have hne : L[k] ≠ had[j] := fun e => hji (nodup_idx hn hi (by rw [List.getElem?_eq_getElem hj, e]))
      have hc := count_cut L k hk had[j]
      rw [if_neg hne] at hc
      rw [hc]; simp
  · rcases List.mem_append.1 ht with ht | ht
    · exact List.mem_of_mem_take ht
    · exact List.mem_of_mem_drop ht
theorem Inv.some {L had : List Pk} {cn : List Int} {k : Nat} (h : Inv L had cn) (hk : k < L.length) : ∃ i, had[i]? = some L[k] ∧ 0 < cn.getD i 0 := by
  obtain ⟨rfl, hn, ha⟩ := h
  obtain ⟨i, hi, he⟩ := List.getElem_of_mem (ha L[k] (List.getElem_mem hk))
  refine ⟨i, by rw [List.getElem?_eq_getElem hi, he], ?_⟩
  have : 0 < L.count L[k] := List.count_pos_iff.2 (List.getElem_mem hk)
  simp [List.getD, List.getElem?_eq_getElem hi, he]
theorem Inv.bound {L had : List Pk} {cn : List Int} (h : Inv L had cn) (hl : L.length ≤ 200) : ∀ x ∈ cn, 0 ≤ x ∧ x ≤ 100000 := by
  obtain ⟨rfl, _, _⟩ := h
  intro x hx
  obtain ⟨s, _, rfl⟩ := List.mem_map.1 hx
  have := List.count_le_length (a := s) (l := L)
  omega
theorem Inv.len {L had : List Pk} {cn : List Int} (h : Inv L had cn) : cn.length = had.length := by rw [h.1, List.length_map]
theorem Inv.zero {had : List Pk} {cn : List Int} (h : Inv [] had cn) : ∀ i (hi : i < cn.length), cn[i] = 0 := by
  obtain ⟨rfl, _, _⟩ := h
  intro i hi
  simp
end Go.Proofs.YtiedmkgdhfkcoaaDoor.Net
namespace Go.Proofs.YtiedmkgdhfkcoaaDoor.Net
open Go.RowKit Go.Sees Go.Own Go.Blk Go.OpsL Go.XdrL Go.PktL Go.Proofs.YtiedmkgdhfkcoaaDoor.Pkt Go.Proofs.YtiedmkgdhfkcoaaDoorW.PrintLast Go.Proofs.YtiedmkgdhfkcoaaDoorW.PrintWords
set_option linter.unusedVariables false
set_option linter.unusedSimpArgs false
set_option maxRecDepth 100000
abbrev own (v : Value) : List Nat := v.ownBlock.toList
theorem mem_own {v : Value} {k : Nat} : k ∈ own v ↔ v.ownBlock = some k := by simp [own]
/-- The net at p, its packets L; the lists hv (packets) and cv (counts); other blocks Y. -/
structure Acc (w0 w : World) (p : Nat) (L : List Pk) (hv cv : Value) (had : List Pk) (cn : List Int) (Y : List Nat) : Prop where
  one : One w0 w p L (own hv ++ own cv ++ Y)
  hrow : partRow w 0 27 20 hv (had).length (prow (had))
  crow : partRow w 0 3 1 cv (cn).length (icells (cn))
  len : cn.length = had.length
  ne : ∀ k, hv.ownBlock = some k → cv.ownBlock ≠ some k
  base : ∀ k, hv.ownBlock = some k ∨ cv.ownBlock = some k → w0.heap.size ≤ k
  yne : ∀ y ∈ Y, hv.ownBlock ≠ some y ∧ cv.ownBlock ≠ some y
variable {w0 w w' : World} {p : Nat} {L L' had : List Pk} {cn : List Int} {hv cv : Value} {X Y : List Nat}
theorem One.re {G : Nat → Prop} (h : One w0 w p L X) (hf : Fr G w w') (hG : ∀ k, G k → k ∈ X ∧ w0.heap.size ≤ k) {X' : List Nat} (hX : ∀ x ∈ X', (x ∈ X ∨ w.heap.size ≤ x) ∧ x < w'.heap.size) : One w0 w' p L X' := by
  obtain ⟨F, h1, h2⟩ := h.has
  refine ⟨⟨F, h1.keep hf (fun k hk hg => (h2 k hk).2 (hG k hg).1), fun k hk => ⟨(h2 k hk).1, fun hx => ?_⟩⟩, fun x hx => (hX x hx).2, h.bel.trans (hf.below h.bel.size (fun k hk => (hG k hk).2))⟩
  rcases (hX k hx).1 with e | e
  · exact (h2 k hk).2 e
  · have := h1.lt k hk; omega
theorem Acc.step (h : Acc w0 w p L hv cv had cn Y) (h1 : One w0 w' p L' (own hv ++ own cv ++ Y)) (h2 : Kept (own hv ++ own cv ++ Y) w w') : Acc w0 w' p L' hv cv had cn Y ∧ Kept Y w w' :=
  ⟨⟨h1, part_kept h.hrow (fun k hk => h2 k (by simp [own, hk])), part_kept h.crow (fun k hk => h2 k (by simp [own, hk])), h.len, h.ne, h.base, h.yne⟩, fun y hy => h2 y (by simp [hy])⟩
theorem Acc.below (h : Acc w0 w p L hv cv had cn Y) (hb : Below w.heap.size w w') : Acc w0 w' p L hv cv had cn Y :=
  ⟨h.one.below hb, part_below h.hrow hb, part_below h.crow hb, h.len, h.ne, h.base, h.yne⟩
theorem Acc.add (h : Acc w0 w p L hv cv had cn Y) (hb : Below w.heap.size w w') {x : Nat} (h1 : w.heap.size ≤ x) (h2 : x < w'.heap.size) : Acc w0 w' p L hv cv had cn (x :: Y) :=
  ⟨(h.one.add hb h1 h2).less (fun y hy => by
    simp only [List.mem_append, List.mem_cons] at hy ⊢
    rcases hy with (hy | hy) | hy | hy
    · exact .inr (.inl (.inl hy))
    · exact .inr (.inl (.inr hy))
    · exact .inl hy
    · exact .inr (.inr hy)), part_below h.hrow hb, part_below h.crow hb, h.len, h.ne, h.base, fun y hy => by
    rcases List.mem_cons.1 hy with e | e
    · exact ⟨fun k => by have := (h.hrow.lt _ k).2; omega, fun k => by have := (h.crow.lt _ k).2; omega⟩
    · exact h.yne y e⟩
theorem Acc.less (h : Acc w0 w p L hv cv had cn Y) {Z : List Nat} (hZ : ∀ y ∈ Z, y ∈ Y) : Acc w0 w p L hv cv had cn Z :=
  ⟨h.one.less (fun y hy => by
    simp only [List.mem_append] at hy ⊢
    rcases hy with hy | hy
    · exact .inl hy
    · exact .inr (hZ y hy)), h.hrow, h.crow, h.len, h.ne, h.base, fun y hy => h.yne y (hZ y hy)⟩
theorem Acc.kept (h : Acc w0 w p L hv cv had cn Y) (hb : Below w.heap.size w w') : Kept Y w w' := fun y hy => hb.block y (h.one.xs y (by simp [hy]))
theorem acc_send (h : Acc w0 w p L hv cv had cn Y) (s : Pk) (hs : s.OK) : Calls Tryd.prog 19 #[.pointer (some ⟨p, 0, none⟩), .agg #[.int .i64 s.kind, .int .i64 s.fr, .int .i64 s.to, .int .u32 (s.life : Int), .int .u32 (s.seq : Int), .int .u32 (s.asked : Int), .int .u32 (s.boot : Int), .int .i64 s.code, .int .i64 s.err, .int .u32 (s.file : Int), .int .u32 (s.epoch : Int), .int .u32 (s.off : Int), .int .u32 (s.len : Int), .int .u32 (s.size : Int), .int .u32 (s.mode : Int), .int .u32 (s.deny : Int), .int .u32 (s.handle : Int), .string s.path, .string s.other, .string s.data]] w fun e w' => ∃ c l', sendR L s = (c, l') ∧ e = .returned (.int .i64 c) ∧ Acc w0 w' p l' hv cv had cn Y ∧ Kept Y w w' :=
  (one_send h.one s hs).mono fun e w' ⟨c, l2, he, hr, hn, hk⟩ => ⟨c, l2, he, hr, h.step hn hk⟩
theorem acc_take (h : Acc w0 w p L hv cv had cn Y) (i : Int) : Calls Tryd.prog 21 #[.pointer (some ⟨p, 0, none⟩), .int .i64 i] w fun e w' => ∃ s c l', takeR L i = (s, c, l') ∧ e = .returned (.tuple #[.agg #[.int .i64 s.kind, .int .i64 s.fr, .int .i64 s.to, .int .u32 (s.life : Int), .int .u32 (s.seq : Int), .int .u32 (s.asked : Int), .int .u32 (s.boot : Int), .int .i64 s.code, .int .i64 s.err, .int .u32 (s.file : Int), .int .u32 (s.epoch : Int), .int .u32 (s.off : Int), .int .u32 (s.len : Int), .int .u32 (s.size : Int), .int .u32 (s.mode : Int), .int .u32 (s.deny : Int), .int .u32 (s.handle : Int), .string s.path, .string s.other, .string s.data], .int .i64 c]) ∧ Acc w0 w' p l' hv cv had cn Y ∧ Kept Y w w' :=
  (one_take h.one i).mono fun e w' ⟨s, c, l2, he, hr, hn, hk⟩ => ⟨s, c, l2, he, hr, h.step hn hk⟩
theorem acc_double (h : Acc w0 w p L hv cv had cn Y) (i : Int) : Calls Tryd.prog 24 #[.pointer (some ⟨p, 0, none⟩), .int .i64 i] w fun e w' => ∃ c l', doubleR L i = (c, l') ∧ e = .returned (.int .i64 c) ∧ Acc w0 w' p l' hv cv had cn Y ∧ Kept Y w w' :=
  (one_double h.one i).mono fun e w' ⟨c, l2, he, hr, hn, hk⟩ => ⟨c, l2, he, hr, h.step hn hk⟩
theorem acc_move (h : Acc w0 w p L hv cv had cn Y) (i j : Int) : Calls Tryd.prog 26 #[.pointer (some ⟨p, 0, none⟩), .int .i64 i, .int .i64 j] w fun e w' => ∃ c l', moveR L i j = (c, l') ∧ e = .returned (.int .i64 c) ∧ Acc w0 w' p l' hv cv had cn Y ∧ Kept Y w w' :=
  (one_move h.one i j).mono fun e w' ⟨c, l2, he, hr, hn, hk⟩ => ⟨c, l2, he, hr, h.step hn hk⟩
theorem acc_len (h : Acc w0 w p L hv cv had cn Y) : Calls Tryd.prog 28 #[.pointer (some ⟨p, 0, none⟩)] w fun e w' => e = .returned (.int .i64 L.length) ∧ w' = w := one_len h.one
theorem acc_at (h : Acc w0 w p L hv cv had cn Y) (i : Int) : Calls Tryd.prog 29 #[.pointer (some ⟨p, 0, none⟩), .int .i64 i] w fun e w' => e = .returned (.string (atR L i)) ∧ w' = w := one_at h.one i
theorem acc_more (h : Acc w0 w p L hv cv had cn Y) (hf : had.length ≤ 390) (hb : ∀ x ∈ cn, 0 ≤ x ∧ x ≤ 100000) (s : Pk) :
    Calls Tryd.prog 30 #[hv, cv, .agg #[.int .i64 s.kind, .int .i64 s.fr, .int .i64 s.to, .int .u32 (s.life : Int), .int .u32 (s.seq : Int), .int .u32 (s.asked : Int), .int .u32 (s.boot : Int), .int .i64 s.code, .int .i64 s.err, .int .u32 (s.file : Int), .int .u32 (s.epoch : Int), .int .u32 (s.off : Int), .int .u32 (s.len : Int), .int .u32 (s.size : Int), .int .u32 (s.mode : Int), .int .u32 (s.deny : Int), .int .u32 (s.handle : Int), .string s.path, .string s.other, .string s.data]] w fun e w' => ∃ hv' cv' had' cn', e = .returned (.tuple #[hv', cv']) ∧ MoreP had cn s had' cn' ∧ Acc w0 w' p L hv' cv' had' cn' Y ∧ Kept Y w w' := by
  refine (more_calls h.hrow h.crow h.len hf h.ne hb s).mono fun e w' ⟨hv', cv', had', cn', he, hm, h1, h2, h3, h4, h5, h6⟩ => ⟨hv', cv', had', cn', he, hm, ?_, fun y hy => h3.block y (h.one.xs y (by simp [hy])) (fun k => ?_)⟩
  · refine ⟨h.one.re h3 (fun k hk => ⟨by simp only [List.mem_append, mem_own]; exact .inl hk, h.base k hk⟩) (fun x hx => ?_), h1, h2, ?_, h6, fun k hk => ?_, fun y hy => ?_⟩
    · simp only [List.mem_append, mem_own] at hx ⊢
      rcases hx with (hx | hx) | hx
      · exact ⟨(h4 x hx).elim (fun e => .inl (.inl (.inl e))) .inr, (h1.lt x hx).2⟩
      · exact ⟨(h5 x hx).elim (fun e => .inl (.inl (.inr e))) .inr, (h2.lt x hx).2⟩
      · exact ⟨.inl (.inr hx), Nat.lt_of_lt_of_le (h.one.xs x (by simp [hx])) h3.size⟩
    · rcases hm with ⟨i, _, rfl, rfl⟩ | ⟨_, rfl, rfl⟩
      · rw [List.length_set]; exact h.len
      · simp [h.len]
    · have := h.one.bel.size
      rcases hk with hk | hk
      · rcases h4 k hk with e | e
        · exact h.base k (.inl e)
        · omega
      · rcases h5 k hk with e | e
        · exact h.base k (.inr e)
        · omega
    · have hy' := h.one.xs y (by simp [hy])
      refine ⟨fun e => ?_, fun e => ?_⟩
      · rcases h4 y e with e | e
        · exact (h.yne y hy).1 e
        · omega
      · rcases h5 y e with e | e
        · exact (h.yne y hy).2 e
        · omega
  · rcases k with k | k
    · exact (h.yne y hy).1 k
    · exact (h.yne y hy).2 k
theorem acc_fewer (h : Acc w0 w p L hv cv had cn Y) (hf : had.length ≤ 390) (hb : ∀ x ∈ cn, 0 ≤ x ∧ x ≤ 100000) (s : Pk) (hex : ∃ i, had[i]? = some s ∧ 0 < cn.getD i 0) :
    Calls Tryd.prog 31 #[hv, cv, .agg #[.int .i64 s.kind, .int .i64 s.fr, .int .i64 s.to, .int .u32 (s.life : Int), .int .u32 (s.seq : Int), .int .u32 (s.asked : Int), .int .u32 (s.boot : Int), .int .i64 s.code, .int .i64 s.err, .int .u32 (s.file : Int), .int .u32 (s.epoch : Int), .int .u32 (s.off : Int), .int .u32 (s.len : Int), .int .u32 (s.size : Int), .int .u32 (s.mode : Int), .int .u32 (s.deny : Int), .int .u32 (s.handle : Int), .string s.path, .string s.other, .string s.data]] w fun e w' => ∃ cn', e = .returned (.bool true) ∧ LessP had cn s cn' ∧ Acc w0 w' p L hv cv had cn' Y ∧ Kept Y w w' := by
  refine (fewer_calls h.hrow h.crow h.len hf h.ne hb s hex).mono fun e w' ⟨cn', he, hm, h1, h2, h3⟩ => ⟨cn', he, hm, ⟨h.one.re h3 (fun k hk => ⟨by simp only [List.mem_append, mem_own]; exact .inl (.inr hk), h.base k (.inr hk)⟩) (fun x hx => ⟨.inl hx, Nat.lt_of_lt_of_le (h.one.xs x hx) h3.size⟩), h1, h2, ?_, h.ne, h.base, h.yne⟩, fun y hy => h3.block y (h.one.xs y (by simp [hy])) (fun k => (h.yne y hy).2 k)⟩
  obtain ⟨i, _, rfl⟩ := hm
  rw [List.length_set]; exact h.len
theorem acc_new {w0 w : World} (h : Below w0.heap.size w0 w) : Acc w0 (w.alloc (.cells #[.slice none 0 0] 46)) w.heap.size [] (.slice none 0 0) (.slice none 0 0) [] [] [] :=
  ⟨one_newX h (X := []) (by simp), part_of_own (World.ownsRow_nil ..), part_of_own (World.ownsRow_nil ..), rfl, fun k hk => by simp [Value.ownBlock] at hk, fun k hk => by simp [Value.ownBlock] at hk, fun y hy => by simp at hy⟩
theorem Inv.perm {L L' had : List Pk} {cn : List Int} (h : Inv L had cn) (hc : ∀ s, L'.count s = L.count s) : Inv L' had cn :=
  ⟨by rw [h.1]; exact List.map_congr_left (fun s _ => by rw [hc]), h.2.1, fun s hs => h.2.2 s (List.count_pos_iff.1 (by rw [← hc]; exact List.count_pos_iff.2 hs))⟩
theorem count_moved (L : List Pk) (k t : Nat) (hk : k < L.length) (s : Pk) : (dmoved L k t L[k]).count s = L.count s := by
  have h1 := count_cut L k hk s
  unfold dmoved
  rw [List.count_append, List.count_append, h1]
  have h2 : ((L.take k ++ L.drop (k + 1)).take t).count s + ((L.take k ++ L.drop (k + 1)).drop t).count s = (L.take k ++ L.drop (k + 1)).count s := by
    rw [← List.count_append, List.take_append_drop]
  rw [← h2]
  generalize L.take k ++ L.drop (k + 1) = M
  by_cases e : L[k] = s
  · simp [e]; omega
  · simp [e]
theorem move_inv {L had : List Pk} {cn : List Int} (h : Inv L had cn) (i j : Int) : Inv (moveR L i j).2 had cn ∧ (moveR L i j).2.length = L.length := by
  unfold moveR
  split
  · rename_i hi
    split
    · rename_i hj
      have hk : i.toNat < L.length := by omega
      rw [getD_get L i.toNat hk]
      refine ⟨h.perm (count_moved L i.toNat j.toNat hk), ?_⟩
      simp [dmoved]; omega
    · exact ⟨h, rfl⟩
  · exact ⟨h, rfl⟩
theorem send_cases (L : List Pk) (s : Pk) : (sendR L s).1 ≠ 0 ∧ (sendR L s).2 = L ∨ sendR L s = (0, L ++ [s]) := by
  unfold sendR
  split
  · split
    · exact .inl ⟨fun e => (by cases e), rfl⟩
    · exact .inr rfl
  · exact .inl ⟨fun e => (by cases e), rfl⟩
theorem double_cases (L : List Pk) (i : Int) : (doubleR L i).1 ≠ 0 ∧ (doubleR L i).2 = L ∨ ∃ k : Nat, ∃ hk : k < L.length, i = (k : Int) ∧ doubleR L i = (0, L ++ [L[k]]) := by
  unfold doubleR
  split
  · rename_i hi
    obtain ⟨k, rfl, hk, ht⟩ := idx i _ hi
    split
    · exact .inl ⟨fun e => (by cases e), rfl⟩
    · exact .inr ⟨k, hk, rfl, by rw [ht, getD_get L k hk]⟩
  · exact .inl ⟨fun e => (by cases e), rfl⟩
theorem take_cases (L : List Pk) (i : Int) : takeR L i = (Pk.zero, 7, L) ∨ ∃ k : Nat, ∃ hk : k < L.length, i = (k : Int) ∧ takeR L i = (L[k], 0, L.take k ++ L.drop (k + 1)) := by
  unfold takeR
  split
  · rename_i hi
    obtain ⟨k, rfl, hk, ht⟩ := idx i _ hi
    exact .inr ⟨k, hk, rfl, by rw [ht, getD_get L k hk]⟩
  · exact .inl rfl
theorem dread_back (s : Pk) (h : s.OK) (hr : right s = true) (w : World) : Calls Tryd.prog 16 #[.string s.bytes] w fun e w' => e = .returned (.tuple #[.agg #[.int .i64 s.kind, .int .i64 s.fr, .int .i64 s.to, .int .u32 (s.life : Int), .int .u32 (s.seq : Int), .int .u32 (s.asked : Int), .int .u32 (s.boot : Int), .int .i64 s.code, .int .i64 s.err, .int .u32 (s.file : Int), .int .u32 (s.epoch : Int), .int .u32 (s.off : Int), .int .u32 (s.len : Int), .int .u32 (s.size : Int), .int .u32 (s.mode : Int), .int .u32 (s.deny : Int), .int .u32 (s.handle : Int), .string s.path, .string s.other, .string s.data], .int .i64 0]) ∧ Below w.heap.size w w' := by
  have hs : s.bytes.size ≤ 140737488351232 := by
    obtain ⟨_, _, _, _, _, _, _, s1, s2, s3⟩ := (right_iff s).1 hr
    unfold Pk.bytes
    simp only [ByteArray.size_append, nums4_size, text4_size, Pk.nums, List.length_cons, List.length_nil, padOf]
    omega
  have h0 := dread_any s.bytes hs w
  rw [read_bytes s h hr] at h0
  exact h0
end Go.Proofs.YtiedmkgdhfkcoaaDoor.Net
