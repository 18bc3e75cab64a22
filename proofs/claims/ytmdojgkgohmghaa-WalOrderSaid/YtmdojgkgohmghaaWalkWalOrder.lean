/- Layer wal: the walk of WalOrder. -/
import Derived.Test.YtmdojgkgohmghaaWalN
namespace Go.Proofs.Ytmdojgkgohmghaa.Wal
open Go.RowKit Go.Own Go.Blk Go.DevL Go.XdrL Go.WalL Go.OpsL Go.Sees Go.Proofs.Ytmdojgkgohmghaa.P04 Go.Proofs.Ytmdojgkgohmghaa.Xdr Go.Proofs.YtmdojgkgohmghaaW.PrintLast Go.Proofs.YtmdojgkgohmghaaW.PrintWords
open Go.Proofs.Ytmdojgkgohmghaa.Dev hiding stop_here execOp_build execOp_alloc execOp_store execOp_load execOp_buildSlice execOp_makeSlice execOp_box execOp_copy execOp_append wpList_val wpList_none Up
set_option linter.unusedVariables false
set_option linter.unusedSimpArgs false
set_option maxRecDepth 100000
theorem execOp_slice {P : Program} {a : Act} {w w1 : World} {o : Oper} {t : TypeId} {x : Operand} {lo hi mx : Option Operand} {X : Value} {L H M : Option Value} {v : Value} (ho : o.op = .slice t x lo hi mx) (hx : a.eval x = X) (hL : lo.map a.eval = L) (hH : hi.map a.eval = H) (hM : mx.map a.eval = M) (hr : (Instr.sliceAt t X L H M).run P w = .ok v w1) : (execOp a.eval o).run P w = .ok (.value v) w1 := by
  subst hx hL hH hM
  obtain ⟨dst, op, ty, pos, after, guard⟩ := o
  cases ho
  show (do let v ← Instr.sliceAt t (a.eval x) (lo.map a.eval) (hi.map a.eval) (mx.map a.eval); pure (Next.value v) : Sem Next).run P w = _
  rw [Sem.run_bind, hr]
  rfl
theorem size_blk (w : World) : (sizeOf 26).run Try.prog w = .ok 2 w := by
  obtain ⟨i, h1, _, h2, _⟩ := info_get info_n
  simp [sizeOf, typeInfo, h1, h2]
theorem run_from (w : World) (a : Option Addr) (n c i : Nat) (hi : i ≤ n) : (Instr.sliceAt 22 (.slice a n c) (some (.int .i64 (i : Int))) none none).run Try.prog w = .ok (.slice (if c = i then a else a.map (·.add (i * 2))) (n - i) (c - i)) w := by
  have he : Try.prog.elem 22 = 26 := by kernel_rfl
  rw [run_sliceAt_slice w _ _ _ _ _ (by rw [he]; exact Try.underlying22), run_slice_l w _ _ _ _ (by rw [he]; exact Try.underlying22) _ _ (by omega) (by omega), he, size_blk]
  simp [Result.andThen, sliced]
theorem run_upto (w : World) (a : Option Addr) (n c i : Nat) (hi : i ≤ c) : (Instr.sliceAt 22 (.slice a n c) none (some (.int .i64 (i : Int))) none).run Try.prog w = .ok (.slice (if c = 0 then a else a.map (·.add (0 * 2))) i c) w := by
  have he : Try.prog.elem 22 = 26 := by kernel_rfl
  rw [run_sliceAt_slice w _ _ _ _ _ (by rw [he]; exact Try.underlying22), run_slice_h w _ _ _ _ (by rw [he]; exact Try.underlying22) _ _ (by omega) (by omega), he, size_blk]
  simp [Result.andThen, sliced]
set_option maxHeartbeats 16000000 in
theorem order_law {w : World} {A1 : Option Addr} {c1 : Nat} {b : List (Int × ByteArray)} (turn : Int) (hA1 : ArrAt w A1 ncells 2 b) (hc1 : b.length ≤ c1) (hm1 : b.length ≤ 140737488355328) :
    Calls Try.prog 4 #[.slice A1 b.length c1, .int .i64 turn] w fun e w' => e = .returned (.bool true) ∧ Below w.heap.size w w' := by
  have HA1 := Lib.hid hA1
  clear hA1
  go_enter Try.func4, Try.ntmps4
  go_wp2_with fail
  refine (alive_calls _).mono ?_
  rintro e w1 ⟨rfl, hb⟩
  have HB1 := Lib.hid hb
  clear hb
  go_wp2_with fail
  refine (right_law A1 c1 (HA1.out.below HB1.out) hc1 hm1).mono ?_
  rintro e w2 ⟨rfl, hb⟩
  have HB2 := Lib.hid (HB1.out.trans (hb.mono HB1.out.size))
  clear hb HB1
  by_cases hf0 : ¬ fit 5 b
  · rw [decide_eq_false hf0]
    clear hf0
    go_wp2_with fail
    refine (alive_calls _).mono ?_
    rintro e w3 ⟨rfl, hb⟩
    have HB3 := Lib.hid (HB2.out.trans (hb.mono HB2.out.size))
    clear hb
    go_wp2
    go_ret
    exact ⟨rfl, HB3.out⟩
  have hf1 : fit 5 b := Decidable.not_not.1 hf0
  clear hf0
  rw [decide_eq_true hf1]
  have hl1 := hf1.1
  have hl40 := hf1.2.1
  obtain ⟨k, hk, hidx⟩ := idx_of turn b.length (by omega) (by omega)
  have he0 : ¬ ((b.length : Int) = 0) := by omega
  have he1 : IntKind.u64.wrap (b.length : Int) = (b.length : Int) := by rw [IntKind.wrap_u64]; omega
  have hperm : (b.drop k ++ b.take k).Perm b := by
    have := List.perm_append_comm (l₁ := b.drop k) (l₂ := b.take k)
    rw [List.take_append_drop] at this
    exact this
  have hfc := fit_perm hf1 hperm
  -- plainly
  obtain ⟨d1, hcm1, hlv1, hn1, ht1, hda1⟩ := commitL_fit (last := 0) (b := b) (fresh_live 46) (by rw [size46 fresh46]; exact hf1) (by decide)
  obtain ⟨d2, hcm2, hlv2, hn2, ht2, hda2⟩ := commitL_fit (last := 0) (b := b.drop k ++ b.take k) (fresh_live 46) (by rw [size46 fresh46]; exact hfc) (by decide)
  have hlen1 : (dataOf d1).length = 5 := by rw [dataOf_len, hn1, fresh46]
  have hsame : dataOf d2 = dataOf d1 := by rw [hda1, hda2, ← after_perm hf1 hperm.symm]
  rw [hsame] at hda2
  obtain ⟨D, hD⟩ : ∃ D, dataOf d1 = D := ⟨_, rfl⟩
  rw [hD] at hlen1 hsame
  have HDD := Lib.hid (And.intro hD hsame)
  have HC1 := Lib.hid hcm1
  have HC2 := Lib.hid hcm2
  have HLV := Lib.hid (And.intro hlv1.alive hlv2.alive)
  have HT0 := Lib.hid (show (fresh 46).late.length ≤ 900000 by simp [fresh])
  have HO := Lib.hid open46
  obtain ⟨f, hf⟩ : ∃ f, fresh 46 = f := ⟨_, rfl⟩
  have HN1 := Lib.hid (fun W (hb : Below w.heap.size w W) X hX => has_new 46 w W (X := X) hb hX)
  have HN2 := Lib.hid (fun W p X (h : Has w W p (fresh 46) X) => two_new 46 h)
  rw [hf] at HC1 HC2 HT0 HO HN1 HN2
  have HF := Lib.hid hf1
  obtain ⟨c, hc⟩ : ∃ c, b.drop k ++ b.take k = c := ⟨_, rfl⟩
  have hcl : c.length = b.length := by rw [← hc]; exact hperm.length_eq
  -- the appends
  obtain ⟨u3, w3, hr3, ho3, hf3, hw3⟩ := nappend w2 (u := .slice none 0 0) (l := []) (part_of_own (World.ownsRow_nil ..)) (if c1 = k then A1 else A1.map (·.add (k * 2))) (c1 - k) (b.drop k) (shows_drop (HA1.out.below HB2.out) k c1 hk hc1) (by simp) (by rw [List.length_drop]; omega)
  have hb3 : Below w2.heap.size w2 w3 := hf3.below (Nat.le_refl _) (fun k hk => by simp [Value.ownBlock] at hk)
  rw [List.nil_append] at ho3
  obtain ⟨u4, w4, hr4, ho4, hf4, hw4⟩ := nappend w3 ho3 (if c1 = 0 then A1 else A1.map (·.add (0 * 2))) c1 (b.take k) ((shows_take ((HA1.out.below HB2.out).below hb3) k hk).2 c1) (by rw [List.length_drop]; omega) (by rw [List.length_take]; omega)
  have hb4 : Below w2.heap.size w2 w4 := hb3.trans (hf4.below hb3.size (fun j hj => by
    rcases hw3 j hj with e | e
    · simp [Value.ownBlock] at e
    · exact e))
  rw [hc] at HC2 ho4
  rw [List.length_drop] at hr3
  rw [List.length_take, Nat.min_eq_left (by omega)] at hr4
  have HB4 := Lib.hid (HB2.out.trans (hb4.mono HB2.out.size))
  obtain ⟨g4, cp4, e4, _⟩ := nrow_get ho4 0 (by omega)
  subst e4
  have HR4 := Lib.hid ho4
  have hg4 : w.heap.size ≤ g4 := by
    rcases hw4 g4 rfl with e | e
    · rcases hw3 g4 e with e' | e'
      · simp [Value.ownBlock] at e'
      · have := HB2.out.size; omega
    · have := HB2.out.size; have := hb3.size; omega
  have hg4l : g4 < w4.heap.size := (ho4.lt g4 rfl).2
  have HR3' := Lib.hid hr3
  have HR4' := Lib.hid hr4
  clear hcm1 hcm2 hlv1 hlv2 hn1 hn2 ht1 ht2 hda1 hda2 hD hsame hf hf1 hfc hperm hc hr3 ho3 hf3 hw3 hb3 hr4 ho4 hf4 hw4 hb4
  go_wp2_with ((with_reducible refine gate_dst (N := 31) rfl ?_); refine stop_here ?_)
  refine Lib.hid ?_
  rw [hidx]
  refine wpList_val rfl rfl (execOp_slice (X := .slice A1 b.length c1) (L := some (.int .i64 (k : Int))) (H := none) (M := none) rfl rfl rfl rfl rfl (run_from w2 A1 b.length c1 k (by omega))) ?_
  go_wp2_with ((with_reducible refine gate_dst (N := 32) rfl ?_); refine wpList_val rfl rfl (execOp_append rfl rfl rfl HR3'.out) ?_; refine stop_here ?_)
  refine Lib.hid ?_
  go_wp2_with ((with_reducible refine gate_dst (N := 36) rfl ?_); refine stop_here ?_)
  refine Lib.hid ?_
  refine wpList_val rfl rfl (execOp_slice (X := .slice A1 b.length c1) (L := none) (H := some (.int .i64 (k : Int))) (M := none) rfl rfl rfl rfl rfl (run_upto w3 A1 b.length c1 k (by omega))) ?_
  go_wp2_with ((with_reducible refine gate_dst (N := 37) rfl ?_); refine wpList_val rfl rfl (execOp_append rfl rfl rfl HR4'.out) ?_; refine stop_here ?_)
  refine Lib.hid ?_
  clear HR3' HR4' hidx
  go_wp2_with fail
  refine (HN1.out w4 HB4.out [g4] (fun k hk => by simp at hk; omega)).mono ?_
  rintro e w5 ⟨⟨p, rfl, h5⟩, hb5⟩
  have H5 := Lib.hid h5
  have HR5 := Lib.hid (part_below HR4.out hb5)
  clear h5 hb5 HN1
  go_wp2_with fail
  refine (has_open H5.out HT0.out).mono ?_
  rw [HO.out]
  rintro e w6 ⟨_, hk6, _, ho⟩
  rw [if_pos rfl] at ho
  obtain ⟨q, rfl, hL6, hqs, h6⟩ := ho
  have hqw : w.heap.size ≤ q := by have := H5.out.bel.size; omega
  have HL6 := Lib.hid hL6
  have H6 := Lib.hid h6
  have HR6 := Lib.hid (part_kept HR5.out fun k hk => by cases hk; exact hk6 g4 (by simp))
  clear hL6 h6 hqs H5 HR5 hk6
  go_wp2_with fail
  refine (HN2.out w6 p [q, g4] H6.out).mono ?_
  rintro e w7 ⟨⟨p2, rfl, h7⟩, hb7⟩
  have H7 := Lib.hid h7
  have HR7 := Lib.hid (part_below HR6.out hb7)
  have HL7 := Lib.hid (HL6.out.below hb7)
  have HQ7 := Lib.hid (show q < w7.heap.size ∧ g4 < w7.heap.size from ⟨HL7.out.lt, (HR7.out.lt g4 rfl).2⟩)
  clear h7 hb7 H6 HR6 HL6 HN2
  go_wp2_with fail
  refine (two_open H7.out HT0.out (by rw [HO.out])).mono ?_
  rw [HO.out]
  rintro e w8 ⟨hk8, _, q2, rfl, hL8, hqs8, h8⟩
  have hq2w : w.heap.size ≤ q2 := by have := H7.out.bel.size; omega
  have HNE := Lib.hid (show q2 ≠ q ∧ g4 ≠ q2 from ⟨by have := HQ7.out.1; omega, by have := HQ7.out.2; omega⟩)
  have HNG := Lib.hid (show g4 ≠ q from fun e => by
    have h1 := HL7.out.1
    have h2 := HR7.out
    obtain ⟨_, h3⟩ := h2
    rcases h3 with ⟨h3, _⟩ | ⟨g, cap, cur, h3, _, h4, _⟩
    · cases h3
    · cases h3
      rw [e, h1] at h4
      cases h4)
  have HL8 := Lib.hid (HL7.out.kept hk8 (by simp))
  have HM8 := Lib.hid hL8
  have H8 := Lib.hid h8
  have HR8 := Lib.hid (part_kept HR7.out fun k hk => by cases hk; exact hk8 g4 (by simp))
  clear hL8 h8 hqs8 hk8 H7 HR7 HL7 HQ7
  go_wp2_with fail
  refine (two_commit1 (b := b) H8.out HL8.out (by simp) hqw A1 c1 (HA1.out.below H8.out.bel) (fun h0 a ha => .inl (arr_old HA1.out h0 a ha)) hm1 HT0.out).mono ?_
  rw [HC1.out]
  rintro e w9 ⟨rfl, h9, hL9, hk9, _⟩
  have H9 := Lib.hid h9.swap
  have HL9 := Lib.hid hL9
  have HM9 := Lib.hid (show LAt w9 q2 p2 0 false from ⟨(hk9 q2 (by simp) HNE.out.1).trans HM8.out.1, HM8.out.2⟩)
  have HR9 := Lib.hid (part_kept HR8.out fun k hk => by cases hk; exact hk9 g4 (by simp) HNG.out)
  clear h9 hL9 hk9 H8 HL8 HM8 HR8 HC1
  have hcm := two_commit1 (b := c) H9.out HM9.out (by simp) hq2w (some ⟨g4, 0, none⟩) cp4 (arr_of_row HR9.out) (fun h0 a ha => by cases ha; exact .inr (by simp)) (by omega) HT0.out
  rw [HC2.out, hcl] at hcm
  have HCM := Lib.hid hcm
  clear hcm
  go_wp2_with fail
  refine HCM.out.mono ?_
  rintro e wa ⟨rfl, ha, hMa, hka, _⟩
  have HA := Lib.hid ha.swap
  have HMa := Lib.hid hMa
  have HLa := Lib.hid (show LAt wa q p (0 + 1) false from ⟨(hka q (by simp) HNE.out.1.symm).trans HL9.out.1, HL9.out.2⟩)
  clear ha hMa hka H9 HL9 HM9 HR9 HC2 HCM
  go_wp2_with fail
  refine (datas_calls HA.out.fst HLa.out HLV.out.1).mono ?_
  rw [HDD.out.1]
  rintro e wb ⟨ab, cb, rfl, hrb, hob, hbb⟩
  have HBd := Lib.hid (HA.out.below hbb)
  have HMb := Lib.hid (HMa.out.below hbb)
  have HRb := Lib.hid hrb
  clear hrb hob hbb HA HMa HLa
  go_wp2_with fail
  refine (datas_calls HBd.out.snd HMb.out HLV.out.2).mono ?_
  rw [HDD.out.2]
  rintro e wc ⟨ac, cc, rfl, hrc, hoc, hbc⟩
  have HRc := Lib.hid hrc
  have HRb' := Lib.hid (part_below HRb.out hbc)
  have HBc := Lib.hid (HBd.out.bel.trans (hbc.mono HBd.out.bel.size))
  clear hrc hoc hbc HBd HMb HRb
  have hsm := fun W (hb : Below wc.heap.size wc W) => same_law (part_below HRb'.out hb) (part_below HRc.out hb) (by omega) (by omega)
  rw [hlen1, decide_eq_true (rfl : D = D)] at hsm
  have HSM := Lib.hid hsm
  clear hsm
  go_wp2_with fail
  refine (alive_calls _).mono ?_
  rintro e wd ⟨rfl, hb⟩
  have HB := Lib.hid hb
  clear hb
  go_wp2_with fail
  refine (HSM.out _ HB.out).mono ?_
  rintro e we ⟨rfl, hb⟩
  have HBE := Lib.hid (HBc.out.trans ((HB.out.trans (hb.mono HB.out.size)).mono HBc.out.size))
  clear hb
  go_wp2
  go_ret
  exact ⟨rfl, HBE.out⟩
end Go.Proofs.Ytmdojgkgohmghaa.Wal
namespace Go.Proofs.Ytmdojgkgohmghaa.walOrder
open Go.RowKit Go.Own Go.Sees Go.Proofs.Ytmdojgkgohmghaa.Wal
set_option maxRecDepth 100000
set_option linter.constructorNameAsVariable false
theorem walOrder_walk (a0 : Option Addr) (len0 cap0 : Nat) (a1 : Int) (w : World) (w0 : Sees Try.prog w 140737488351232 5 22 [.slice a0 len0 cap0]) (w1 : (Lit.int .i64 a1).wf = true) :
    Calls Try.prog 4 #[.slice a0 len0 cap0, .int .i64 a1] w fun e w' => e = .returned (.bool true) ∧ Below w.heap.size w w' := by
  obtain ⟨b1, rfl, l1, _, m1, hA1, _⟩ := sees_blocks (k := 2) w0
  exact order_law a1 hA1 l1 (by omega)
end Go.Proofs.Ytmdojgkgohmghaa.walOrder
