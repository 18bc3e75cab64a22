/- Layer xdr: the document's bytes. -/
import Derived.Test.YtjmdjikjelhbmaaDoorXdrB
namespace Go.Proofs.YtjmdjikjelhbmaaDoor.Xdr
open Go.RowKit Go.Own Go.XdrL Go.Blk Go.OpsL Go.Proofs.YtjmdjikjelhbmaaDoorW.PrintLast Go.Proofs.YtjmdjikjelhbmaaDoorW.PrintWords
set_option linter.unusedVariables false
set_option linter.unusedSimpArgs false
variable {W w w' : World} {B p q : Nat} {r r' : Rd} {b b' : ByteArray}
/-- Bytes in a block as a string. -/
theorem conv_block {w : World} {g : Nat} {cs : Array Value} (b : ByteArray) (hcs : bcells b = cs.toList) (n : Nat) (hn : b.size = n) (h : w.heap[g]? = some (.cells cs 5 (0, 0))) (c : Nat) : (convert 24 9 (.slice (some ⟨g, 0, none⟩) n c)).run Tryd.prog w = .ok (.string b) w := by
  subst hn
  have hr := run_convert_bytes_arg (P := Tryd.prog) w 24 5 Tryd.underlying24 Tryd.underlying5 g 0 b.size c (b.data.toList.map fun c => (c.toNat : Int)) (by rw [List.length_map, Array.length_toList]; rfl) (fun j hj => by
    rw [Nat.zero_add, cell_at h j]
    have hj2 : j < b.data.toList.length := by rw [Array.length_toList]; exact hj
    rw [← Array.getElem?_toList, ← hcs]
    simp only [bcells, List.getD, List.getElem?_map, List.getElem?_eq_getElem hj2, Option.map_some, Option.getD_some]) 9 Tryd.underlying9
  rw [nums_back] at hr
  exact hr
theorem bcells_num4' (n : Nat) (hn : n < 4294967296) : bcells (num4 n) = [.int .u8 ((n : Int) / 16777216), .int .u8 ((n : Int) / 65536 % 256), .int .u8 ((n : Int) / 256 % 256), .int .u8 ((n : Int) % 256)] := by
  rw [bcells_num4, show (n : Int) / 16777216 % 256 = (n : Int) / 16777216 by omega]
set_option maxHeartbeats 1000000 in
theorem dnumber (n : Nat) (hn : n < 4294967296) (w : World) : Calls Tryd.prog 37 #[.int .u32 (n : Int)] w fun e w' => e = .returned (.string (num4 n)) ∧ Below w.heap.size w w' := by
  have HC := Lib.hid (conv_block (num4 n) (bcells_num4' n hn) 4 rfl (alloc_at w (.cells #[.int .u8 ((n : Int) / 16777216), .int .u8 ((n : Int) / 65536 % 256), .int .u8 ((n : Int) / 256 % 256), .int .u8 ((n : Int) % 256)] 5)) 4)
  have h0 : (0 : Int) ≤ n := by omega
  go_enter Tryd.func37, Tryd.ntmps37
  go_wp2_with ((with_reducible refine gate_dst (N := 18) rfl ?_); refine wpList_val rfl rfl (execOp_convert rfl rfl HC.out) ?_)
  go_ret
  exact ⟨rfl, (Below.refl _ _).alloc (Nat.le_refl _) _⟩
theorem below2 {w w1 w2 : World} (h1 : Below w.heap.size w w1) (h2 : Below w1.heap.size w1 w2) : Below w.heap.size w w2 := h1.trans (h2.mono h1.size)
set_option maxHeartbeats 1000000 in
theorem dlong (n : Nat) (hn : n < 18446744073709551616) (w : World) : Calls Tryd.prog 14 #[.int .u64 (n : Int)] w fun e w' => e = .returned (.string (long8 n)) ∧ Below w.heap.size w w' := by
  have e1 := Lib.hid (show (n : Int) / 4294967296 = ((n / 4294967296 : Nat) : Int) by omega)
  have e2 := Lib.hid (show (n : Int) % 4294967296 = ((n % 4294967296 : Nat) : Int) by omega)
  have HN := Lib.hid hn
  have h0 : (0 : Int) ≤ n := by omega
  go_enter Tryd.func14, Tryd.ntmps14
  go_wp2_with fail
  rw [e1.out]
  refine (dnumber _ (by have := HN.out; omega) _).mono ?_
  rintro e w1 ⟨rfl, h1⟩
  have H1 := Lib.hid h1
  clear h1 e1
  go_wp2_with fail
  rw [e2.out]
  refine (dnumber _ (Nat.mod_lt _ (by decide)) _).mono ?_
  rintro e w2 ⟨rfl, h2⟩
  have H2 := Lib.hid h2
  clear h2 e2
  have z1 := num4_size (n / 4294967296)
  have z2 := num4_size (n % 4294967296)
  go_wp2
  go_ret
  exact ⟨rfl, below2 H1.out H2.out⟩
set_option maxHeartbeats 1000000 in
theorem dflag (x : Bool) (w : World) : Calls Tryd.prog 38 #[.bool x] w fun e w' => e = .returned (.string (flag4 x)) ∧ Below w.heap.size w w' := by
  cases x
  · go_enter Tryd.func38, Tryd.ntmps38
    go_wp2_with (go_at_call 37; refine (dnumber 0 (by decide) _).mono ?_; rintro e w1 ⟨rfl, h1⟩; have H1 := Lib.hid h1; clear h1)
    go_ret
    exact ⟨rfl, H1.out⟩
  · go_enter Tryd.func38, Tryd.ntmps38
    go_wp2_with (go_at_call 37; refine (dnumber 1 (by decide) _).mono ?_; rintro e w1 ⟨rfl, h1⟩; have H1 := Lib.hid h1; clear h1)
    go_ret
    exact ⟨rfl, H1.out⟩
set_option maxHeartbeats 2000000 in
theorem dtext (s : ByteArray) (hs : s.size < 4294967296) (w : World) : Calls Tryd.prog 39 #[.string s] w fun e w' => e = .returned (.string (text4 s)) ∧ Below w.heap.size w w' := by
  have HS := Lib.hid hs
  have e1 := Lib.hid (show (s.size : Int) % 4294967296 = (s.size : Int) by omega)
  go_enter Tryd.func39, Tryd.ntmps39
  go_wp2_with fail
  try rw [e1.out]
  refine (dnumber _ hs _).mono ?_
  rintro e w1 ⟨rfl, h1⟩
  have H1 := Lib.hid h1
  clear h1 e1
  obtain ⟨N, hN⟩ : ∃ N, num4 s.size = N := ⟨_, rfl⟩
  have z1 : N.size = 4 := by rw [← hN]; rfl
  have HN := Lib.hid hN
  rw [hN]
  clear hN
  go_wp2
  go_loop [3] (fun t => ∃ k : Nat, k ≤ padOf s.size ∧ t = .string (N ++ s ++ zeros k)) (fun t => match t with | .string b => padOf b.size | _ => 0)
  case atStart => exact ⟨0, Nat.zero_le _, by simp [show zeros 0 = ByteArray.empty from rfl]⟩
  case round =>
    obtain ⟨k, hk, rfl⟩ := hrel
    obtain ⟨T, hT⟩ : ∃ T, N ++ s ++ zeros k = T := ⟨_, rfl⟩
    have zT : T.size = 0 + 4 + s.size + k := by rw [← hT, ByteArray.size_append, ByteArray.size_append, zeros_size, z1] <;> omega
    have HT := Lib.hid hT
    have HZT := Lib.hid zT
    rw [hT]
    have hTs : T.size < 4294967310 := by have := padOf_lt s.size; omega
    clear hT zT
    go_wp2
    · have hne : ((T.size : Int) % 4 != 0) = true := by assumption
      have hpd := pad_go HZT.out rfl hk (by simp only [bne_iff_ne, ne_eq] at hne; omega)
      go_round
      case rel => exact ⟨k + 1, hpd.1, by rw [← HT.out, ← zeros_add k 1, ← ByteArray.append_assoc]; rfl⟩
      case measure =>
        show padOf (T ++ (⟨#[0]⟩ : ByteArray)).size < padOf T.size
        rw [ByteArray.size_append]
        exact hpd.2
    · have hne : ((T.size : Int) % 4 != 0) = false := by assumption
      have hpd := pad_end HZT.out rfl hk (by simp only [bne_eq_false_iff_eq] at hne; omega)
      go_ret
      exact ⟨by rw [← HT.out, hpd, ← HN.out]; rfl, H1.out⟩
set_option maxHeartbeats 2000000 in
theorem dlist (A : Option Addr) (l : List Nat) (n cap : Nat) (hn : l.length = n) (w : World) (hA : U32s w A l) (hx : ∀ x ∈ l, x < 4294967296) (hb : n ≤ 100000000) :
    Calls Tryd.prog 40 #[.slice A n cap] w fun e w' => e = .returned (.string (list4 l)) ∧ Below w.heap.size w w' := by
  have HX := Lib.hid hx
  have HA := Lib.hid hA
  have HN := Lib.hid hn
  have e1 := Lib.hid (show (n : Int) % 4294967296 = (n : Int) by omega)
  clear hx hA
  go_enter Tryd.func40, Tryd.ntmps40
  go_wp2_with fail
  try rw [e1.out]
  refine (dnumber _ (by omega) _).mono ?_
  rintro e w1 ⟨rfl, h1⟩
  have H1 := Lib.hid h1
  clear h1 e1
  go_wp2
  go_loopw [3, 4] (fun s3 s4 wr => ∃ k : Nat, s4 = .int .i64 k ∧ k ≤ n ∧ s3 = .string (num4 n ++ nums4 (l.take k)) ∧ Hid (Below w.heap.size w wr)) (fun _ s4 _ => n - (intOf s4).toNat)
  case atStart => exact ⟨0, by simp, Nat.zero_le _, by simp [nums4], H1⟩
  case round =>
    clear H1
    obtain ⟨k, rfl, hk, rfl, HB⟩ := hrel
    by_cases hlt : k < n
    · obtain ⟨blk, off, rfl, hblk, hcell⟩ := HA.out k (by omega)
      have c0 := hcell 0 _ rfl
      obtain ⟨x, hxe⟩ : ∃ x, l[k] = x := ⟨_, rfl⟩
      rw [hxe, Nat.mul_one, Nat.add_zero] at c0
      have c1 : wr.cell? ⟨blk, off + k, none⟩ = some (.int .u32 (x : Int)) := by rw [← c0]; exact HB.out.cell (p := ⟨blk, off + k, none⟩) hblk
      have HXX := Lib.hid (HX.out x (hxe ▸ List.getElem_mem _))
      have HTK := Lib.hid (show l.take (k + 1) = l.take k ++ [x] by rw [List.take_succ_eq_append_getElem (by omega), hxe])
      obtain ⟨T, hT⟩ : ∃ T, num4 n ++ nums4 (l.take k) = T := ⟨_, rfl⟩
      have zT : T.size = 4 + 4 * k := by rw [← hT, ByteArray.size_append, nums4_size, num4_size, List.length_take]; omega
      have HT := Lib.hid hT
      rw [hT]
      clear hcell c0 hT
      go_wp2_with (go_at_call 37; refine (dnumber _ HXX.out _).mono ?_; rintro e w2 ⟨rfl, h2⟩; have H2 := Lib.hid h2; clear h2; have z2 := num4_size x)
      go_roundw
      case rel => exact ⟨k + 1, by simp, by omega, by rw [HTK.out, nums4_append, ← ByteArray.append_assoc, HT.out]; simp [nums4], Lib.hid (below2 HB.out H2.out)⟩
      case measure => simp [intOf]; omega
    · obtain rfl : k = n := by omega
      go_wp2
      go_ret
      exact ⟨by rw [List.take_of_length_le (by omega)]; unfold list4; rw [HN.out]; rfl, HB.out⟩
end Go.Proofs.YtjmdjikjelhbmaaDoor.Xdr
