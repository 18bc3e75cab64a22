/- Layer xdr: the document's bytes. -/
import Derived.Test.YtiedmkgdhfkcoaaDoorXdrB
namespace Go.Proofs.YtiedmkgdhfkcoaaDoor.Xdr
open Go.RowKit Go.Own Go.XdrL Go.Blk Go.OpsL Go.Proofs.YtiedmkgdhfkcoaaDoorW.PrintLast Go.Proofs.YtiedmkgdhfkcoaaDoorW.PrintWords
set_option linter.unusedVariables false
set_option linter.unusedSimpArgs false
variable {W w w' : World} {B p q : Nat} {r r' : Rd} {b b' : ByteArray}
/-- Bytes in a block as a string. -/
theorem conv_block {w : World} {g : Nat} {cs : Array Value} (b : ByteArray) (hcs : bcells b = cs.toList) (n : Nat) (hn : b.size = n) (h : w.heap[g]? = some (.cells cs 5 (0, 0))) (c : Nat) : (convert 70 9 (.slice (some ⟨g, 0, none⟩) n c)).run Tryd.prog w = .ok (.string b) w := by
  subst hn
  have hr := run_convert_bytes_arg (P := Tryd.prog) w 70 5 Tryd.underlying70 Tryd.underlying5 g 0 b.size c (b.data.toList.map fun c => (c.toNat : Int)) (by rw [List.length_map, Array.length_toList]; rfl) (fun j hj => by
    rw [Nat.zero_add, cell_at h j]
    have hj2 : j < b.data.toList.length := by rw [Array.length_toList]; exact hj
    rw [← Array.getElem?_toList, ← hcs]
    simp only [bcells, List.getD, List.getElem?_map, List.getElem?_eq_getElem hj2, Option.map_some, Option.getD_some]) 9 Tryd.underlying9
  rw [nums_back] at hr
  exact hr
theorem bcells_num4' (n : Nat) (hn : n < 4294967296) : bcells (num4 n) = [.int .u8 ((n : Int) / 16777216), .int .u8 ((n : Int) / 65536 % 256), .int .u8 ((n : Int) / 256 % 256), .int .u8 ((n : Int) % 256)] := by
  rw [bcells_num4, show (n : Int) / 16777216 % 256 = (n : Int) / 16777216 by omega]
set_option maxRecDepth 100000 in
set_option maxHeartbeats 1000000 in
theorem dnumber (n : Nat) (hn : n < 4294967296) (w : World) : Calls Tryd.prog 37 #[.int .u32 (n : Int)] w fun e w' => e = .returned (.string (num4 n)) ∧ Below w.heap.size w w' := by
  have HC := Lib.hid (conv_block (num4 n) (bcells_num4' n hn) 4 rfl (alloc_at w (.cells #[.int .u8 ((n : Int) / 16777216), .int .u8 ((n : Int) / 65536 % 256), .int .u8 ((n : Int) / 256 % 256), .int .u8 ((n : Int) % 256)] 5)) 4)
  have h0 : (0 : Int) ≤ n := by omega
  go_enter Tryd.func37, Tryd.ntmps37
  go_wp2_with ((with_reducible refine gate_dst (N := 18) rfl ?_); refine wpList_val rfl rfl (execOp_convert rfl rfl HC.out) ?_)
  go_ret
  exact ⟨rfl, (Below.refl _ _).alloc (Nat.le_refl _) _⟩
theorem below2 {w w1 w2 : World} (h1 : Below w.heap.size w w1) (h2 : Below w1.heap.size w1 w2) : Below w.heap.size w w2 := h1.trans (h2.mono h1.size)
set_option maxRecDepth 100000 in
set_option maxHeartbeats 2000000 in
theorem dtext (s : ByteArray) (hs : s.size < 4294967296) (w : World) : Calls Tryd.prog 38 #[.string s] w fun e w' => e = .returned (.string (text4 s)) ∧ Below w.heap.size w w' := by
  have HS := Lib.hid hs
  have e1 := Lib.hid (show (s.size : Int) % 4294967296 = (s.size : Int) by omega)
  go_enter Tryd.func38, Tryd.ntmps38
  go_wp2_with fail
  try rw [e1.out]
  refine (dnumber _ hs _).mono ?_
  rintro e w1 ⟨rfl, h1⟩
  have H1 := Lib.hid h1
  clear h1 e1
  obtain ⟨N, hN⟩ : ∃ N, num4 s.size = N := ⟨_, rfl⟩
  have z1 : N.size = 4 := by rw [← hN]; rfl
  have HN := Lib.hid hN
  rw [hN]
  clear hN
  go_wp2
  go_loop [3] (fun t => ∃ k : Nat, k ≤ padOf s.size ∧ t = .string (N ++ s ++ zeros k)) (fun t => match t with | .string b => padOf b.size | _ => 0)
  case atStart => exact ⟨0, Nat.zero_le _, by simp [show zeros 0 = ByteArray.empty from rfl]⟩
  case round =>
    obtain ⟨k, hk, rfl⟩ := hrel
    obtain ⟨T, hT⟩ : ∃ T, N ++ s ++ zeros k = T := ⟨_, rfl⟩
    have zT : T.size = 0 + 4 + s.size + k := by rw [← hT, ByteArray.size_append, ByteArray.size_append, zeros_size, z1] <;> omega
    have HT := Lib.hid hT
    have HZT := Lib.hid zT
    rw [hT]
    have hTs : T.size < 4294967310 := by have := padOf_lt s.size; omega
    clear hT zT
    go_wp2
    · have hne : ((T.size : Int) % 4 != 0) = true := by assumption
      have hpd := pad_go HZT.out rfl hk (by simp only [bne_iff_ne, ne_eq] at hne; omega)
      go_round
      case rel => exact ⟨k + 1, hpd.1, by rw [← HT.out, ← zeros_add k 1, ← ByteArray.append_assoc]; rfl⟩
      case measure =>
        show padOf (T ++ (⟨#[0]⟩ : ByteArray)).size < padOf T.size
        rw [ByteArray.size_append]
        exact hpd.2
    · have hne : ((T.size : Int) % 4 != 0) = false := by assumption
      have hpd := pad_end HZT.out rfl hk (by simp only [bne_eq_false_iff_eq] at hne; omega)
      go_ret
      exact ⟨by rw [← HT.out, hpd, ← HN.out]; rfl, H1.out⟩
end Go.Proofs.YtiedmkgdhfkcoaaDoor.Xdr
