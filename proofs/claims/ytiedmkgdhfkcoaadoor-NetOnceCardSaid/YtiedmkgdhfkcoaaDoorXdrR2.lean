/- Layer xdr: the reader's lists. -/
import Derived.Test.YtiedmkgdhfkcoaaDoorXdrR
namespace Go.Proofs.YtiedmkgdhfkcoaaDoor.Xdr
open Go.RowKit Go.Own Go.XdrL Go.Blk Go.OpsL Go.Proofs.YtiedmkgdhfkcoaaDoorW.PrintLast Go.Proofs.YtiedmkgdhfkcoaaDoorW.PrintWords
set_option linter.unusedVariables false
set_option linter.unusedSimpArgs false
variable {w w' : World} {p : Nat} {r : Rd}
def ucells (l : List Nat) : List Value := l.map fun x : Nat => Value.int .u32 (x : Int)
theorem run_one32 (w : World) (a : Int) : (Instr.buildSlice 85 1 #[(0, .int .u32 a)]).run Tryd.prog w = .ok (.slice (some ⟨w.heap.size, 0, none⟩) 1 1) (w.alloc (.cells #[.int .u32 a] 22)) := by kernel_rfl
theorem info_u32 : (Tryd.prog.info? 22).map (fun i => (i.zero, i.size, i.bytes)) = some (some (.int .u32 0), 1, 4) := by kernel_rfl
theorem info32_parts : ∃ i, Tryd.prog.info? 22 = some i ∧ i.zero = some (.int .u32 0) ∧ i.size = 1 ∧ i.bytes = 4 := by
  cases h : Tryd.prog.info? 22 with
  | none => have := info_u32; rw [h] at this; cases this
  | some i =>
    have := info_u32
    rw [h] at this
    simp only [Option.map_some, Option.some.injEq, Prod.mk.injEq] at this
    exact ⟨i, rfl, this.1, this.2.1, this.2.2⟩
/-- A number is put behind a row. -/
theorem add32 {B n : Nat} {v : Value} {l : List Nat} (h : w.ownsRow B 22 1 v n (ucells l)) (x : Nat) (hn : n ≤ 4294967296) (hB : B ≤ w.heap.size) :
    ∃ v' w', (Builtin.append_ #[85, 85] 85 #[v, .slice (some ⟨w.heap.size, 0, none⟩) 1 1]).run Tryd.prog (w.alloc (.cells #[.int .u32 (x : Int)] 22)) = .ok v' w' ∧ w'.ownsRow B 22 1 v' (n + 1) (ucells (l ++ [x])) ∧ Fr (fun k => v.ownBlock = some k) w w' := by
  have hl := (Fr.alloc (fun _ => False) w (.cells #[.int .u32 (x : Int)] 22)).row h (fun _ _ => id)
  have BN := alloc_at w (.cells #[.int .u32 (x : Int)] 22)
  obtain ⟨v', w3, hr, hown', hg', _, hat'⟩ := run_append_own_at (P := Tryd.prog) (w.alloc (.cells #[.int .u32 (x : Int)] 22)) B 85 85 22 info32_parts.choose _ 1 4 Tryd.underlying85 info32_parts.choose_spec.1 info32_parts.choose_spec.2.1 info32_parts.choose_spec.2.2.1 info32_parts.choose_spec.2.2.2 rfl (by omega) v n _ hl ⟨w.heap.size, 0, none⟩ 1 1 [.int .u32 (x : Int)] rfl (fun j u hu => by rw [Addr.add_mid, cell_of_row _ w.heap.size _ _ _ _ BN]; simpa using hu) (by intro u hu; simp only [List.mem_singleton] at hu; subst hu; rfl) (by unfold maxLen; omega) (by omega) (by have := (Fr.alloc (fun _ => False) w (.cells #[.int .u32 (x : Int)] 22)).size; omega)
  refine ⟨v', w3, hr, by rw [show ucells (l ++ [x]) = ucells l ++ [.int .u32 (x : Int)] by simp [ucells]]; exact hown', (Fr.alloc _ w _).trans (Fr.grown (F := fun k => v.ownBlock = some k) hg' (fun k hk => hk)) (fun _ _ h => h)⟩
end Go.Proofs.YtiedmkgdhfkcoaaDoor.Xdr
