/- Layer xdr: strings.Trim at a cutset of one nought. -/
import Derived.Test.YtiedmkgdhfkcoaaDoorXdrR
import Derived.Ground.NamesProg
import Derived.Shelf.Lay
import Derived.Shelf.Strings.Trim
namespace Go.Proofs
open Go.Shelf
shelf_lay Lays.n160 Nm 160 at Tryd as Tryd.trimL
end Go.Proofs
namespace Go.Proofs.YtiedmkgdhfkcoaaDoor.Xdr
open Go.RowKit Go.Own Go.XdrL Go.Blk Go.OpsL
theorem dropWhile_all {α : Type} (p : α → Bool) : ∀ l : List α, (∀ x ∈ l.dropWhile p, p x = true) → l.dropWhile p = []
  | [], _ => rfl
  | a :: l, h => by
    by_cases ha : p a = true
    · rw [List.dropWhile_cons_of_pos ha] at h ⊢
      exact dropWhile_all p l h
    · rw [List.dropWhile_cons_of_neg ha] at h
      exact absurd (h a (by simp)) ha
theorem dropWhile_nil {α : Type} (p : α → Bool) : ∀ l : List α, l.dropWhile p = [] ↔ ∀ x ∈ l, p x = true
  | [] => by simp
  | a :: l => by
    by_cases ha : p a = true
    · rw [List.dropWhile_cons_of_pos ha, dropWhile_nil p l]; simp [ha]
    · rw [List.dropWhile_cons_of_neg ha]; simp [ha]
/-- Nothing is left just where all bytes are noughts. -/
theorem trimB_nil (l : List UInt8) : (Lib.trimB l 0 = []) ↔ ∀ x ∈ l, (x == 0) = true := by
  unfold Lib.trimB Lib.trimLeftB Lib.trimRightB
  rw [dropWhile_nil]
  constructor
  · intro h
    have h1 := dropWhile_all (· == (0 : UInt8)) l.reverse (fun x hx => h x (by simpa using hx))
    rw [dropWhile_nil] at h1
    intro x hx
    exact h1 x (by simpa using hx)
  · intro h x hx
    rw [List.mem_reverse] at hx
    exact h x (List.mem_reverse.1 ((List.dropWhile_sublist _).subset hx))
def trimOf (s : ByteArray) : ByteArray := ⟨(Lib.trimB s.data.toList 0).toArray⟩
theorem trimOf_empty (s : ByteArray) : trimOf s = ByteArray.empty ↔ (s.data.toList.any (· != 0)) = false := by
  unfold trimOf
  rw [show (ByteArray.empty : ByteArray) = ⟨([] : List UInt8).toArray⟩ from rfl]
  rw [ByteArray.mk.injEq]
  have e : (Lib.trimB s.data.toList 0).toArray = ([] : List UInt8).toArray ↔ Lib.trimB s.data.toList 0 = [] := ⟨fun h => by simpa using h, fun h => by rw [h]⟩
  rw [e, trimB_nil, List.any_eq_false]
  simp
theorem trim_calls (s : ByteArray) (w : World) (hs : s.size ≤ 140737488355328) : Calls Tryd.prog 50 #[.string s, .string ⟨#[0]⟩] w fun e w' => e = .returned (.string (trimOf s)) ∧ Below w.heap.size w w' := by
  have h := Any.strings_Trim_one Tryd.trimL s 0 (by decide) w (by omega)
  refine Calls.mono h ?_
  rintro e w' ⟨rfl, rfl | rfl⟩
  · exact ⟨rfl, Below.refl _ _⟩
  · exact ⟨rfl, (Below.refl _ _).drew⟩
end Go.Proofs.YtiedmkgdhfkcoaaDoor.Xdr
