/- A slice of whole numbers that reads as data, as the printed contracts want it. -/
import Derived.Test.YtfacdadbebjebaaSees
import Derived.Test.YtfacdadbebjebaaWMore
namespace Go.Proofs.Ytfacdadbebjebaa.Opens
open Go.Sees Go.Proofs.YtfacdadbebjebaaW.PrintWords Go.Deep Go.ChangeShapes

theorem ints_of_sees {P : Program} {w : World} {R j : Nat} {t e : TypeId} {k : IntKind} {a : Option Addr} {len cap : Nat} (ht : P.underlying t = some (.slice e)) (he : P.underlying e = some (.int k)) (hc : P.cellsOf e = 1)
    (h : Sees P w R (j + 2) t [.slice a len cap]) : ∃ m : List Int, len = m.length ∧ Kd.C (Kd.int k) w a m.length m ∧ m.length ≤ cap ∧ ∀ n ∈ m, (Lit.int k n).wf = true := by
  have hrow : ∃ zs : List Int, (a = none ∧ len = 0 ∧ cap = 0 ∧ zs = []) ∨ ∃ x, a = some x ∧ len ≤ cap ∧ cap ≤ maxLen ∧ zs.length = cap ∧ (∀ i, i < zs.length → w.cell? (x.add i) = some (.int k (zs.getD i 0))) ∧ ∀ n ∈ zs, (Lit.int k n).wf = true := by
    rcases h.slice ht with ⟨h1, h2, h3⟩ | ⟨b, rfl, h1, h2, _, h3⟩
    · exact ⟨[], .inl ⟨h1, h2, h3, rfl⟩⟩
    · have h4 : ∀ i, i < cap → ∃ n, w.cell? (b.add i) = some (.int k n) ∧ (Lit.int k n).wf = true := by
        intro i hi
        obtain ⟨es, g1, g2⟩ := h3 i hi
        obtain ⟨n, rfl, g3⟩ := g2.int he
        rw [hc, Nat.mul_one] at g1
        exact ⟨n, cell_of_cells?_one g1, g3⟩
      obtain ⟨f, hf⟩ := choose_lt h4
      refine ⟨(List.range cap).map f, .inr ⟨b, rfl, h1, h2, by simp, fun i hi => ?_, fun n hn => ?_⟩⟩
      · have hi' : i < cap := by simpa using hi
        rw [(hf i hi').1]
        simp [List.getD, hi']
      · obtain ⟨i, hi, rfl⟩ := List.mem_map.1 hn
        exact (hf i (by simpa using hi)).2
  obtain ⟨zs, hz⟩ := hrow
  obtain ⟨l, e1, hr, _, hb, hl⟩ := ReadsInt.ofRowC hz
  exact ⟨l, e1, Kd.C_of_reads (d := (0 : Int)) (h1 := fun _ => rfl) hr, hl, hb⟩
end Go.Proofs.Ytfacdadbebjebaa.Opens
