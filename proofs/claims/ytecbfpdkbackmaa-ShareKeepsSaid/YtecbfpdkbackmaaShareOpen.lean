/- Layer share: a list of opens that came in, as the printed texts read it. -/
import Derived.Test.YtecbfpdkbackmaaSharePlain
import Derived.Test.YtecbfpdkbackmaaOpens
namespace Go.Proofs.Ytecbfpdkbackmaa.Share
open Go.RowKit Go.Sees Go.Proofs.Ytecbfpdkbackmaa.Opens Go.Proofs.Ytecbfpdkbackmaa.P11 Go.Proofs.YtecbfpdkbackmaaW.PrintWords Go.Proofs.YtecbfpdkbackmaaW.PrintLast Go.Proofs.YtecbfpdkbackmaaW.PrintMore
set_option linter.unusedVariables false

theorem add_add (a : Addr) (n m : Nat) : (a.add n).add m = a.add (n + m) := by
  unfold Addr.add
  by_cases h1 : n = 0
  · subst h1; simp
  · by_cases h2 : m = 0
    · subst h2; simp [h1]
    · simp [h1, h2]; omega
def Nn (x : S27) : Prop := 0 ≤ x.f0 ∧ 0 ≤ x.f1 ∧ 0 ≤ x.f2 ∧ 0 ≤ x.f3 ∧ 0 ≤ x.f4
theorem nn_u32 {x : Int} (h : (Lit.int .u32 x).wf = true) : 0 ≤ x := (bounds_u32 h).1
theorem sees_list {w : World} {R k len cap : Nat} {A : Option Addr} (h : Sees Try.prog w R (k + 3) 22 [.slice A len cap]) :
    ∃ l : List S27, l.length = len ∧ len ≤ cap ∧ Kd.C k27 w A len l ∧ ∀ x ∈ l, Nn x := by
  rcases h.slice Try.underlying22 with ⟨rfl, rfl, rfl⟩ | ⟨b, rfl, hlc, hcm, hR, hcells⟩
  · exact ⟨[], rfl, Nat.le_refl _, ⟨rfl, by decide, fun h => by omega⟩, fun x hx => by simp at hx⟩
  · have hc5 : Try.prog.cellsOf 27 = 5 := by kernel_rfl
    rw [hc5] at hcells
    have one : ∀ i, i < cap → ∃ x : S27, Nn x ∧ ∀ t u, (enc27 x)[t]? = some u → w.cell? (b.add (i * 5 + t)) = some u := by
      intro i hi
      obtain ⟨es, he, hs⟩ := hcells i hi
      obtain ⟨x0, x1, x2, x3, x4, rfl, w0, w1, w2, w3, w4⟩ := open27 hs
      refine ⟨⟨x0, x1, x2, x3, x4⟩, ⟨nn_u32 w0, nn_u32 w1, nn_u32 w2, nn_u32 w3, nn_u32 w4⟩, fun t u hu => ?_⟩
      have ht : t < 5 := by have := (List.getElem?_eq_some_iff.1 hu).1; simpa [enc27] using this
      have := (World.cells?_some he).2.2 t ht
      rw [add_add] at this
      rw [this]; exact hu
    have all : ∀ n, n ≤ cap → ∃ l : List S27, l.length = n ∧ (∀ x ∈ l, Nn x) ∧ ∀ j p, l[j]? = some p → ∀ t u, (enc27 p)[t]? = some u → w.cell? (b.add (j * 5 + t)) = some u := by
      intro n
      induction n with
      | zero => intro _; exact ⟨[], rfl, fun x hx => by simp at hx, fun j p hj => by simp at hj⟩
      | succ n ih =>
        intro hn
        obtain ⟨l, h1, h2, h3⟩ := ih (by omega)
        obtain ⟨x, hx, hxc⟩ := one n (by omega)
        refine ⟨l ++ [x], by simp [h1], fun y hy => ?_, fun j p hj => ?_⟩
        · rcases List.mem_append.1 hy with hy | hy
          · exact h2 y hy
          · rw [List.mem_singleton.1 hy]; exact hx
        · by_cases hjn : j < l.length
          · rw [List.getElem?_append_left hjn] at hj; exact h3 j p hj
          · rw [List.getElem?_append_right (by omega)] at hj
            have e : j = n := by
              have := (List.getElem?_eq_some_iff.1 hj).1
              simp at this; omega
            subst e
            rw [h1, Nat.sub_self] at hj
            obtain rfl : x = p := by simpa using hj
            exact hxc
    obtain ⟨l, h1, h2, h3⟩ := all len hlc
    refine ⟨l, h1, hlc, ⟨h1, ?_, fun _ => ⟨b, rfl, fun j p hj => ⟨enc27 p, rfl, k27_mk w p, fun i u hi => h3 j p hj i u hi⟩⟩⟩, h2⟩
    have : maxLen ≤ 9223372036854775807 := by decide
    omega
end Go.Proofs.Ytecbfpdkbackmaa.Share
