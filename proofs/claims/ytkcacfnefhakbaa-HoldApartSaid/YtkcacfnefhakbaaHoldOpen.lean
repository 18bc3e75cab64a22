/- Layer hold: a lock that came in, as the printed texts read it. -/
import Derived.Test.YtkcacfnefhakbaaHoldSort
import Derived.Test.YtkcacfnefhakbaaOpens
namespace Go.Proofs.Ytkcacfnefhakbaa.HoldL
open Go.RowKit Go.Sees Go.Proofs.Ytkcacfnefhakbaa.Opens Go.Proofs.Ytkcacfnefhakbaa.P12 Go.Proofs.YtkcacfnefhakbaaW.PrintWords Go.Proofs.YtkcacfnefhakbaaW.PrintLast Go.Proofs.YtkcacfnefhakbaaW.PrintMore
set_option linter.unusedVariables false

theorem add_add (a : Addr) (n m : Nat) : (a.add n).add m = a.add (n + m) := by
  unfold Addr.add
  by_cases h1 : n = 0
  · subst h1; simp
  · by_cases h2 : m = 0
    · subst h2; simp [h1]
    · simp [h1, h2]; omega
theorem sees_list {w : World} {R k len cap : Nat} {A : Option Addr} (h : Sees Try.prog w R (k + 3) 23 [.slice A len cap]) :
    ∃ l : List S40, l.length = len ∧ len ≤ cap ∧ Kd.C k40 w A len l ∧ ∀ x ∈ l, Nn x := by
  rcases h.slice Try.underlying23 with ⟨rfl, rfl, rfl⟩ | ⟨b, rfl, hlc, hcm, hR, hcells⟩
  · exact ⟨[], rfl, Nat.le_refl _, ⟨rfl, by decide, fun h => by omega⟩, fun x hx => by simp at hx⟩
  · have hc2 : Try.prog.cellsOf 40 = 2 := by kernel_rfl
    rw [hc2] at hcells
    have one : ∀ i, i < cap → ∃ x : S40, Nn x ∧ ∀ t u, (enc40 x)[t]? = some u → w.cell? (b.add (i * 2 + t)) = some u := by
      intro i hi
      obtain ⟨es, he, hs⟩ := hcells i hi
      obtain ⟨x0, x1, rfl, w0, w1⟩ := open40 hs
      refine ⟨⟨x0, x1⟩, ⟨(bounds_u32 w0).1, (by have := (bounds_u32 w0).2; omega)⟩, fun t u hu => ?_⟩
      have ht : t < 2 := by have := (List.getElem?_eq_some_iff.1 hu).1; simpa [enc40] using this
      have := (World.cells?_some he).2.2 t ht
      rw [add_add] at this
      rw [this]; exact hu
    have all : ∀ n, n ≤ cap → ∃ l : List S40, l.length = n ∧ (∀ x ∈ l, Nn x) ∧ ∀ j p, l[j]? = some p → ∀ t u, (enc40 p)[t]? = some u → w.cell? (b.add (j * 2 + t)) = some u := by
      intro n
      induction n with
      | zero => intro _; exact ⟨[], rfl, fun x hx => by simp at hx, fun j p hj => by simp at hj⟩
      | succ n ih =>
        intro hn
        obtain ⟨l, h1, h2, h3⟩ := ih (by omega)
        obtain ⟨x, hx, hxc⟩ := one n (by omega)
        refine ⟨l ++ [x], by simp [h1], fun y hy => ?_, fun j p hj => ?_⟩
        · rcases List.mem_append.1 hy with hy | hy
          · exact h2 y hy
          · rw [List.mem_singleton.1 hy]; exact hx
        · by_cases hjn : j < l.length
          · rw [List.getElem?_append_left hjn] at hj; exact h3 j p hj
          · rw [List.getElem?_append_right (by omega)] at hj
            have e : j = n := by
              have := (List.getElem?_eq_some_iff.1 hj).1
              simp at this; omega
            subst e
            rw [h1, Nat.sub_self] at hj
            obtain rfl : x = p := by simpa using hj
            exact hxc
    obtain ⟨l, h1, h2, h3⟩ := all len hlc
    refine ⟨l, h1, hlc, ⟨h1, ?_, fun _ => ⟨b, rfl, fun j p hj => ⟨enc40 p, rfl, k40_mk w p, fun i u hi => h3 j p hj i u hi⟩⟩⟩, h2⟩
    have : maxLen ≤ 9223372036854775807 := by decide
    omega
theorem sees_lock {w : World} {R : Nat} {a : Array Value} (h : Sees Try.prog w R 5 25 a.toList) :
    ∃ (f e u c : Int) (fc g : Bool) (A : Option Addr) (cp : Nat) (l : List S40), a = #[.int .u32 f, .int .u32 e, .int .u32 u, .int .u32 c, .bool fc, .bool g, .slice A l.length cp] ∧ l.length ≤ cp ∧ Kd.C k40 w A l.length l ∧ (∀ x ∈ l, Nn x) ∧ (0 ≤ f ∧ 0 ≤ e ∧ 0 ≤ u ∧ 0 ≤ c) ∧ e ≤ 4294967295 := by
  obtain ⟨f, e, u, c, fc, g, v, rfl, w0, w1, w2, w3, hs⟩ := openA25 (k := 3) h
  obtain ⟨A, len, cp, rfl⟩ := hs.isSlice Try.underlying23
  obtain ⟨l, rfl, hc, hC, hn⟩ := sees_list (k := 1) hs
  exact ⟨f, e, u, c, fc, g, A, cp, l, rfl, hc, hC, hn, ⟨(bounds_u32 w0).1, (bounds_u32 w1).1, (bounds_u32 w2).1, (bounds_u32 w3).1⟩, by have := (bounds_u32 w1).2; omega⟩
end Go.Proofs.Ytkcacfnefhakbaa.HoldL
