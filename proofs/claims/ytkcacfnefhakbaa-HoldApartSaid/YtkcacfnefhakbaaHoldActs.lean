/- Layer hold: a script of acts that came in, as the walk reads it. -/
import Derived.Test.YtkcacfnefhakbaaHoldOpen
import Derived.Test.YtkcacfnefhakbaaOpensAct
namespace Go.Proofs.Ytkcacfnefhakbaa.HoldL
open Go.RowKit Go.Sees Go.Proofs.Ytkcacfnefhakbaa.OpensAct Go.Proofs.Ytkcacfnefhakbaa.P12 Go.Proofs.YtkcacfnefhakbaaW.PrintWords Go.Proofs.YtkcacfnefhakbaaW.PrintLast Go.Proofs.YtkcacfnefhakbaaW.PrintMore
set_option linter.unusedVariables false

structure SAct where
  f0 : Int
  f1 : Int
  f2 : Int
def zAct : SAct := ⟨0, 0, 0⟩
def kAct : Kd SAct := Kd.iso (Kd.pair (Kd.int .i64) (Kd.pair (Kd.int .u32) (Kd.int .u32))) (fun x : SAct => (x.f0, x.f1, x.f2))
theorem kAct_open {w : World} {x : SAct} {cs : List Value} (h : kAct.K w x cs) : cs = [.int .i64 x.f0, .int .u32 x.f1, .int .u32 x.f2] := by
  obtain ⟨_, _, rfl, rfl, ⟨_, _, rfl, rfl, rfl⟩⟩ := h
  exact rfl
theorem kAct_mk (w : World) (x : SAct) : kAct.K w x [.int .i64 x.f0, .int .u32 x.f1, .int .u32 x.f2] := ⟨[.int .i64 x.f0], [.int .u32 x.f1, .int .u32 x.f2], rfl, rfl, ⟨[.int .u32 x.f1], [.int .u32 x.f2], rfl, rfl, rfl⟩⟩
def rdAct (xs : List SAct) (i : Int) : SAct := xs.getD i.toNat zAct
theorem atAct {w : World} {A : Option Addr} {n : Nat} {xs : List SAct} (h : Kd.C kAct w A n xs) (i : Int) (h0 : 0 ≤ i) (h1 : i < n) : ∃ ad , A = some ad ∧ w.cell? (ad.add (i.toNat * 3)) = some (.int .i64 (rdAct xs i).f0) ∧ w.cell? ⟨(ad.add (i.toNat * 3)).block, (ad.add (i.toNat * 3)).off + 1, none⟩ = some (.int .u32 (rdAct xs i).f1) ∧ w.cell? ⟨(ad.add (i.toNat * 3)).block, (ad.add (i.toNat * 3)).off + 2, none⟩ = some (.int .u32 (rdAct xs i).f2) := by
  obtain ⟨ad, c, e, _, hK, hc0⟩ := Kd.C_get h zAct i h0 h1
  have hc : ∀ j u, c[j]? = some u → w.cell? (ad.add (i.toNat * 3 + j)) = some u := hc0
  obtain rfl := kAct_open hK
  exact ⟨ad, e, hc 0 _ rfl, by rw [← add_field _ _ 1 (by omega)]; exact hc 1 _ rfl, by rw [← add_field _ _ 2 (by omega)]; exact hc 2 _ rfl⟩
/-- numbers that fit -/
def NnA (x : SAct) : Prop := (-9223372036854775808 ≤ x.f0 ∧ x.f0 ≤ 9223372036854775807) ∧ (0 ≤ x.f1 ∧ x.f1 ≤ 4294967295) ∧ 0 ≤ x.f2 ∧ x.f2 ≤ 4294967295
theorem sees_acts {w : World} {R k len cap : Nat} {A : Option Addr} (h : Sees Try.prog w R (k + 3) 47 [.slice A len cap]) :
    ∃ l : List SAct, l.length = len ∧ len ≤ cap ∧ Kd.C kAct w A len l ∧ ∀ x ∈ l, NnA x := by
  rcases h.slice Try.underlying47 with ⟨rfl, rfl, rfl⟩ | ⟨b, rfl, hlc, hcm, hR, hcells⟩
  · exact ⟨[], rfl, Nat.le_refl _, ⟨rfl, by decide, fun h => by omega⟩, fun x hx => by simp at hx⟩
  · have hc2 : Try.prog.cellsOf 49 = 3 := by kernel_rfl
    rw [hc2] at hcells
    have one : ∀ i, i < cap → ∃ x : SAct, NnA x ∧ ∀ t u, [Value.int .i64 x.f0, .int .u32 x.f1, .int .u32 x.f2][t]? = some u → w.cell? (b.add (i * 3 + t)) = some u := by
      intro i hi
      obtain ⟨es, he, hs⟩ := hcells i hi
      obtain ⟨x0, x1, x2, rfl, w0, w1, w2⟩ := open49 hs
      refine ⟨⟨x0, x1, x2⟩, ⟨bounds_i64 w0, ⟨(bounds_u32 w1).1, by have := (bounds_u32 w1).2; omega⟩, (bounds_u32 w2).1, by have := (bounds_u32 w2).2; omega⟩, fun t u hu => ?_⟩
      have ht : t < 3 := by have := (List.getElem?_eq_some_iff.1 hu).1; simpa using this
      have := (World.cells?_some he).2.2 t ht
      rw [add_add] at this
      rw [this]; exact hu
    have all : ∀ n, n ≤ cap → ∃ l : List SAct, l.length = n ∧ (∀ x ∈ l, NnA x) ∧ ∀ j p, l[j]? = some p → ∀ t u, [Value.int .i64 p.f0, .int .u32 p.f1, .int .u32 p.f2][t]? = some u → w.cell? (b.add (j * 3 + t)) = some u := by
      intro n
      induction n with
      | zero => intro _; exact ⟨[], rfl, fun x hx => by simp at hx, fun j p hj => by simp at hj⟩
      | succ n ih =>
        intro hn
        obtain ⟨l, h1, h2, h3⟩ := ih (by omega)
        obtain ⟨x, hx, hxc⟩ := one n (by omega)
        refine ⟨l ++ [x], by simp [h1], fun y hy => ?_, fun j p hj => ?_⟩
        · rcases List.mem_append.1 hy with hy | hy
          · exact h2 y hy
          · rw [List.mem_singleton.1 hy]; exact hx
        · by_cases hjn : j < l.length
          · rw [List.getElem?_append_left hjn] at hj; exact h3 j p hj
          · rw [List.getElem?_append_right (by omega)] at hj
            have e : j = n := by
              have := (List.getElem?_eq_some_iff.1 hj).1
              simp at this; omega
            subst e
            rw [h1, Nat.sub_self] at hj
            obtain rfl : x = p := by simpa using hj
            exact hxc
    obtain ⟨l, h1, h2, h3⟩ := all len hlc
    refine ⟨l, h1, hlc, ⟨h1, ?_, fun _ => ⟨b, rfl, fun j p hj => ⟨_, rfl, kAct_mk w p, fun i u hi => h3 j p hj i u hi⟩⟩⟩, h2⟩
    have : maxLen ≤ 9223372036854775807 := by decide
    omega
end Go.Proofs.Ytkcacfnefhakbaa.HoldL
