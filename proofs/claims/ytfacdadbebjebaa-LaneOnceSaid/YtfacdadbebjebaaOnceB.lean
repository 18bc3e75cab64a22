/- Layer lane: LaneOnce, plainly: what stands of a line, a seat and all that is under way; the callees. -/
import Derived.Test.YtfacdadbebjebaaOnceA
namespace Go.Proofs.Ytfacdadbebjebaa.Once
open Go.RowKit Go.Own Go.Blk Go.OpsL Go.Sees Go.Proofs.Ytfacdadbebjebaa.PLaneOnce Go.Proofs.YtfacdadbebjebaaW.PrintWords
set_option linter.unusedVariables false
set_option linter.unusedSimpArgs false
set_option maxRecDepth 100000
/-- An answer's two bytes. -/
def rep (n : Int) : ByteArray := ⟨#[UInt8.ofNat n.toNat, UInt8.ofNat (n.toNat / 256)]⟩
structure Inv (life : Int) (x : Ln) (se : Se) (asks ans : List (Int × ByteArray)) (dn : List Int) (heard : Int) : Prop where
  lf : x.life = life
  bf : x.boot = 3
  q0 : 0 ≤ x.q
  off : x.out = false → x.q = dn.length
  on : x.out = true → (dn.length : Int) ≤ x.q ∧ x.q ≤ dn.length + 1 ∧ 1 ≤ x.q
  asks : ∀ a ∈ asks, 1 ≤ a.1 ∧ a.1 ≤ x.q
  seat : (dn.length = 0 ∧ se = ⟨0, 0, ⟨#[]⟩⟩) ∨ (1 ≤ dn.length ∧ se = ⟨life, dn.length, rep dn.length⟩)
  ans : ∀ a ∈ ans, 1 ≤ a.1 ∧ a.1 ≤ dn.length ∧ a.2 = rep a.1
  dn : ∀ i (hi : i < dn.length), dn[i] = (i : Int) + 1
  h0 : 0 ≤ heard
  h1 : heard ≤ x.q
  h2 : x.out = true → heard ≤ x.q - 1
variable {life heard : Int} {x : Ln} {se : Se} {asks ans : List (Int × ByteArray)} {dn : List Int}
theorem Inv.begin (life : Int) : Inv life ⟨life, 3, 0, false, ⟨#[]⟩, 0, 0⟩ ⟨0, 0, ⟨#[]⟩⟩ [] [] [] 0 :=
  ⟨rfl, rfl, Int.le_refl _, fun _ => rfl, fun h => (by cases h), fun a ha => (by simp at ha), .inl ⟨rfl, rfl⟩, fun a ha => (by simp at ha), fun i hi => (by simp at hi), Int.le_refl _, Int.le_refl _, fun h => (by cases h)⟩
theorem Inv.q_le (h : Inv life x se asks ans dn heard) : x.q ≤ dn.length + 1 := by
  cases hx : x.out with
  | false => have := h.off hx; omega
  | true => exact (h.on hx).2.1
theorem Inv.k_le (h : Inv life x se asks ans dn heard) : (dn.length : Int) ≤ x.q := by
  cases hx : x.out with
  | false => have := h.off hx; omega
  | true => exact (h.on hx).1
/-- A request is sent. -/
theorem Inv.ask (h : Inv life x se asks ans dn heard) (hx : x.out = false) : Inv life ⟨x.life, x.boot, x.q + 1, true, ⟨#[98, 111, 100, 121]⟩, 1, 1⟩ se (asks ++ [(x.q + 1, ⟨#[]⟩)]) ans dn heard := by
  have h1 := h.off hx
  refine ⟨h.lf, h.bf, by have := h.q0; show 0 ≤ x.q + 1; omega, fun e => (by cases e), fun _ => ⟨by show _ ≤ x.q + 1; omega, by show x.q + 1 ≤ _; omega, by have := h.q0; show 1 ≤ x.q + 1; omega⟩, fun a ha => ?_, h.seat, h.ans, h.dn, h.h0, by have := h.h1; show _ ≤ x.q + 1; omega, fun _ => by have := h.h1; show _ ≤ x.q + 1 - 1; omega⟩
  have h0 := h.q0
  rcases List.mem_append.1 ha with ha | ha
  · have := h.asks a ha
    exact ⟨this.1, by show a.1 ≤ x.q + 1; omega⟩
  · rw [List.mem_singleton.1 ha]
    exact ⟨by show 1 ≤ x.q + 1; omega, Int.le_refl _⟩
/-- A tick. -/
theorem Inv.tick (h : Inv life x se asks ans dn heard) (a b : Int) : Inv life ⟨x.life, x.boot, x.q, x.out, x.body, a, b⟩ se asks ans dn heard :=
  ⟨h.lf, h.bf, h.q0, h.off, h.on, h.asks, h.seat, h.ans, h.dn, h.h0, h.h1, h.h2⟩
theorem Inv.again (h : Inv life x se asks ans dn heard) (hx : x.out = true) : Inv life x se (asks ++ [(x.q, ⟨#[]⟩)]) ans dn heard :=
  ⟨h.lf, h.bf, h.q0, h.off, h.on, fun a ha => by
    rcases List.mem_append.1 ha with ha | ha
    · exact h.asks a ha
    · rw [List.mem_singleton.1 ha]; exact ⟨(h.on hx).2.2, Int.le_refl _⟩, h.seat, h.ans, h.dn, h.h0, h.h1, h.h2⟩
theorem Inv.new (h : Inv life x se asks ans dn heard) {a : Int} (ha : a = dn.length + 1) (hq : a ≤ x.q) : Inv life x ⟨life, a, rep a⟩ asks (ans ++ [(a, rep a)]) (dn ++ [a]) heard := by
  have hl : ((dn ++ [a]).length : Int) = dn.length + 1 := by simp
  have hk := h.q_le
  have hxo : x.out = true := by
    cases hx : x.out with
    | true => rfl
    | false => have := h.off hx; omega
  refine ⟨h.lf, h.bf, h.q0, fun e => (by rw [hxo] at e; cases e), fun _ => ⟨by rw [hl]; omega, by rw [hl]; omega, by omega⟩, h.asks, .inr ⟨by simp, by rw [hl, ha]⟩, fun y hy => ?_, fun i hi => ?_, h.h0, h.h1, h.h2⟩
  · rw [hl]
    rcases List.mem_append.1 hy with hy | hy
    · have := h.ans y hy
      exact ⟨this.1, by omega, this.2.2⟩
    · rw [List.mem_singleton.1 hy]
      exact ⟨by show 1 ≤ a; omega, by show a ≤ _; omega, rfl⟩
  · by_cases hid : i < dn.length
    · rw [List.getElem_append_left hid]; exact h.dn i hid
    · have : i = dn.length := by simp at hi; omega
      subst this
      simp [ha]
theorem Inv.same (h : Inv life x se asks ans dn heard) (hk : 1 ≤ dn.length) : Inv life x se asks (ans ++ [((dn.length : Int), se.reply)]) dn heard := by
  refine ⟨h.lf, h.bf, h.q0, h.off, h.on, h.asks, h.seat, fun y hy => ?_, h.dn, h.h0, h.h1, h.h2⟩
  rcases List.mem_append.1 hy with hy | hy
  · exact h.ans y hy
  · rw [List.mem_singleton.1 hy]
    refine ⟨by show 1 ≤ (dn.length : Int); omega, Int.le_refl _, ?_⟩
    rcases h.seat with ⟨h1, _⟩ | ⟨_, h1⟩
    · omega
    · rw [h1]
theorem Inv.hear (h : Inv life x se asks ans dn heard) (hx : x.out = true) (hq : x.q ≤ dn.length) : Inv life ⟨x.life, x.boot, x.q, false, ⟨#[]⟩, 0, 0⟩ se asks ans dn (heard + 1) :=
  ⟨h.lf, h.bf, h.q0, fun _ => (by have := (h.on hx).1; show x.q = _; omega), fun e => (by cases e), h.asks, h.seat, h.ans, h.dn, (by have := h.h0; omega), (by have := h.h2 hx; show _ ≤ x.q; omega), fun e => (by cases e)⟩
theorem ask_no (x : Ln) (h : x.out = true) : lane_Ask.f x.life x.boot x.q x.out x.body x.left x.gap ⟨#[98, 111, 100, 121]⟩ = some (0, 0, 0, false, ⟨#[]⟩, 0, 0, 21) := by simp [lane_Ask.f, h]
theorem ask_yes (x : Ln) (h : x.out = false) (h0 : 0 ≤ x.q) (hq : x.q ≤ 1000) : lane_Ask.f x.life x.boot x.q x.out x.body x.left x.gap ⟨#[98, 111, 100, 121]⟩ = some (x.life, x.boot, x.q + 1, true, ⟨#[98, 111, 100, 121]⟩, 1, 1, 0) := by
  have h1 : ¬ x.q = 4294967295 := by omega
  have h2 : (x.q + 1) % 4294967296 = x.q + 1 := by omega
  simp [lane_Ask.f, h, h1, h2]
theorem tick_all (x : Ln) : ∃ a b c, lane_Tick.f x.life x.boot x.q x.out x.body x.left x.gap = some (x.life, x.boot, x.q, x.out, x.body, a, b, c) ∧ (c = true → x.out = true) := by
  unfold lane_Tick.f
  split
  · split
    · exact ⟨_, _, _, rfl, fun h => by assumption⟩
    · exact ⟨_, _, _, rfl, fun h => by assumption⟩
  · exact ⟨_, _, _, rfl, fun h => (by cases h)⟩
theorem judge_new (h : Inv life x se asks ans dn heard) (hl : 1 ≤ life) {a : Int} (ha : a = dn.length + 1) (hb : a ≤ 1000) : lane_Judge.f 3 se.life se.seq se.reply life a = some 1 := by
  rcases h.seat with ⟨h1, rfl⟩ | ⟨h1, rfl⟩
  · have e : a = 1 := by omega
    subst e
    have l1 : ¬ life < 0 := by omega
    have l2 : ¬ life = 0 := by omega
    have l3 : 0 < life := by omega
    simp [lane_Judge.f, lane_Judge.j0, lane_Judge.j1, l1, l2, l3]
  · have l2 : ¬ life = 0 := by omega
    have e1 : ¬ a = 0 := by omega
    have e2 : ¬ a = (dn.length : Int) := by omega
    have e3 : ¬ a < (dn.length : Int) := by omega
    have e4 : (a - (dn.length : Int)) % 4294967296 = 1 := by omega
    simp [lane_Judge.f, lane_Judge.j0, lane_Judge.j1, l2, e1, e2, e3, e4]
theorem judge_again (h : Inv life x se asks ans dn heard) (hl : 1 ≤ life) {a : Int} (ha : a = dn.length) (h0 : 1 ≤ a) : lane_Judge.f 3 se.life se.seq se.reply life a = some 2 := by
  rcases h.seat with ⟨h1, rfl⟩ | ⟨h1, rfl⟩
  · omega
  · have l2 : ¬ life = 0 := by omega
    have e1 : ¬ a = 0 := by omega
    simp [lane_Judge.f, lane_Judge.j0, lane_Judge.j1, l2, e1, ha.symm]
theorem judge_old (h : Inv life x se asks ans dn heard) (hl : 1 ≤ life) {a : Int} (ha : a < dn.length) (h0 : 1 ≤ a) : lane_Judge.f 3 se.life se.seq se.reply life a = some 3 := by
  rcases h.seat with ⟨h1, rfl⟩ | ⟨h1, rfl⟩
  · omega
  · have l2 : ¬ life = 0 := by omega
    have e1 : ¬ a = 0 := by omega
    have e2 : ¬ a = (dn.length : Int) := by omega
    simp [lane_Judge.f, lane_Judge.j0, lane_Judge.j1, l2, e1, e2, ha]
theorem done_new (h : Inv life x se asks ans dn heard) (hl : 1 ≤ life) {a : Int} (ha : a = dn.length + 1) (hb : a ≤ 1000) (r : ByteArray) : lane_Done.f 3 se.life se.seq se.reply life a r = some (life, a, r) := by
  simp [lane_Done.f, judge_new h hl ha hb]
theorem hear_no (x : Ln) (hb : x.boot = 3) (s : Int) (h : x.out = false ∨ s ≠ x.q) : lane_Hear.f 3 x.life x.boot x.q x.out x.body x.left x.gap x.life 3 3 s = some (x.life, x.boot, x.q, x.out, x.body, x.left, x.gap, 0) := by
  by_cases hx : x.out = true
  · have hs : (s != x.q) = true := by rcases h with h | h <;> simp_all
    simp [lane_Hear.f, lane_Hear.j0, hx, hs, hb]
  · simp [lane_Hear.f, lane_Hear.j0, hx, hb]
theorem hear_yes (x : Ln) (hb : x.boot = 3) (h : x.out = true) : lane_Hear.f 3 x.life x.boot x.q x.out x.body x.left x.gap x.life 3 3 x.q = some (x.life, x.boot, x.q, false, ⟨#[]⟩, 0, 0, 1) := by
  simp [lane_Hear.f, lane_Hear.j0, h, hb]
theorem alive_true : lamellalaw08_alive.f 3 = some true := by
  simp [lamellalaw08_alive.f, lane_Ask.f, lane_Tick.f, lane_Hear.f, lane_Hear.j0, lane_Judge.f, lane_Judge.j0, lane_Judge.j1, lane_Done.f, mn, mx]
theorem alive_calls (w : World) : Calls Try.prog 8 #[] w fun e w' => e = .returned (.bool true) ∧ Below w.heap.size w w' :=
  lamellalaw08_alive.calls 3 true w alive_true
theorem sees_acts {w : World} {R k len cap : Nat} {A : Option Addr} (hR : R ≤ 140737488351232) (h : Sees Try.prog w R (k + 3) 34 [.slice A len cap]) :
    ∃ l : List (Int × Int), l.length = len ∧ len ≤ maxLen ∧ ArrAt w A (fun x : Int × Int => [Value.int .i64 x.1, Value.int .i64 x.2]) 2 l ∧ ∀ y ∈ l, -9223372036854775808 ≤ y.2 ∧ y.2 ≤ 9223372036854775807 := by
  obtain ⟨l, h1, _, h2, _, h3, h4⟩ := arr_of (Q := fun y : Int × Int => -9223372036854775808 ≤ y.2 ∧ y.2 ≤ 9223372036854775807) (f := fun x : Int × Int => [Value.int .i64 x.1, Value.int .i64 x.2]) (s := 2) (by kernel_rfl) (by decide) (fun _ => rfl) Try.underlying34 (fun cs hc => by
    obtain ⟨x0, x1, rfl, f0, f1⟩ := Opens.open38 hc
    exact ⟨(x0, x1), ⟨(bounds_i64 f1).1, by have := (bounds_i64 f1).2; omega⟩, rfl⟩) h
  exact ⟨l, h1, h2, h3, h4⟩
end Go.Proofs.Ytfacdadbebjebaa.Once
