/- Layer device, as plain Lean: what is settled, the writes since, a fuse, death. -/
namespace Go.DevL
/-- A device: settled blocks, unsettled writes, the fuse (below 0: none), death. -/
structure Dv where
  firm : List ByteArray
  late : List (Nat × ByteArray)
  fuse : Int
  dead : Bool
def put (l : List ByteArray) (x : Nat × ByteArray) : List ByteArray := l.set x.1 x.2
/-- What is seen. -/
def Dv.now (d : Dv) : List ByteArray := d.late.foldl put d.firm
structure Dv.OK (d : Dv) : Prop where
  n1 : 1 ≤ d.firm.length
  n2 : d.firm.length ≤ 1024
  sz : ∀ b ∈ d.firm, b.size = 256
  la : ∀ x ∈ d.late, x.1 < d.firm.length ∧ x.2.size = 256
  f1 : -1 ≤ d.fuse
  f2 : d.fuse ≤ 9223372036854775807
theorem length_put (l : List ByteArray) (x : Nat × ByteArray) : (put l x).length = l.length := by simp [put]
theorem length_puts : ∀ (xs : List (Nat × ByteArray)) (l : List ByteArray), (xs.foldl put l).length = l.length
  | [], _ => rfl
  | x :: xs, l => by rw [List.foldl_cons, length_puts xs, length_put]
theorem size_put {l : List ByteArray} {x : Nat × ByteArray} (h : ∀ b ∈ l, b.size = 256) (hx : x.2.size = 256) : ∀ b ∈ put l x, b.size = 256 := fun b hb => by
  rcases List.mem_or_eq_of_mem_set hb with h' | rfl
  · exact h b h'
  · exact hx
theorem size_puts : ∀ (xs : List (Nat × ByteArray)) (l : List ByteArray), (∀ b ∈ l, b.size = 256) → (∀ x ∈ xs, x.2.size = 256) → ∀ b ∈ xs.foldl put l, b.size = 256
  | [], _, h, _ => h
  | x :: xs, l, h, hx => size_puts xs (put l x) (size_put h (hx x (by simp))) (fun y hy => hx y (by simp [hy]))
theorem Dv.OK.now_length {d : Dv} (_h : d.OK) : d.now.length = d.firm.length := length_puts _ _
theorem Dv.OK.now_size {d : Dv} (h : d.OK) : ∀ b ∈ d.now, b.size = 256 := size_puts _ _ h.sz (fun x hx => (h.la x hx).2)
/-- Bit i mod 64 of a number. -/
def bit (keep : Int) (i : Nat) : Bool := keep.toNat / 2 ^ (i % 64) % 2 == 1
/-- What a crash keeps: from write i on. -/
def kept (keep : Int) : Nat → List (Nat × ByteArray) → List ByteArray → List ByteArray
  | _, [], l => l
  | i, x :: r, l => kept keep (i + 1) r (if bit keep i = true then put l x else l)
theorem kept_length (keep : Int) : ∀ (xs : List (Nat × ByteArray)) (i : Nat) (l : List ByteArray), (kept keep i xs l).length = l.length
  | [], _, _ => rfl
  | x :: xs, i, l => by rw [kept, kept_length keep xs]; split <;> simp [length_put]
theorem kept_size (keep : Int) : ∀ (xs : List (Nat × ByteArray)) (i : Nat) (l : List ByteArray), (∀ b ∈ l, b.size = 256) → (∀ x ∈ xs, x.2.size = 256) → ∀ b ∈ kept keep i xs l, b.size = 256
  | [], _, _, h, _ => h
  | x :: xs, i, l, h, hx => by
    rw [kept]
    refine kept_size keep xs _ _ ?_ (fun y hy => hx y (by simp [hy]))
    split
    · exact size_put h (hx x (by simp))
    · exact h
def Dv.burns (d : Dv) : Bool := d.dead || d.fuse == 0
def less (f : Int) : Int := if 0 < f then f - 1 else f
def Dv.die (d : Dv) : Dv := { d with dead := true }
def Dv.bad (d : Dv) (i : Int) : Bool := decide (i < 0) || decide ((d.firm.length : Int) ≤ i)
def Dv.write (d : Dv) (i : Int) (b : ByteArray) : Int × Dv :=
  if (d.bad i || b.size != 256) = true then (1, d) else if d.burns = true then (5, d.die) else (0, { d with late := d.late ++ [(i.toNat, b)], fuse := less d.fuse })
def Dv.barrier (d : Dv) : Int × Dv := if d.burns = true then (5, d.die) else (0, { d with firm := d.now, late := [], fuse := less d.fuse })
def Dv.light (d : Dv) (n : Int) : Dv := { d with fuse := if n < -1 then -1 else n }
def Dv.crash (d : Dv) (keep : Int) : Dv := { firm := kept keep 0 d.late d.firm, late := [], fuse := -1, dead := false }
def Dv.read (d : Dv) (i : Int) : ByteArray × Int :=
  if d.bad i = true then (ByteArray.empty, 1) else if d.dead = true then (ByteArray.empty, 5) else (d.now.getD i.toNat ByteArray.empty, 0)
def Dv.settled (d : Dv) (i : Int) : ByteArray := if d.bad i = true then ByteArray.empty else d.firm.getD i.toNat ByteArray.empty
/-- So many bytes of one kind. -/
def rep8 (b : UInt8) (n : Nat) : ByteArray := ⟨(List.replicate n b).toArray⟩
theorem rep8_size (b : UInt8) (n : Nat) : (rep8 b n).size = n := by
  show (List.replicate n b).toArray.size = n
  simp
def clamp (n : Int) : Nat := (max 1 (min n 1024)).toNat
def fresh (n : Int) : Dv := ⟨List.replicate (clamp n) (rep8 0 256), [], -1, false⟩
theorem clamp_1 (n : Int) : 1 ≤ clamp n := by unfold clamp; omega
theorem clamp_2 (n : Int) : clamp n ≤ 1024 := by unfold clamp; omega
theorem less_1 {f : Int} (h1 : -1 ≤ f) : -1 ≤ less f := by unfold less; split <;> omega
theorem less_2 {f : Int} (h1 : f ≤ 9223372036854775807) : less f ≤ 9223372036854775807 := by unfold less; split <;> omega
theorem fresh_ok (n : Int) : (fresh n).OK where
  n1 := by simpa [fresh] using clamp_1 n
  n2 := by simpa [fresh] using clamp_2 n
  sz b hb := by
    simp only [fresh, List.mem_replicate] at hb
    rw [hb.2]; exact rep8_size _ _
  la x hx := by simp [fresh] at hx
  f1 := by simp [fresh]
  f2 := by simp [fresh]
theorem Dv.OK.die {d : Dv} (h : d.OK) : d.die.OK := ⟨h.n1, h.n2, h.sz, h.la, h.f1, h.f2⟩
theorem Dv.bad_false {d : Dv} {i : Int} (h : d.bad i = false) : 0 ≤ i ∧ i < d.firm.length := by
  unfold Dv.bad at h
  simp only [Bool.or_eq_false_iff, decide_eq_false_iff_not] at h
  omega
theorem Dv.OK.write {d : Dv} (h : d.OK) (i : Int) (b : ByteArray) : (d.write i b).2.OK := by
  unfold Dv.write
  by_cases h1 : (d.bad i || b.size != 256) = true
  · rw [if_pos h1]; exact h
  · rw [if_neg h1]
    by_cases h2 : d.burns = true
    · rw [if_pos h2]; exact h.die
    · rw [if_neg h2]
      simp only [Bool.not_eq_true, Bool.or_eq_false_iff, bne_eq_false_iff_eq] at h1
      have hb := Dv.bad_false h1.1
      refine ⟨h.n1, h.n2, h.sz, ?_, less_1 h.f1, less_2 h.f2⟩
      intro x hx
      rcases List.mem_append.1 hx with hx | hx
      · exact h.la x hx
      · simp only [List.mem_singleton] at hx
        subst hx
        exact ⟨by show i.toNat < d.firm.length; omega, h1.2⟩
theorem Dv.OK.barrier {d : Dv} (h : d.OK) : d.barrier.2.OK := by
  unfold Dv.barrier
  by_cases h2 : d.burns = true
  · rw [if_pos h2]; exact h.die
  · rw [if_neg h2]
    have hl := h.now_length
    exact ⟨by show 1 ≤ d.now.length; rw [hl]; exact h.n1, by show d.now.length ≤ 1024; rw [hl]; exact h.n2, h.now_size, fun x hx => by simp at hx, less_1 h.f1, less_2 h.f2⟩
theorem Dv.OK.light {d : Dv} (h : d.OK) {n : Int} (hn : n ≤ 9223372036854775807) : (d.light n).OK := by
  refine ⟨h.n1, h.n2, h.sz, h.la, ?_, ?_⟩
  · show -1 ≤ if n < -1 then -1 else n
    split <;> omega
  · show (if n < -1 then -1 else n) ≤ 9223372036854775807
    split <;> omega
theorem Dv.OK.crash {d : Dv} (h : d.OK) (keep : Int) : (d.crash keep).OK where
  n1 := by show 1 ≤ (kept keep 0 d.late d.firm).length; rw [kept_length]; exact h.n1
  n2 := by show (kept keep 0 d.late d.firm).length ≤ 1024; rw [kept_length]; exact h.n2
  sz := kept_size keep _ _ _ h.sz (fun x hx => (h.la x hx).2)
  la x hx := by simp [Dv.crash] at hx
  f1 := by simp [Dv.crash]
  f2 := by simp [Dv.crash]
end Go.DevL
