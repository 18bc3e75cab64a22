/- Layer net: what its functions do, plainly; the program's net and the document's, each in a set of blocks of its own. Layer net: a law's net beside other blocks; what every right program answers. Layer net: which packets a law looks at; a packet with another number. -/
import Derived.Test.YtiedmkgdhfkcoaaDoorNetNP
import Derived.Test.YtiedmkgdhfkcoaaDoorPktEq
namespace Go.Proofs.YtiedmkgdhfkcoaaDoor.Net
open Go.RowKit Go.Own Go.Blk Go.OpsL Go.XdrL Go.PktL Go.Proofs.YtiedmkgdhfkcoaaDoor.Pkt Go.Proofs.YtiedmkgdhfkcoaaDoorW.PrintLast Go.Proofs.YtiedmkgdhfkcoaaDoorW.PrintWords
set_option linter.unusedVariables false
set_option linter.unusedSimpArgs false
set_option maxRecDepth 100000
def sendR (l : List Pk) (s : Pk) : Int × List Pk := if right s = true then (if l.length = 200 then (6, l) else (0, l ++ [s])) else (1, l)
def takeR (l : List Pk) (i : Int) : Pk × Int × List Pk := if 0 ≤ i ∧ i < l.length then (l.getD i.toNat Pk.zero, 0, l.take i.toNat ++ l.drop (i.toNat + 1)) else (Pk.zero, 7, l)
def dropR (l : List Pk) (i : Int) : Int × List Pk := (takeR l i).2
def doubleR (l : List Pk) (i : Int) : Int × List Pk := if 0 ≤ i ∧ i < l.length then (if l.length = 200 then (6, l) else (0, l ++ [l.getD i.toNat Pk.zero])) else (7, l)
def moveR (l : List Pk) (i j : Int) : Int × List Pk := if 0 ≤ i ∧ i < l.length then (if 0 ≤ j ∧ j < l.length then (0, dmoved l i.toNat j.toNat (l.getD i.toNat Pk.zero)) else (1, l)) else (7, l)
def atR (l : List Pk) (i : Int) : ByteArray := if 0 ≤ i ∧ i < l.length then (l.getD i.toNat Pk.zero).bytes else ⟨#[]⟩
/-- F, and what is new. -/
def Up (F : Nat → Prop) (w w' : World) (k : Nat) : Prop := F k ∨ (w.heap.size ≤ k ∧ k < w'.heap.size)
structure NHas (F : Nat → Prop) (w : World) (p : Nat) (l : List Pk) : Prop where
  at_ : ∃ v, NAt w p v (l.map Pk.bytes) ∧ ∀ k, foot p v k → F k
  lt : ∀ k, F k → k < w.heap.size
  ok : ∀ s ∈ l, s.OK ∧ right s = true
structure MHas (F : Nat → Prop) (w : World) (m : Nat) (l : List Pk) : Prop where
  at_ : ∃ v, MAt w m v l ∧ ∀ k, foot m v k → F k
  lt : ∀ k, F k → k < w.heap.size
variable {F : Nat → Prop} {w w' : World} {p m : Nat} {l : List Pk}
theorem NHas.few (h : NHas F w p l) : l.length ≤ 200 := by obtain ⟨v, h, _⟩ := h.at_; simpa using h.few
theorem MHas.few (h : MHas F w m l) : l.length ≤ 200 := by obtain ⟨v, h, _⟩ := h.at_; exact h.few
theorem NHas.keep {G : Nat → Prop} (h : NHas F w p l) (hf : Fr G w w') (hG : ∀ k, F k → ¬ G k) : NHas F w' p l :=
  ⟨h.at_.elim fun v ⟨h1, h2⟩ => ⟨v, h1.keep hf (fun k hk => hG k (h2 k hk)), h2⟩, fun k hk => Nat.lt_of_lt_of_le (h.lt k hk) hf.size, h.ok⟩
theorem MHas.keep {G : Nat → Prop} (h : MHas F w m l) (hf : Fr G w w') (hG : ∀ k, F k → ¬ G k) : MHas F w' m l :=
  ⟨h.at_.elim fun v ⟨h1, h2⟩ => ⟨v, h1.keep hf (fun k hk => hG k (h2 k hk)), h2⟩, fun k hk => Nat.lt_of_lt_of_le (h.lt k hk) hf.size⟩
theorem NHas.below (h : NHas F w p l) (hb : Below w.heap.size w w') : NHas F w' p l := h.keep (Fr.of_below (F := fun _ => False) hb) (fun _ _ => id)
theorem MHas.below (h : MHas F w m l) (hb : Below w.heap.size w w') : MHas F w' m l := h.keep (Fr.of_below (F := fun _ => False) hb) (fun _ _ => id)
theorem NHas.mono {G : Nat → Prop} (h : NHas F w p l) (hG : ∀ k, F k → G k) (hl : ∀ k, G k → k < w.heap.size) : NHas G w p l :=
  ⟨h.at_.elim fun v ⟨h1, h2⟩ => ⟨v, h1, fun k hk => hG k (h2 k hk)⟩, hl, h.ok⟩
theorem MHas.mono {G : Nat → Prop} (h : MHas F w m l) (hG : ∀ k, F k → G k) (hl : ∀ k, G k → k < w.heap.size) : MHas G w m l :=
  ⟨h.at_.elim fun v ⟨h1, h2⟩ => ⟨v, h1, fun k hk => hG k (h2 k hk)⟩, hl⟩
theorem up_lt {G : Nat → Prop} {w w' : World} (h : ∀ k, F k → k < w.heap.size) (hf : Fr G w w') : ∀ k, Up F w w' k → k < w'.heap.size := fun k hk => by
  rcases hk with hk | hk
  · exact Nat.lt_of_lt_of_le (h k hk) hf.size
  · exact hk.2
theorem NHas.up (h : NHas F w p l) (hb : Below w.heap.size w w') : NHas (Up F w w') w' p l := (h.below hb).mono (fun _ hk => .inl hk) (up_lt h.lt (Fr.of_below (F := fun _ => False) hb))
theorem MHas.up (h : MHas F w m l) (hb : Below w.heap.size w w') : MHas (Up F w w') w' m l := (h.below hb).mono (fun _ hk => .inl hk) (up_lt h.lt (Fr.of_below (F := fun _ => False) hb))
/-- What a step leaves. -/
theorem nstep {v v' : Value} {l' : List Pk} (hlt : ∀ k, F k → k < w.heap.size) (hv : ∀ k, foot p v k → F k) (hn : NAt w' p v' (l'.map Pk.bytes)) (hf : Fr (foot p v) w w') (ho : ∀ j, v'.ownBlock = some j → v.ownBlock = some j ∨ w.heap.size ≤ j) (hok : ∀ s ∈ l', s.OK ∧ right s = true) : NHas (Up F w w') w' p l' ∧ Fr F w w' := by
  have hF : Fr F w w' := hf.mono (fun k _ hk => hv k hk)
  refine ⟨⟨⟨v', hn, fun k hk => ?_⟩, up_lt hlt hF, hok⟩, hF⟩
  rcases hk with rfl | hk
  · exact .inl (hv _ (.inl rfl))
  · rcases ho k hk with h | h
    · exact .inl (hv k (.inr h))
    · exact .inr ⟨h, hn.lt k (.inr hk)⟩
theorem mstep {v v' : Value} {l' : List Pk} (hlt : ∀ k, F k → k < w.heap.size) (hv : ∀ k, foot m v k → F k) (hn : MAt w' m v' l') (hf : Fr (foot m v) w w') (ho : ∀ j, v'.ownBlock = some j → v.ownBlock = some j ∨ w.heap.size ≤ j) : MHas (Up F w w') w' m l' ∧ Fr F w w' := by
  have hF : Fr F w w' := hf.mono (fun k _ hk => hv k hk)
  refine ⟨⟨⟨v', hn, fun k hk => ?_⟩, up_lt hlt hF⟩, hF⟩
  rcases hk with rfl | hk
  · exact .inl (hv _ (.inl rfl))
  · rcases ho k hk with h | h
    · exact .inl (hv k (.inr h))
    · exact .inr ⟨h, hn.lt k (.inr hk)⟩
theorem getD_get (l : List Pk) (k : Nat) (hk : k < l.length) : l.getD k Pk.zero = l[k] := by simp [List.getD, List.getElem?_eq_getElem hk]
theorem idx (i : Int) (n : Nat) (h : 0 ≤ i ∧ i < n) : ∃ k : Nat, i = (k : Int) ∧ k < n ∧ i.toNat = k := ⟨i.toNat, by omega, by omega, rfl⟩
theorem ok_cut {l : List Pk} (h : ∀ s ∈ l, s.OK ∧ right s = true) (k : Nat) : ∀ s ∈ l.take k ++ l.drop (k + 1), s.OK ∧ right s = true := fun s hs => by
  rcases List.mem_append.1 hs with hs | hs
  · exact h s (List.mem_of_mem_take hs)
  · exact h s (List.mem_of_mem_drop hs)
theorem ok_add {l : List Pk} (h : ∀ s ∈ l, s.OK ∧ right s = true) {t : Pk} (ht : t.OK ∧ right t = true) : ∀ s ∈ l ++ [t], s.OK ∧ right s = true := fun s hs => by
  rcases List.mem_append.1 hs with hs | hs
  · exact h s hs
  · rw [List.mem_singleton.1 hs]; exact ht
theorem ok_moved {l : List Pk} (h : ∀ s ∈ l, s.OK ∧ right s = true) (i tt : Nat) {t : Pk} (ht : t.OK ∧ right t = true) : ∀ s ∈ dmoved l i tt t, s.OK ∧ right s = true := fun s hs => by
  have h' := ok_cut h i
  unfold dmoved at hs
  rcases List.mem_append.1 hs with hs | hs
  · rcases List.mem_append.1 hs with hs | hs
    · exact h' s (List.mem_of_mem_take hs)
    · rw [List.mem_singleton.1 hs]; exact ht
  · exact h' s (List.mem_of_mem_drop hs)
theorem moved_map (l : List Pk) (i tt : Nat) (s : Pk) : moved (l.map Pk.bytes) i tt s.bytes = (dmoved l i tt s).map Pk.bytes := by
  simp [moved, dmoved, List.map_take, List.map_drop]
theorem send_has (h : NHas F w p l) (s : Pk) (hs : s.OK) : Calls Tryd.prog 19 #[.pointer (some ⟨p, 0, none⟩), .agg #[.int .i64 s.kind, .int .i64 s.fr, .int .i64 s.to, .int .u32 (s.life : Int), .int .u32 (s.seq : Int), .int .u32 (s.asked : Int), .int .u32 (s.boot : Int), .int .i64 s.code, .int .i64 s.err, .int .u32 (s.file : Int), .int .u32 (s.epoch : Int), .int .u32 (s.off : Int), .int .u32 (s.len : Int), .int .u32 (s.size : Int), .int .u32 (s.mode : Int), .int .u32 (s.deny : Int), .int .u32 (s.handle : Int), .string s.path, .string s.other, .string s.data]] w fun e w' => ∃ c l', sendR l s = (c, l') ∧ e = .returned (.int .i64 c) ∧ NHas (Up F w w') w' p l' ∧ Fr F w w' := by
  obtain ⟨v, ha, hv⟩ := h.at_
  cases hr : right s with
  | false => exact (send_bad ha s hs hr).mono fun e w' ⟨he, hb⟩ => ⟨_, _, by simp [sendR, hr], he, h.up hb, Fr.of_below hb⟩
  | true =>
    by_cases hf : l.length = 200
    · exact (send_full ha s hs hr (by simpa using hf)).mono fun e w' ⟨he, hb⟩ => ⟨_, _, by simp [sendR, hr, hf], he, h.up hb, Fr.of_below hb⟩
    · have hlt : l.length < 200 := by have := h.few; omega
      refine (send_in ha s hs hr (by simpa using hlt)).mono fun e w' ⟨he, v', hn, hf', ho⟩ => ?_
      have hs' := nstep (l' := l ++ [s]) h.lt hv ((congrArg (NAt w' p v') (by simp)).mp hn) hf' ho (ok_add h.ok ⟨hs, hr⟩)
      exact ⟨_, _, by simp [sendR, hr, hf], he, hs'.1, hs'.2⟩
theorem take_has (h : NHas F w p l) (i : Int) : Calls Tryd.prog 21 #[.pointer (some ⟨p, 0, none⟩), .int .i64 i] w fun e w' => ∃ s c l', takeR l i = (s, c, l') ∧ e = .returned (.tuple #[.agg #[.int .i64 s.kind, .int .i64 s.fr, .int .i64 s.to, .int .u32 (s.life : Int), .int .u32 (s.seq : Int), .int .u32 (s.asked : Int), .int .u32 (s.boot : Int), .int .i64 s.code, .int .i64 s.err, .int .u32 (s.file : Int), .int .u32 (s.epoch : Int), .int .u32 (s.off : Int), .int .u32 (s.len : Int), .int .u32 (s.size : Int), .int .u32 (s.mode : Int), .int .u32 (s.deny : Int), .int .u32 (s.handle : Int), .string s.path, .string s.other, .string s.data], .int .i64 c]) ∧ NHas (Up F w w') w' p l' ∧ Fr F w w' := by
  obtain ⟨v, ha, hv⟩ := h.at_
  by_cases hi : 0 ≤ i ∧ i < l.length
  · obtain ⟨k, rfl, hk, ht⟩ := idx i _ hi
    refine (take_in ha k (by simpa using hk) l[k] (h.ok _ (List.getElem_mem hk)).1 (h.ok _ (List.getElem_mem hk)).2 (by simp)).mono fun e w' ⟨he, v', hn, hf', ho⟩ => ?_
    have hs' := nstep (l' := l.take k ++ l.drop (k + 1)) h.lt hv ((congrArg (NAt w' p v') (by simp [List.map_take, List.map_drop])).mp hn) hf' ho (ok_cut h.ok k)
    exact ⟨_, _, _, by rw [takeR, if_pos hi, ht, getD_get l k hk], he, hs'.1, hs'.2⟩
  · exact (take_out ha i (by simp; omega)).mono fun e w' ⟨he, hb⟩ => ⟨Pk.zero, _, _, by rw [takeR, if_neg hi], he, h.up hb, Fr.of_below hb⟩
theorem drop_has (h : NHas F w p l) (i : Int) : Calls Tryd.prog 23 #[.pointer (some ⟨p, 0, none⟩), .int .i64 i] w fun e w' => ∃ c l', dropR l i = (c, l') ∧ e = .returned (.int .i64 c) ∧ NHas (Up F w w') w' p l' ∧ Fr F w w' := by
  obtain ⟨v, ha, hv⟩ := h.at_
  by_cases hi : 0 ≤ i ∧ i < l.length
  · obtain ⟨k, rfl, hk, ht⟩ := idx i _ hi
    refine (drop_in ha k (by simpa using hk)).mono fun e w' ⟨he, v', hn, hf', ho⟩ => ?_
    have hs' := nstep (l' := l.take k ++ l.drop (k + 1)) h.lt hv ((congrArg (NAt w' p v') (by simp [List.map_take, List.map_drop])).mp hn) hf' ho (ok_cut h.ok k)
    exact ⟨_, _, by rw [dropR, takeR, if_pos hi, ht], he, hs'.1, hs'.2⟩
  · refine (drop_out ha i (by simp; omega)).mono fun e w' ⟨he, hw⟩ => ?_
    subst hw
    exact ⟨_, _, by rw [dropR, takeR, if_neg hi], he, h.up (Below.refl _ _), Fr.refl _ _⟩
theorem at_has (h : NHas F w p l) (i : Int) : Calls Tryd.prog 29 #[.pointer (some ⟨p, 0, none⟩), .int .i64 i] w fun e w' => e = .returned (.string (atR l i)) ∧ w' = w := by
  obtain ⟨v, ha, hv⟩ := h.at_
  by_cases hi : 0 ≤ i ∧ i < l.length
  · obtain ⟨k, rfl, hk, ht⟩ := idx i _ hi
    refine (at_in ha k (by simpa using hk)).mono fun e w' ⟨he, hw⟩ => ⟨?_, hw⟩
    rw [he, atR, if_pos hi, ht, getD_get l k hk]
    simp
  · refine (at_out ha i (by simp; omega)).mono fun e w' ⟨he, hw⟩ => ⟨?_, hw⟩
    rw [he, atR, if_neg hi]
theorem len_has (h : NHas F w p l) : Calls Tryd.prog 28 #[.pointer (some ⟨p, 0, none⟩)] w fun e w' => e = .returned (.int .i64 l.length) ∧ w' = w := by
  obtain ⟨v, ha, hv⟩ := h.at_
  have := len_calls ha
  simpa using this
theorem double_has (h : NHas F w p l) (i : Int) : Calls Tryd.prog 24 #[.pointer (some ⟨p, 0, none⟩), .int .i64 i] w fun e w' => ∃ c l', doubleR l i = (c, l') ∧ e = .returned (.int .i64 c) ∧ NHas (Up F w w') w' p l' ∧ Fr F w w' := by
  obtain ⟨v, ha, hv⟩ := h.at_
  by_cases hi : 0 ≤ i ∧ i < l.length
  · obtain ⟨k, rfl, hk, ht⟩ := idx i _ hi
    by_cases hf : l.length = 200
    · exact (double_full ha k (by simpa using hk) (by simpa using hf)).mono fun e w' ⟨he, hw⟩ => by
        subst hw
        exact ⟨_, _, by rw [doubleR, if_pos hi, if_pos hf], he, h.up (Below.refl _ _), Fr.refl _ _⟩
    · have hlt : l.length < 200 := by have := h.few; omega
      refine (double_in ha k (by simpa using hk) (by simpa using hlt)).mono fun e w' ⟨he, v', hn, hf', ho⟩ => ?_
      have hs' := nstep (l' := l ++ [l[k]]) h.lt hv ((congrArg (NAt w' p v') (by simp)).mp hn) hf' ho (ok_add h.ok (h.ok _ (List.getElem_mem hk)))
      exact ⟨_, _, by rw [doubleR, if_pos hi, if_neg hf, ht, getD_get l k hk], he, hs'.1, hs'.2⟩
  · exact (double_out ha i (by simp; omega)).mono fun e w' ⟨he, hw⟩ => by
      subst hw
      exact ⟨_, _, by rw [doubleR, if_neg hi], he, h.up (Below.refl _ _), Fr.refl _ _⟩
theorem move_has (h : NHas F w p l) (i j : Int) : Calls Tryd.prog 26 #[.pointer (some ⟨p, 0, none⟩), .int .i64 i, .int .i64 j] w fun e w' => ∃ c l', moveR l i j = (c, l') ∧ e = .returned (.int .i64 c) ∧ NHas (Up F w w') w' p l' ∧ Fr F w w' := by
  obtain ⟨v, ha, hv⟩ := h.at_
  by_cases hi : 0 ≤ i ∧ i < l.length
  · obtain ⟨k, rfl, hk, ht⟩ := idx i _ hi
    by_cases hj : 0 ≤ j ∧ j < l.length
    · obtain ⟨t, rfl, htl, ht2⟩ := idx j _ hj
      refine (move_in ha k t (by simpa using hk) (by simpa using htl)).mono fun e w' ⟨he, v', hn, hf', ho⟩ => ?_
      have hs' := nstep (l' := dmoved l k t l[k]) h.lt hv ((congrArg (NAt w' p v') (by rw [← moved_map]; simp)).mp hn) hf' ho (ok_moved h.ok k t (h.ok _ (List.getElem_mem hk)))
      exact ⟨_, _, by rw [moveR, if_pos hi, if_pos hj, ht, ht2, getD_get l k hk], he, hs'.1, hs'.2⟩
    · exact (move_bad ha k (by simpa using hk) j (by simp; omega)).mono fun e w' ⟨he, hw⟩ => by
        subst hw
        exact ⟨_, _, by rw [moveR, if_pos hi, if_neg hj], he, h.up (Below.refl _ _), Fr.refl _ _⟩
  · exact (move_out ha i j (by simp; omega)).mono fun e w' ⟨he, hw⟩ => by
      subst hw
      exact ⟨_, _, by rw [moveR, if_neg hi], he, h.up (Below.refl _ _), Fr.refl _ _⟩
theorem dsend_has (h : MHas F w m l) (s : Pk) (hs : s.OK) : Calls Tryd.prog 20 #[.pointer (some ⟨m, 0, none⟩), .agg #[.int .i64 s.kind, .int .i64 s.fr, .int .i64 s.to, .int .u32 (s.life : Int), .int .u32 (s.seq : Int), .int .u32 (s.asked : Int), .int .u32 (s.boot : Int), .int .i64 s.code, .int .i64 s.err, .int .u32 (s.file : Int), .int .u32 (s.epoch : Int), .int .u32 (s.off : Int), .int .u32 (s.len : Int), .int .u32 (s.size : Int), .int .u32 (s.mode : Int), .int .u32 (s.deny : Int), .int .u32 (s.handle : Int), .string s.path, .string s.other, .string s.data]] w fun e w' => ∃ c l', sendR l s = (c, l') ∧ e = .returned (.int .i64 c) ∧ MHas (Up F w w') w' m l' ∧ Fr F w w' := by
  obtain ⟨v, ha, hv⟩ := h.at_
  cases hr : right s with
  | false => exact (dsend_bad ha s hs hr).mono fun e w' ⟨he, hb⟩ => ⟨_, _, by simp [sendR, hr], he, h.up hb, Fr.of_below hb⟩
  | true =>
    by_cases hf : l.length = 200
    · exact (dsend_full ha s hs hr (by simpa using hf)).mono fun e w' ⟨he, hb⟩ => ⟨_, _, by simp [sendR, hr, hf], he, h.up hb, Fr.of_below hb⟩
    · have hlt : l.length < 200 := by have := h.few; omega
      refine (dsend_in ha s hs hr (by simpa using hlt)).mono fun e w' ⟨he, v', hn, hf', ho⟩ => ?_
      have hs' := mstep (l' := l ++ [s]) h.lt hv (hn) hf' ho
      exact ⟨_, _, by simp [sendR, hr, hf], he, hs'.1, hs'.2⟩
theorem dtake_has (h : MHas F w m l) (i : Int) : Calls Tryd.prog 22 #[.pointer (some ⟨m, 0, none⟩), .int .i64 i] w fun e w' => ∃ s c l', takeR l i = (s, c, l') ∧ e = .returned (.tuple #[.agg #[.int .i64 s.kind, .int .i64 s.fr, .int .i64 s.to, .int .u32 (s.life : Int), .int .u32 (s.seq : Int), .int .u32 (s.asked : Int), .int .u32 (s.boot : Int), .int .i64 s.code, .int .i64 s.err, .int .u32 (s.file : Int), .int .u32 (s.epoch : Int), .int .u32 (s.off : Int), .int .u32 (s.len : Int), .int .u32 (s.size : Int), .int .u32 (s.mode : Int), .int .u32 (s.deny : Int), .int .u32 (s.handle : Int), .string s.path, .string s.other, .string s.data], .int .i64 c]) ∧ MHas (Up F w w') w' m l' ∧ Fr F w w' := by
  obtain ⟨v, ha, hv⟩ := h.at_
  by_cases hi : 0 ≤ i ∧ i < l.length
  · obtain ⟨k, rfl, hk, ht⟩ := idx i _ hi
    refine (dtake_in ha k hk l[k] rfl).mono fun e w' ⟨he, v', hn, hf', ho⟩ => ?_
    have hs' := mstep (l' := l.take k ++ l.drop (k + 1)) h.lt hv (hn) hf' ho
    exact ⟨_, _, _, by rw [takeR, if_pos hi, ht, getD_get l k hk], he, hs'.1, hs'.2⟩
  · exact (dtake_out ha i (by omega)).mono fun e w' ⟨he, hb⟩ => ⟨Pk.zero, _, _, by rw [takeR, if_neg hi], he, h.up hb, Fr.of_below hb⟩
theorem ddouble_has (h : MHas F w m l) (i : Int) : Calls Tryd.prog 25 #[.pointer (some ⟨m, 0, none⟩), .int .i64 i] w fun e w' => ∃ c l', doubleR l i = (c, l') ∧ e = .returned (.int .i64 c) ∧ MHas (Up F w w') w' m l' ∧ Fr F w w' := by
  obtain ⟨v, ha, hv⟩ := h.at_
  by_cases hi : 0 ≤ i ∧ i < l.length
  · obtain ⟨k, rfl, hk, ht⟩ := idx i _ hi
    by_cases hf : l.length = 200
    · exact (ddouble_full ha k (by simpa using hk) (by simpa using hf)).mono fun e w' ⟨he, hw⟩ => by
        subst hw
        exact ⟨_, _, by rw [doubleR, if_pos hi, if_pos hf], he, h.up (Below.refl _ _), Fr.refl _ _⟩
    · have hlt : l.length < 200 := by have := h.few; omega
      refine (ddouble_in ha k hk l[k] rfl hlt).mono fun e w' ⟨he, v', hn, hf', ho⟩ => ?_
      have hs' := mstep (l' := l ++ [l[k]]) h.lt hv (hn) hf' ho
      exact ⟨_, _, by rw [doubleR, if_pos hi, if_neg hf, ht, getD_get l k hk], he, hs'.1, hs'.2⟩
  · exact (ddouble_out ha i (by omega)).mono fun e w' ⟨he, hw⟩ => by
      subst hw
      exact ⟨_, _, by rw [doubleR, if_neg hi], he, h.up (Below.refl _ _), Fr.refl _ _⟩
theorem dmove_has (h : MHas F w m l) (i j : Int) : Calls Tryd.prog 27 #[.pointer (some ⟨m, 0, none⟩), .int .i64 i, .int .i64 j] w fun e w' => ∃ c l', moveR l i j = (c, l') ∧ e = .returned (.int .i64 c) ∧ MHas (Up F w w') w' m l' ∧ Fr F w w' := by
  obtain ⟨v, ha, hv⟩ := h.at_
  by_cases hi : 0 ≤ i ∧ i < l.length
  · obtain ⟨k, rfl, hk, ht⟩ := idx i _ hi
    by_cases hj : 0 ≤ j ∧ j < l.length
    · obtain ⟨t, rfl, htl, ht2⟩ := idx j _ hj
      refine (dmove_in ha k t hk htl l[k] rfl).mono fun e w' ⟨he, v', hn, hf', ho⟩ => ?_
      have hs' := mstep (l' := dmoved l k t l[k]) h.lt hv (hn) hf' ho
      exact ⟨_, _, by rw [moveR, if_pos hi, if_pos hj, ht, ht2, getD_get l k hk], he, hs'.1, hs'.2⟩
    · exact (dmove_bad ha k (by simpa using hk) j (by omega)).mono fun e w' ⟨he, hw⟩ => by
        subst hw
        exact ⟨_, _, by rw [moveR, if_pos hi, if_neg hj], he, h.up (Below.refl _ _), Fr.refl _ _⟩
  · exact (dmove_out ha i j (by omega)).mono fun e w' ⟨he, hw⟩ => by
      subst hw
      exact ⟨_, _, by rw [moveR, if_neg hi], he, h.up (Below.refl _ _), Fr.refl _ _⟩
end Go.Proofs.YtiedmkgdhfkcoaaDoor.Net
namespace Go.Proofs.YtiedmkgdhfkcoaaDoor.Net
open Go.RowKit Go.Own Go.Blk Go.OpsL Go.XdrL Go.PktL Go.Proofs.YtiedmkgdhfkcoaaDoor.Pkt Go.Proofs.YtiedmkgdhfkcoaaDoorW.PrintLast Go.Proofs.YtiedmkgdhfkcoaaDoorW.PrintWords
set_option linter.unusedVariables false
set_option linter.unusedSimpArgs false
set_option maxRecDepth 100000
/-- A law's own net at p, beside the blocks X. -/
structure One (w0 w : World) (p : Nat) (l : List Pk) (X : List Nat) : Prop where
  has : ∃ F, NHas F w p l ∧ ∀ k, F k → w0.heap.size ≤ k ∧ k ∉ X
  xs : ∀ x ∈ X, x < w.heap.size
  bel : Below w0.heap.size w0 w
def Kept (X : List Nat) (w w' : World) : Prop := ∀ x ∈ X, w'.heap[x]? = w.heap[x]?
variable {w0 w w' : World} {p : Nat} {l l' : List Pk} {X : List Nat}
theorem One.few (h : One w0 w p l X) : l.length ≤ 200 := by obtain ⟨F, h, _⟩ := h.has; exact h.few
theorem One.ok (h : One w0 w p l X) : ∀ s ∈ l, s.OK ∧ right s = true := by obtain ⟨F, h, _⟩ := h.has; exact h.ok
theorem One.below (h : One w0 w p l X) (hb : Below w.heap.size w w') : One w0 w' p l X :=
  ⟨h.has.elim fun F ⟨h1, h2⟩ => ⟨F, h1.below hb, h2⟩, fun x hx => Nat.lt_of_lt_of_le (h.xs x hx) hb.size, h.bel.trans (hb.mono h.bel.size)⟩
theorem One.add (h : One w0 w p l X) (hb : Below w.heap.size w w') {x : Nat} (h1 : w.heap.size ≤ x) (h2 : x < w'.heap.size) : One w0 w' p l (x :: X) :=
  ⟨h.has.elim fun F ⟨k1, k2⟩ => ⟨F, k1.below hb, fun k hk => ⟨(k2 k hk).1, fun hx => by
    rcases List.mem_cons.1 hx with e | e
    · have := k1.lt k hk; omega
    · exact (k2 k hk).2 e⟩⟩, fun y hy => by
    rcases List.mem_cons.1 hy with e | e
    · omega
    · exact Nat.lt_of_lt_of_le (h.xs y e) hb.size, h.bel.trans (hb.mono h.bel.size)⟩
theorem One.less (h : One w0 w p l X) {Y : List Nat} (hY : ∀ y ∈ Y, y ∈ X) : One w0 w p l Y :=
  ⟨h.has.elim fun F ⟨k1, k2⟩ => ⟨F, k1, fun k hk => ⟨(k2 k hk).1, fun hx => (k2 k hk).2 (hY k hx)⟩⟩, fun y hy => h.xs y (hY y hy), h.bel⟩
/-- A block of X is changed. -/
theorem One.set (h : One w0 w p l X) (hf : Fr (· ∈ X) w w') (hX : ∀ x ∈ X, w0.heap.size ≤ x) : One w0 w' p l X :=
  ⟨h.has.elim fun F ⟨h1, h2⟩ => ⟨F, h1.keep hf (fun k hk hx => (h2 k hk).2 hx), h2⟩, fun x hx => Nat.lt_of_lt_of_le (h.xs x hx) hf.size, h.bel.trans (hf.below h.bel.size (fun k hk => hX k hk))⟩
theorem Kept.below (h : One w0 w p l X) (hb : Below w.heap.size w w') : Kept X w w' := fun x hx => hb.block x (h.xs x hx)
theorem Kept.pk {x : Nat} {s : Pk} (h : Kept X w w') (hx : x ∈ X) (hp : PAt w x s) : PAt w' x s := (h x hx).trans hp
theorem One.step {F : Nat → Prop} (h : One w0 w p l X) (hF : ∀ k, F k → w0.heap.size ≤ k ∧ k ∉ X) (hn : NHas (Up F w w') w' p l') (hf : Fr F w w') : One w0 w' p l' X ∧ Kept X w w' :=
  ⟨⟨⟨_, hn, fun k hk => by
    rcases hk with hk | hk
    · exact hF k hk
    · exact ⟨by have := h.bel.size; omega, fun hx => by have := h.xs k hx; omega⟩⟩, fun x hx => Nat.lt_of_lt_of_le (h.xs x hx) hf.size, h.bel.trans (hf.below h.bel.size (fun k hk => (hF k hk).1))⟩,
   fun x hx => hf.block x (h.xs x hx) (fun k => (hF x k).2 hx)⟩
theorem one_send (h : One w0 w p l X) (s : Pk) (hs : s.OK) : Calls Tryd.prog 19 #[.pointer (some ⟨p, 0, none⟩), .agg #[.int .i64 s.kind, .int .i64 s.fr, .int .i64 s.to, .int .u32 (s.life : Int), .int .u32 (s.seq : Int), .int .u32 (s.asked : Int), .int .u32 (s.boot : Int), .int .i64 s.code, .int .i64 s.err, .int .u32 (s.file : Int), .int .u32 (s.epoch : Int), .int .u32 (s.off : Int), .int .u32 (s.len : Int), .int .u32 (s.size : Int), .int .u32 (s.mode : Int), .int .u32 (s.deny : Int), .int .u32 (s.handle : Int), .string s.path, .string s.other, .string s.data]] w fun e w' => ∃ c l', sendR l s = (c, l') ∧ e = .returned (.int .i64 c) ∧ One w0 w' p l' X ∧ Kept X w w' := by
  obtain ⟨F, h1, h2⟩ := h.has
  exact (send_has h1 s hs).mono fun e w' ⟨c, l2, he, hr, hn, hf⟩ => ⟨c, l2, he, hr, h.step h2 hn hf⟩
theorem one_take (h : One w0 w p l X) (i : Int) : Calls Tryd.prog 21 #[.pointer (some ⟨p, 0, none⟩), .int .i64 i] w fun e w' => ∃ s c l', takeR l i = (s, c, l') ∧ e = .returned (.tuple #[.agg #[.int .i64 s.kind, .int .i64 s.fr, .int .i64 s.to, .int .u32 (s.life : Int), .int .u32 (s.seq : Int), .int .u32 (s.asked : Int), .int .u32 (s.boot : Int), .int .i64 s.code, .int .i64 s.err, .int .u32 (s.file : Int), .int .u32 (s.epoch : Int), .int .u32 (s.off : Int), .int .u32 (s.len : Int), .int .u32 (s.size : Int), .int .u32 (s.mode : Int), .int .u32 (s.deny : Int), .int .u32 (s.handle : Int), .string s.path, .string s.other, .string s.data], .int .i64 c]) ∧ One w0 w' p l' X ∧ Kept X w w' := by
  obtain ⟨F, h1, h2⟩ := h.has
  exact (take_has h1 i).mono fun e w' ⟨s, c, l2, he, hr, hn, hf⟩ => ⟨s, c, l2, he, hr, h.step h2 hn hf⟩
theorem one_drop (h : One w0 w p l X) (i : Int) : Calls Tryd.prog 23 #[.pointer (some ⟨p, 0, none⟩), .int .i64 i] w fun e w' => ∃ c l', dropR l i = (c, l') ∧ e = .returned (.int .i64 c) ∧ One w0 w' p l' X ∧ Kept X w w' := by
  obtain ⟨F, h1, h2⟩ := h.has
  exact (drop_has h1 i).mono fun e w' ⟨c, l2, he, hr, hn, hf⟩ => ⟨c, l2, he, hr, h.step h2 hn hf⟩
theorem one_double (h : One w0 w p l X) (i : Int) : Calls Tryd.prog 24 #[.pointer (some ⟨p, 0, none⟩), .int .i64 i] w fun e w' => ∃ c l', doubleR l i = (c, l') ∧ e = .returned (.int .i64 c) ∧ One w0 w' p l' X ∧ Kept X w w' := by
  obtain ⟨F, h1, h2⟩ := h.has
  exact (double_has h1 i).mono fun e w' ⟨c, l2, he, hr, hn, hf⟩ => ⟨c, l2, he, hr, h.step h2 hn hf⟩
theorem one_move (h : One w0 w p l X) (i j : Int) : Calls Tryd.prog 26 #[.pointer (some ⟨p, 0, none⟩), .int .i64 i, .int .i64 j] w fun e w' => ∃ c l', moveR l i j = (c, l') ∧ e = .returned (.int .i64 c) ∧ One w0 w' p l' X ∧ Kept X w w' := by
  obtain ⟨F, h1, h2⟩ := h.has
  exact (move_has h1 i j).mono fun e w' ⟨c, l2, he, hr, hn, hf⟩ => ⟨c, l2, he, hr, h.step h2 hn hf⟩
theorem one_len (h : One w0 w p l X) : Calls Tryd.prog 28 #[.pointer (some ⟨p, 0, none⟩)] w fun e w' => e = .returned (.int .i64 l.length) ∧ w' = w := by obtain ⟨F, h, _⟩ := h.has; exact len_has h
theorem one_at (h : One w0 w p l X) (i : Int) : Calls Tryd.prog 29 #[.pointer (some ⟨p, 0, none⟩), .int .i64 i] w fun e w' => e = .returned (.string (atR l i)) ∧ w' = w := by obtain ⟨F, h, _⟩ := h.has; exact at_has h i
/-- A new net. -/
theorem one_new (w : World) : One w (w.alloc (.cells #[.slice none 0 0] 46)) w.heap.size [] [] := by
  have hb : Below w.heap.size w (w.alloc (.cells #[.slice none 0 0] 46)) := (Below.refl _ _).alloc (Nat.le_refl _) _
  refine ⟨⟨fun k => k = w.heap.size, ⟨⟨.slice none 0 0, ⟨alloc_at w _, part_of_own (World.ownsRow_nil ..), by simp [Value.ownBlock], by simp⟩, fun k hk => ?_⟩, fun k hk => ?_, fun s hs => by simp at hs⟩, fun k hk => ⟨by omega, by simp⟩⟩, fun x hx => by simp at hx, hb⟩
  · rcases hk with hk | hk
    · exact hk
    · simp [Value.ownBlock] at hk
  · have := lt_of (alloc_at w (.cells #[.slice none 0 0] 46)); omega
theorem one_new' {w0 w : World} (h : Below w0.heap.size w0 w) : One w0 (w.alloc (.cells #[.slice none 0 0] 46)) w.heap.size [] [] := by
  have h1 := one_new w
  obtain ⟨F, k1, k2⟩ := h1.has
  exact ⟨⟨F, k1, fun k hk => ⟨Nat.le_trans h.size (k2 k hk).1, by simp⟩⟩, h1.xs, h.trans (h1.bel.mono h.size)⟩
theorem alloc_size (w : World) (o : Obj) : (w.alloc o).heap.size = w.heap.size + 1 := Array.size_push _
theorem one_newX {w0 w : World} (h : Below w0.heap.size w0 w) {X : List Nat} (hX : ∀ x ∈ X, x < w.heap.size) : One w0 (w.alloc (.cells #[.slice none 0 0] 46)) w.heap.size [] X := by
  have h1 := one_new' h
  obtain ⟨F, k1, k2⟩ := h1.has
  obtain ⟨v, k3, k4⟩ := k1.at_
  have hb : Below w.heap.size w (w.alloc (.cells #[.slice none 0 0] 46)) := (Below.refl _ _).alloc (Nat.le_refl _) _
  refine ⟨⟨fun k => F k ∧ w.heap.size ≤ k, ⟨⟨.slice none 0 0, ⟨alloc_at w _, part_of_own (World.ownsRow_nil ..), by simp [Value.ownBlock], by simp⟩, fun k hk => ?_⟩, fun k hk => k1.lt k hk.1, fun s hs => by simp at hs⟩, fun k hk => ⟨(k2 k hk.1).1, fun hx => by have := hX k hx; omega⟩⟩, fun x hx => Nat.lt_of_lt_of_le (hX x hx) hb.size, h1.bel⟩
  rcases hk with hk | hk
  · exact ⟨hk ▸ k4 _ (.inl rfl), by omega⟩
  · simp [Value.ownBlock] at hk
def q0 : Pk := ⟨1, 17, 0, 0, 0, 0, 0, 18, 0, 0, 0, 0, 0, 0, 0, 0, 0, ⟨#[47, 97]⟩, ⟨#[]⟩, ⟨#[]⟩⟩
theorem q0_ok : q0.OK := ⟨by unfold I64 q0; simp, by unfold I64 q0; simp, by unfold I64 q0; simp, by unfold I64 q0; simp, by unfold I64 q0; simp, by decide, by decide, by decide, by decide, by decide, by decide, by decide, by decide, by decide, by decide, by decide, by decide, by decide, by decide, by decide⟩
theorem q0_right : right q0 = true := by decide
set_option maxHeartbeats 16000000 in
theorem nalive_calls (w : World) : Calls Tryd.prog 17 #[] w fun e w' => e = .returned (.bool true) ∧ Below w.heap.size w w' := by
  obtain ⟨w1, hr1, hp1, hb1⟩ := fresh_pk (w.alloc (.cells #[.slice none 0 0] 46)) q0
  have ho1 := (one_new w).add hb1 (Nat.le_refl _) (lt_of hp1)
  rw [alloc_size] at hr1 hp1 ho1
  have HST1 := Lib.hid hr1
  have HP1 := Lib.hid hp1
  have H1 := Lib.hid ho1
  clear hr1 hp1 hb1 ho1
  go_enter Tryd.func17, Tryd.ntmps17
  go_wp2_with (first | ((with_reducible refine gate_store (p := 2) rfl ?_); refine wpList_none rfl rfl (execOp_store rfl rfl rfl HST1.out) ?_) | ((with_reducible refine gate_dst (N := 14) rfl ?_); refine wpList_val rfl rfl (execOp_load rfl rfl HP1.out.load) ?_))
  refine (one_send H1.out q0 q0_ok).mono ?_
  rintro e w2 ⟨c, l2, he, rfl, ho2, hk2⟩
  obtain ⟨rfl, rfl⟩ : 0 = c ∧ [q0] = l2 := by simpa [sendR, q0_right] using he
  have H2 := Lib.hid ho2
  have HP2 := Lib.hid (hk2.pk (by simp) HP1.out)
  clear he ho2 hk2 H1 HP1
  go_wp2_with fail
  refine (one_double H2.out 0).mono ?_
  rintro e w3 ⟨c, l2, he, rfl, ho2, hk2⟩
  obtain ⟨rfl, rfl⟩ : 0 = c ∧ [q0, q0] = l2 := by simpa [doubleR] using he
  have H3 := Lib.hid ho2
  have HP3 := Lib.hid (hk2.pk (by simp) HP2.out)
  clear he ho2 hk2 H2 HP2
  go_wp2_with fail
  refine (one_drop H3.out 0).mono ?_
  rintro e w4 ⟨c, l2, he, rfl, ho2, hk2⟩
  obtain ⟨rfl, rfl⟩ : 0 = c ∧ [q0] = l2 := by simpa [dropR, takeR] using he
  have H4 := Lib.hid ho2
  have HP4 := Lib.hid (hk2.pk (by simp) HP3.out)
  clear he ho2 hk2 H3 HP3
  go_wp2_with fail
  refine (one_len H4.out).mono ?_
  rintro e w4' ⟨rfl, rfl⟩
  go_wp2_with fail
  refine (one_take H4.out 0).mono ?_
  rintro e w5 ⟨s, c, l2, he, rfl, ho2, hk2⟩
  obtain ⟨rfl, rfl, rfl⟩ : q0 = s ∧ 0 = c ∧ [] = l2 := by simpa [takeR] using he
  obtain ⟨w6, hr6, hp6, hb6⟩ := fresh_pk w5 q0
  have H6 := Lib.hid (ho2.below hb6)
  have HP6 := Lib.hid ((hk2.pk (by simp) HP4.out).below hb6)
  have HQ6 := Lib.hid hp6
  have HST6 := Lib.hid hr6
  clear he ho2 hk2 H4 HP4 hr6 hp6 hb6
  go_wp2_with (first | ((with_reducible refine gate_store (p := 7) rfl ?_); refine wpList_none rfl rfl (execOp_store rfl rfl rfl HST6.out) ?_) | ((with_reducible refine gate_dst (N := 42) rfl ?_); (refine gate_guard (by first | rfl | kernel_rfl) ?_; dsimp only); refine wpList_val rfl rfl (execOp_load rfl rfl HQ6.out.load) ?_) | ((with_reducible refine gate_dst (N := 43) rfl ?_); (refine gate_guard (by first | rfl | kernel_rfl) ?_; dsimp only); refine wpList_val rfl rfl (execOp_load rfl rfl HP6.out.load) ?_) | ((with_reducible refine gate_dst (N := 44) rfl ?_); (refine gate_guard (by first | rfl | kernel_rfl) ?_; dsimp only); refine wpList_val rfl rfl (execOp_eq (p := q0) (q := q0) rfl rfl rfl) ?_))
  refine (one_len H6.out).mono ?_
  rintro e w7 ⟨rfl, rfl⟩
  go_wp2
  go_ret
  exact ⟨rfl, H6.out.bel⟩
end Go.Proofs.YtiedmkgdhfkcoaaDoor.Net
namespace Go.Proofs.YtiedmkgdhfkcoaaDoor.Net
open Go.RowKit Go.Sees Go.Own Go.Blk Go.OpsL Go.XdrL Go.PktL Go.Proofs.YtiedmkgdhfkcoaaDoor.Pkt Go.Proofs.YtiedmkgdhfkcoaaDoorW.PrintLast Go.Proofs.YtiedmkgdhfkcoaaDoorW.PrintWords
set_option linter.unusedVariables false
set_option linter.unusedSimpArgs false
set_option maxRecDepth 100000
def longP (s : Pk) : Bool := decide (1000 < s.path.size ∨ 1000 < s.other.size ∨ 1000 < s.data.size)
set_option maxHeartbeats 8000000 in
theorem long_calls (s : Pk) (h : s.OK) (w : World) : Calls Tryd.prog 18 #[.agg #[.int .i64 s.kind, .int .i64 s.fr, .int .i64 s.to, .int .u32 (s.life : Int), .int .u32 (s.seq : Int), .int .u32 (s.asked : Int), .int .u32 (s.boot : Int), .int .i64 s.code, .int .i64 s.err, .int .u32 (s.file : Int), .int .u32 (s.epoch : Int), .int .u32 (s.off : Int), .int .u32 (s.len : Int), .int .u32 (s.size : Int), .int .u32 (s.mode : Int), .int .u32 (s.deny : Int), .int .u32 (s.handle : Int), .string s.path, .string s.other, .string s.data]] w fun e w' => e = .returned (.bool (longP s)) ∧ Below w.heap.size w w' := by
  have HB : Hid (Below w.heap.size w (w.alloc (.cells #[.int .i64 s.kind, .int .i64 s.fr, .int .i64 s.to, .int .u32 (s.life : Int), .int .u32 (s.seq : Int), .int .u32 (s.asked : Int), .int .u32 (s.boot : Int), .int .i64 s.code, .int .i64 s.err, .int .u32 (s.file : Int), .int .u32 (s.epoch : Int), .int .u32 (s.off : Int), .int .u32 (s.len : Int), .int .u32 (s.size : Int), .int .u32 (s.mode : Int), .int .u32 (s.deny : Int), .int .u32 (s.handle : Int), .string s.path, .string s.other, .string s.data] 27))) := (Below.refl _ _).alloc (Nat.le_refl _) _
  obtain ⟨_, _, _, _, _, _, _, _, _, _, _, _, _, _, _, _, _, x17, x18, x19⟩ := (PAt.alloc w s).cells
  have hs1 := h.path
  have hs2 := h.other
  have hs3 := h.data
  have HL : Hid (longP s = decide (1000 < s.path.size ∨ 1000 < s.other.size ∨ 1000 < s.data.size)) := Lib.hid rfl
  clear h
  go_enter Tryd.func18, Tryd.ntmps18
  go_wp2
  all_goals
    go_ret
    refine ⟨ret_bool ?_, HB.out⟩
    rw [HL.out, Bool.eq_iff_iff]
    simp only [Bool.or_eq_true, decide_eq_true_iff, Bool.false_eq_true, iff_true, true_iff, false_iff, iff_false] at *
    omega
/-- A packet with another number. -/
def sq (s : Pk) (q : Nat) : Pk := { s with seq := q }
theorem sq_self (s : Pk) : sq s s.seq = s := by cases s; rfl
theorem sq_right (s : Pk) (q : Nat) : right (sq s q) = right s := rfl
theorem sq_ok {s : Pk} (h : s.OK) {q : Nat} (hq : q < 4294967296) : (sq s q).OK := ⟨h.kind, h.fr, h.to, h.code, h.err, h.life, hq, h.asked, h.boot, h.file, h.epoch, h.off, h.len, h.size, h.mode, h.deny, h.handle, h.path, h.other, h.data⟩
theorem pat_seq {w : World} {g : Nat} {s : Pk} {q : Nat} (h : PAt w g (sq s q)) (k : Nat) : PAt (w.setCell ⟨g, 4, none⟩ (.int .u32 (k : Int))) g (sq s k) := by
  exact (set_at h 4 (.int .u32 (k : Int))).trans rfl
end Go.Proofs.YtiedmkgdhfkcoaaDoor.Net
