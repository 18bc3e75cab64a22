/- Layer xdr: the walk of XdrOne: what was read to its end, written anew, is the same bytes. -/
import Derived.Test.YtjmdjikjelhbmaaDoorXdrAsk
import Derived.Test.YtjmdjikjelhbmaaDoorXdrWrite
namespace Go.Proofs.YtjmdjikjelhbmaaDoor.Xdr
open Go.RowKit Go.Own Go.XdrL Go.Blk Go.OpsL Go.Sees Go.Proofs.YtjmdjikjelhbmaaDoorW.PrintLast Go.Proofs.YtjmdjikjelhbmaaDoorW.PrintWords
set_option linter.unusedVariables false
set_option linter.unusedSimpArgs false
variable {W w w' : World} {B p q G : Nat} {r r' : Rd} {b b' : ByteArray} {F : Nat → Prop}
/-- A writer that is new, beside a reader. -/
theorem PB.of_rb (hB : B ≤ W.heap.size) (h : RB B q W w r) : PB B w.heap.size q W (w.alloc (.cells #[.slice none 0 0] 26)) ByteArray.empty r := by
  have hal := (Below.refl w.heap.size w).alloc (Nat.le_refl _) (.cells #[.slice none 0 0] 26)
  have := lt_of h.1.1
  exact ⟨_, new_writer w, fun k hk => by subst hk; exact below_le h.2.2 hB, by omega, h.1.below hal, h.2.1, h.2.2.trans (hal.mono (below_le h.2.2 hB))⟩
/-- What the law keeps: what was read, and what is left. -/
def One (a0 b : ByteArray) (r : Rd) : Prop := a0 = b ++ r.s ∧ r.e = 0 ∧ b.size % 4 = 0
theorem One.size {a0 : ByteArray} (h : One a0 b r) : b.size ≤ a0.size := by
  have := congrArg ByteArray.size h.1
  rw [ByteArray.size_append] at this
  omega
theorem One.next {a0 : ByteArray} (h : One a0 b r) {x : Itm} (hx : x.b.size % 4 = 0) {r' : Rd} (h1 : r.s = x.b ++ r'.s) (h2 : r'.e = 0) : One a0 (b ++ x.b) r' :=
  ⟨by rw [h.1, h1, ByteArray.append_assoc], h2, by have := h.2.2; rw [ByteArray.size_append]; omega⟩
/-- A writer, a reader, and an item's block. -/
def OB (B p q G : Nat) (F : Nat → Prop) (W w : World) (b : ByteArray) (r : Rd) : Prop := Wr F w p b ∧ (∀ k, F k → B ≤ k) ∧ ¬ F q ∧ ¬ F G ∧ q ≠ G ∧ RAt w q r ∧ B ≤ q ∧ B ≤ G ∧ Below B W w
theorem OB.left (hB : B ≤ W.heap.size) (h : OB B p q G F W w b r) (k : Left q r' w w') : OB B p q G F W w' b r' := by
  obtain ⟨h1, h2, h3, h4, h5, h6, h7, h8, h9⟩ := h
  exact ⟨h1.keep k.2 (fun i hi e => h3 (by have e : i = q := e; exact e ▸ hi)), h2, h3, h4, h5, k.1, h7, h8, below_fr (F := (· = q)) h9 (fun i hi => by have e : i = q := hi; rw [e]; exact h7) k.2 (below_le h9 hB)⟩
theorem OB.keepG (h : OB B p q G F W w b r) {o : Obj} (k : Left q r' w w') (hG : w.heap[G]? = some o) : w'.heap[G]? = some o := k.2.at hG (fun e => h.2.2.2.2.1 (by have e : G = q := e; exact e.symm))
theorem OB.set (hB : B ≤ W.heap.size) (h : OB B p q G F W w b r) (j : Nat) (v : Value) : OB B p q G F W (w.setCell ⟨G, j, none⟩ v) b r := by
  obtain ⟨h1, h2, h3, h4, h5, h6, h7, h8, h9⟩ := h
  have k := Fr.setCell (F := (· = G)) w (p := ⟨G, j, none⟩) rfl v
  exact ⟨h1.keep k (fun i hi e => h4 (by have e : i = G := e; exact e ▸ hi)), h2, h3, h4, h5, h6.keep k (fun e => h5 e), h7, h8, below_fr (F := (· = G)) h9 (fun i hi => by have e : i = G := hi; rw [e]; exact h8) k (below_le h9 hB)⟩
theorem OB.new (hB : B ≤ W.heap.size) (h : PB B p q W w b r) (cs : Array Value) (t : TypeId) : ∃ F, OB B p q w.heap.size F W (w.alloc (.cells cs t)) b r := by
  obtain ⟨F, h1, h2, h3, h4, h5, h6⟩ := h
  have hal := (Below.refl w.heap.size w).alloc (Nat.le_refl _) (.cells cs t)
  exact ⟨F, h1.below hal, h2, h3, fun e => Nat.lt_irrefl _ (h1.lt _ e), by have := lt_of h4.1; omega, h4.below hal, h5, below_le h6 hB, h6.trans (hal.mono (below_le h6 hB))⟩
theorem OB.write (hB : B ≤ W.heap.size) (h : OB B p q G F W w b r) (y : SItem) (h1 : y.x.n < 18446744073709551616) (h2 : y.x.l.length = y.len) (h3 : U32s w y.A y.x.l) (h4 : ∀ z ∈ y.x.l, z < 4294967296) (h5 : 0 < y.len → ∀ a, y.A = some a → ¬ F a.block) (h6 : Small y) (hb : b.size ≤ 900000000) (hb4 : b.size % 4 = 0) :
    Calls Tryd.prog 16 #[.pointer (some ⟨p, 0, none⟩), .agg #[.int .i64 y.x.k, .int .u64 (y.x.n : Int), .string y.x.s, .slice y.A y.len y.cap]] w fun e w' => e = .returned (.tuple #[]) ∧ PB B p q W w' (b ++ y.x.b) r := by
  obtain ⟨g1, g2, g3, g4, g5, g6, g7, g8, g9⟩ := h
  exact (write_fr g1 y h1 h2 h3 h4 h5 h6 hb hb4).mono fun _ _ ⟨he, a, c⟩ => ⟨he, PB.put hB g2 g3 g6 g7 g9 a c⟩
theorem u32s_nil (w : World) (A : Option Addr) : U32s w A [] := fun i hi => by simp at hi
set_option maxRecDepth 100000 in
set_option maxHeartbeats 32000000 in
theorem xdrOne_walk (a0 : ByteArray) (a1 : Option Addr) (len1 cap1 : Nat) (w : World) (w0 : a0.size ≤ 140737488351232) (w1 : Sees Tryd.prog w 140737488351232 5 41 [.slice a1 len1 cap1]) :
    Calls Tryd.prog 6 #[.string a0, .slice a1 len1 cap1] w fun e w' => e = .returned (.bool true) ∧ Below w.heap.size w w' := by
  obtain ⟨l, hl, hm, hA⟩ := sees_asks (k := 2) w1
  clear w1
  have HLE := Lib.hid (Nat.le_refl w.heap.size)
  have HA := Lib.hid hA
  have HL := Lib.hid hl
  clear hA hl
  unfold maxLen at hm
  by_cases hs1 : 2000 < a0.size
  ·
    go_enter Tryd.func6, Tryd.ntmps6
    go_wp2_with fail
    refine (alive_calls w).mono ?_
    rintro e w1 ⟨rfl, hb⟩
    have H0 := Lib.hid hb
    clear hb
    go_wp2_with fail
    refine (alive_calls _).mono ?_
    rintro e w2 ⟨rfl, hb⟩
    have H2 := Lib.hid (H0.out.trans (hb.mono H0.out.size))
    clear hb
    go_wp2
    go_ret
    exact ⟨rfl, H2.out⟩
  by_cases hs2 : 60 < len1
  ·
    go_enter Tryd.func6, Tryd.ntmps6
    go_wp2_with fail
    refine (alive_calls w).mono ?_
    rintro e w1 ⟨rfl, hb⟩
    have H0 := Lib.hid hb
    clear hb
    go_wp2_with fail
    refine (alive_calls _).mono ?_
    rintro e w2 ⟨rfl, hb⟩
    have H2 := Lib.hid (H0.out.trans (hb.mono H0.out.size))
    clear hb
    go_wp2
    go_ret
    exact ⟨rfl, H2.out⟩
  go_enter Tryd.func6, Tryd.ntmps6
  go_wp2_with fail
  refine (alive_calls w).mono ?_
  rintro e w1 ⟨rfl, hb⟩
  have H0 := Lib.hid hb
  clear hb
  go_wp2_with fail
  refine (RB.new HLE.out H0.out a0 (by omega)).mono ?_
  rintro e w2 ⟨rfl, h2⟩
  have H3 := Lib.hid (PB.of_rb HLE.out h2)
  clear h2 H0
  go_wp2
  generalize w2.alloc (.cells #[.slice none 0 0] 26) = w3 at H3 ⊢
  generalize w1.heap.size = q at H3 ⊢
  generalize w2.heap.size = p at H3 ⊢
  go_loopw [7] (fun s7 wr => ∃ (k : Nat) (b : ByteArray) (R : Rd), k ≤ len1 ∧ s7 = .int .i64 k ∧ Hid (PB w.heap.size p q w wr b R) ∧ Hid (One a0 b R)) (fun s7 _ => len1 - (intOf s7).toNat)
  case atStart => exact ⟨0, _, _, Nat.zero_le _, by simp, H3, Lib.hid ⟨by simp, rfl, rfl⟩⟩
  case round =>
    clear H3
    obtain ⟨k, b, R, hk, rfl, H4, HO⟩ := hrel
    by_cases hlt : k < len1
    · have hkl : k < l.length := by have := HL.out; omega
      obtain ⟨y, hy⟩ : ∃ y, l[k] = y := ⟨_, rfl⟩
      obtain ⟨blk, off, rfl, hb, hc⟩ := ask_of HA.out k hkl hy
      have HC := Lib.hid hc
      have HBK := Lib.hid hb
      clear hy hc
      have hcb := (HC.out.below HBK.out H4.out.out)
      have hal := (Below.refl wr.heap.size wr).alloc (Nat.le_refl _) (.cells #[.int .i64 y.k, .int .u64 0, .string ⟨#[]⟩, .slice none 0 0] 39)
      obtain ⟨F, hob⟩ := OB.new HLE.out H4.out #[.int .i64 y.k, .int .u64 0, .string ⟨#[]⟩, .slice none 0 0] 39
      have HC2 := (HC.out.below HBK.out hob.2.2.2.2.2.2.2.2)
      obtain ⟨c0, c1⟩ := hcb
      obtain ⟨d0, d1⟩ := HC2
      have hi6 := alloc_at wr (.cells #[.int .i64 y.k, .int .u64 0, .string ⟨#[]⟩, .slice none 0 0] 39)
      obtain ⟨G, hG⟩ : ∃ G, wr.heap.size = G := ⟨_, rfl⟩
      rw [hG] at hob hi6
      have H6 := Lib.hid hob
      have HI6 := Lib.hid hi6
      clear hal hob hi6 H4
      have HR0 := Lib.hid HO.out.2.1
      have HBS : Hid (b.size ≤ 900000000 ∧ b.size % 4 = 0) := Lib.hid ⟨by have := HO.out.size; omega, HO.out.2.2⟩
      by_cases k0 : y.k.tmod 5 = 0
      · have hkk := k0
        go_wp2_with fail
        refine (number_reads H6.out.2.2.2.2.2.1).mono ?_
        rintro e w5 ⟨rfl, h5⟩
        have HI5 := Lib.hid (H6.out.keepG h5 HI6.out)
        have H5 := Lib.hid (H6.out.left HLE.out h5)
        clear h5 H6 HI6 c0 c1 d0 d1
        have H7 := Lib.hid (H5.out.set HLE.out 1 (.int .u64 (R.number.1 : Int)))
        have HI7 : Hid ((w5.setCell ⟨G, 1, none⟩ (.int .u64 (R.number.1 : Int))).heap[G]? = some (.cells #[.int .i64 y.k, .int .u64 (R.number.1 : Int), .string ⟨#[]⟩, .slice none 0 0] 39 (0, 0))) := Lib.hid (by simpa using set_at HI5.out 1 (.int .u64 (R.number.1 : Int)))
        obtain ⟨y0, y1, y2, y3, y4, y5, y6, y7⟩ := blk4 HI5.out
        have hnl := number_lt R
        go_wp2_with fail
        refine (err_calls H7.out.2.2.2.2.2.1).mono ?_
        rintro e w8 ⟨rfl, rfl⟩
        by_cases hre : ((R.number.2).e : Nat) = 0
        · have hz : ((((R.number.2).e : Nat) : Int) != 0) = false := by rw [hre]; rfl
          obtain ⟨x0, x1, x2, x3⟩ := icells_blk (y := (⟨⟨y.k, R.number.1, ⟨#[]⟩, []⟩, none, 0, 0⟩ : SItem)) HI7.out
          have HRE := Lib.hid hre
          clear hre
          go_wp2_with fail
          refine (H7.out.write HLE.out (⟨⟨y.k, R.number.1, ⟨#[]⟩, []⟩, none, 0, 0⟩ : SItem) (by show R.number.1 < _; omega) rfl (u32s_nil _ _) (by simp) (by intro h; exact absurd h (Nat.lt_irrefl 0)) ⟨by show 0 ≤ _; omega, by show 0 ≤ _; omega⟩ HBS.out.1 HBS.out.2).mono ?_
          rintro e w9 ⟨rfl, h9⟩
          have H9 := Lib.hid h9
          clear h9 x0 x1 x2 x3 hz
          go_wp2
          go_roundw
          case rel => exact ⟨k + 1, _, _, by omega, by go_num, H9, Lib.hid (HO.out.next (x := (⟨⟨y.k, R.number.1, ⟨#[]⟩, []⟩, none, 0, 0⟩ : SItem).x) (by rw [show ((⟨⟨y.k, R.number.1, ⟨#[]⟩, []⟩, none, 0, 0⟩ : SItem).x).b = num4 (R.number.1 % 4294967296) by simp [Itm.b, hkk], num4_size]) (by rw [show ((⟨⟨y.k, R.number.1, ⟨#[]⟩, []⟩, none, 0, 0⟩ : SItem).x).b = num4 (R.number.1 % 4294967296) by simp [Itm.b, hkk], Nat.mod_eq_of_lt hnl]; exact number_back R HR0.out HRE.out) HRE.out)⟩
          case measure => simp [intOf]; omega
        · have hz : ((((R.number.2).e : Nat) : Int) != 0) = true := by rw [bne_iff_ne]; omega
          go_wp2_with fail
          refine (alive_calls _).mono ?_
          rintro e w9 ⟨rfl, hb⟩
          have H9 := Lib.hid (H7.out.2.2.2.2.2.2.2.2.trans (hb.mono (below_le H7.out.2.2.2.2.2.2.2.2 HLE.out)))
          clear hb
          go_wp2
          go_ret
          exact ⟨rfl, H9.out⟩
      by_cases k1 : y.k.tmod 5 = 1
      · have hkk := k1
        clear k0
        go_wp2_with fail
        refine (long_reads H6.out.2.2.2.2.2.1).mono ?_
        rintro e w5 ⟨rfl, h5⟩
        have HI5 := Lib.hid (H6.out.keepG h5 HI6.out)
        have H5 := Lib.hid (H6.out.left HLE.out h5)
        clear h5 H6 HI6 c0 c1 d0 d1
        have H7 := Lib.hid (H5.out.set HLE.out 1 (.int .u64 (R.long.1 : Int)))
        have HI7 : Hid ((w5.setCell ⟨G, 1, none⟩ (.int .u64 (R.long.1 : Int))).heap[G]? = some (.cells #[.int .i64 y.k, .int .u64 (R.long.1 : Int), .string ⟨#[]⟩, .slice none 0 0] 39 (0, 0))) := Lib.hid (by simpa using set_at HI5.out 1 (.int .u64 (R.long.1 : Int)))
        obtain ⟨y0, y1, y2, y3, y4, y5, y6, y7⟩ := blk4 HI5.out
        have HNL := Lib.hid (long_lt R)
        go_wp2_with fail
        refine (err_calls H7.out.2.2.2.2.2.1).mono ?_
        rintro e w8 ⟨rfl, rfl⟩
        by_cases hre : ((R.long.2).e : Nat) = 0
        · have hz : ((((R.long.2).e : Nat) : Int) != 0) = false := by rw [hre]; rfl
          obtain ⟨x0, x1, x2, x3⟩ := icells_blk (y := (⟨⟨y.k, R.long.1, ⟨#[]⟩, []⟩, none, 0, 0⟩ : SItem)) HI7.out
          have HRE := Lib.hid hre
          clear hre
          go_wp2_with fail
          refine (H7.out.write HLE.out (⟨⟨y.k, R.long.1, ⟨#[]⟩, []⟩, none, 0, 0⟩ : SItem) HNL.out rfl (u32s_nil _ _) (by simp) (by intro h; exact absurd h (Nat.lt_irrefl 0)) ⟨by show 0 ≤ _; omega, by show 0 ≤ _; omega⟩ HBS.out.1 HBS.out.2).mono ?_
          rintro e w9 ⟨rfl, h9⟩
          have H9 := Lib.hid h9
          clear h9 x0 x1 x2 x3 hz
          go_wp2
          go_roundw
          case rel => exact ⟨k + 1, _, _, by omega, by go_num, H9, Lib.hid (HO.out.next (x := (⟨⟨y.k, R.long.1, ⟨#[]⟩, []⟩, none, 0, 0⟩ : SItem).x) (by rw [show ((⟨⟨y.k, R.long.1, ⟨#[]⟩, []⟩, none, 0, 0⟩ : SItem).x).b = long8 R.long.1 by simp [Itm.b, hkk]]; rw [long8_size]) (by rw [show ((⟨⟨y.k, R.long.1, ⟨#[]⟩, []⟩, none, 0, 0⟩ : SItem).x).b = long8 R.long.1 by simp [Itm.b, hkk]]; exact long_back R HR0.out HRE.out) HRE.out)⟩
          case measure => simp [intOf]; omega
        · have hz : ((((R.long.2).e : Nat) : Int) != 0) = true := by rw [bne_iff_ne]; omega
          go_wp2_with fail
          refine (alive_calls _).mono ?_
          rintro e w9 ⟨rfl, hb⟩
          have H9 := Lib.hid (H7.out.2.2.2.2.2.2.2.2.trans (hb.mono (below_le H7.out.2.2.2.2.2.2.2.2 HLE.out)))
          clear hb
          go_wp2
          go_ret
          exact ⟨rfl, H9.out⟩
      by_cases k2 : y.k.tmod 5 = 2
      · have hkk := k2
        clear k0 k1
        go_wp2_with fail
        refine (flag_reads H6.out.2.2.2.2.2.1).mono ?_
        rintro e w5 ⟨rfl, h5⟩
        have HI5 := Lib.hid (H6.out.keepG h5 HI6.out)
        have H5 := Lib.hid (H6.out.left HLE.out h5)
        clear h5 H6 HI6 c0 c1 d0 d1
        cases hfl : R.flag.1
        · have HFL := Lib.hid hfl
          clear hfl
          have H7 := H5
          have HI7 := HI5
          go_wp2_with fail
          refine (err_calls H7.out.2.2.2.2.2.1).mono ?_
          rintro e w8 ⟨rfl, rfl⟩
          by_cases hre : ((R.flag.2).e : Nat) = 0
          · have hz : ((((R.flag.2).e : Nat) : Int) != 0) = false := by rw [hre]; rfl
            obtain ⟨x0, x1, x2, x3⟩ := icells_blk (y := (⟨⟨y.k, 0, ⟨#[]⟩, []⟩, none, 0, 0⟩ : SItem)) HI7.out
            have HRE := Lib.hid hre
            clear hre
            go_wp2_with fail
            refine (H7.out.write HLE.out (⟨⟨y.k, 0, ⟨#[]⟩, []⟩, none, 0, 0⟩ : SItem) (by show (0 : Nat) < 18446744073709551616; decide) rfl (u32s_nil _ _) (by simp) (by intro h; exact absurd h (Nat.lt_irrefl 0)) ⟨by show 0 ≤ _; omega, by show 0 ≤ _; omega⟩ HBS.out.1 HBS.out.2).mono ?_
            rintro e w9 ⟨rfl, h9⟩
            have H9 := Lib.hid h9
            clear h9 x0 x1 x2 x3 hz
            go_wp2
            go_roundw
            case rel => exact ⟨k + 1, _, _, by omega, by go_num, H9, Lib.hid (HO.out.next (x := (⟨⟨y.k, 0, ⟨#[]⟩, []⟩, none, 0, 0⟩ : SItem).x) (by rw [show ((⟨⟨y.k, 0, ⟨#[]⟩, []⟩, none, 0, 0⟩ : SItem).x).b = flag4 false by simp [Itm.b, hkk]]; rfl) (by rw [show ((⟨⟨y.k, 0, ⟨#[]⟩, []⟩, none, 0, 0⟩ : SItem).x).b = flag4 R.flag.1 by rw [HFL.out]; simp [Itm.b, hkk]]; exact flag_back R HR0.out HRE.out) HRE.out)⟩
            case measure => simp [intOf]; omega
          · have hz : ((((R.flag.2).e : Nat) : Int) != 0) = true := by rw [bne_iff_ne]; omega
            go_wp2_with fail
            refine (alive_calls _).mono ?_
            rintro e w9 ⟨rfl, hb⟩
            have H9 := Lib.hid (H7.out.2.2.2.2.2.2.2.2.trans (hb.mono (below_le H7.out.2.2.2.2.2.2.2.2 HLE.out)))
            clear hb
            go_wp2
            go_ret
            exact ⟨rfl, H9.out⟩
        · have HFL := Lib.hid hfl
          clear hfl
          have H7 := Lib.hid (H5.out.set HLE.out 1 (.int .u64 1))
          have HI7 : Hid ((w5.setCell ⟨G, 1, none⟩ (.int .u64 1)).heap[G]? = some (.cells #[.int .i64 y.k, .int .u64 1, .string ⟨#[]⟩, .slice none 0 0] 39 (0, 0))) := Lib.hid (by simpa using set_at HI5.out 1 (.int .u64 1))
          obtain ⟨y0, y1, y2, y3, y4, y5, y6, y7⟩ := blk4 HI5.out
          go_wp2_with fail
          refine (err_calls H7.out.2.2.2.2.2.1).mono ?_
          rintro e w8 ⟨rfl, rfl⟩
          by_cases hre : ((R.flag.2).e : Nat) = 0
          · have hz : ((((R.flag.2).e : Nat) : Int) != 0) = false := by rw [hre]; rfl
            obtain ⟨x0, x1, x2, x3⟩ := icells_blk (y := (⟨⟨y.k, 1, ⟨#[]⟩, []⟩, none, 0, 0⟩ : SItem)) HI7.out
            have HRE := Lib.hid hre
            clear hre
            go_wp2_with fail
            refine (H7.out.write HLE.out (⟨⟨y.k, 1, ⟨#[]⟩, []⟩, none, 0, 0⟩ : SItem) (by show (1 : Nat) < 18446744073709551616; decide) rfl (u32s_nil _ _) (by simp) (by intro h; exact absurd h (Nat.lt_irrefl 0)) ⟨by show 0 ≤ _; omega, by show 0 ≤ _; omega⟩ HBS.out.1 HBS.out.2).mono ?_
            rintro e w9 ⟨rfl, h9⟩
            have H9 := Lib.hid h9
            clear h9 x0 x1 x2 x3 hz
            go_wp2
            go_roundw
            case rel => exact ⟨k + 1, _, _, by omega, by go_num, H9, Lib.hid (HO.out.next (x := (⟨⟨y.k, 1, ⟨#[]⟩, []⟩, none, 0, 0⟩ : SItem).x) (by rw [show ((⟨⟨y.k, 1, ⟨#[]⟩, []⟩, none, 0, 0⟩ : SItem).x).b = flag4 true by simp [Itm.b, hkk]]; rfl) (by rw [show ((⟨⟨y.k, 1, ⟨#[]⟩, []⟩, none, 0, 0⟩ : SItem).x).b = flag4 R.flag.1 by rw [HFL.out]; simp [Itm.b, hkk]]; exact flag_back R HR0.out HRE.out) HRE.out)⟩
            case measure => simp [intOf]; omega
          · have hz : ((((R.flag.2).e : Nat) : Int) != 0) = true := by rw [bne_iff_ne]; omega
            go_wp2_with fail
            refine (alive_calls _).mono ?_
            rintro e w9 ⟨rfl, hb⟩
            have H9 := Lib.hid (H7.out.2.2.2.2.2.2.2.2.trans (hb.mono (below_le H7.out.2.2.2.2.2.2.2.2 HLE.out)))
            clear hb
            go_wp2
            go_ret
            exact ⟨rfl, H9.out⟩
      by_cases k3 : y.k.tmod 5 = 3
      · have hkk := k3
        clear k0 k1 k2
        go_wp2_with fail
        refine (text_reads H6.out.2.2.2.2.2.1 2000).mono ?_
        rintro e w5 ⟨rfl, h5⟩
        have HI5 := Lib.hid (H6.out.keepG h5 HI6.out)
        have H5 := Lib.hid (H6.out.left HLE.out h5)
        clear h5 H6 HI6 c0 c1 d0 d1
        have H7 := Lib.hid (H5.out.set HLE.out 2 (.string (R.text 2000).1))
        have HI7 : Hid ((w5.setCell ⟨G, 2, none⟩ (.string (R.text 2000).1)).heap[G]? = some (.cells #[.int .i64 y.k, .int .u64 0, .string (R.text 2000).1, .slice none 0 0] 39 (0, 0))) := Lib.hid (by simpa using set_at HI5.out 2 (.string (R.text 2000).1))
        obtain ⟨y0, y1, y2, y3, y4, y5, y6, y7⟩ := blk4 HI5.out
        have HTL : Hid ((R.text 2000).1.size ≤ 2000) := Lib.hid (by rcases text_len R 2000 with h | h <;> omega)
        go_wp2_with fail
        refine (err_calls H7.out.2.2.2.2.2.1).mono ?_
        rintro e w8 ⟨rfl, rfl⟩
        by_cases hre : (((R.text 2000).2).e : Nat) = 0
        · have hz : (((((R.text 2000).2).e : Nat) : Int) != 0) = false := by rw [hre]; rfl
          obtain ⟨x0, x1, x2, x3⟩ := icells_blk (y := (⟨⟨y.k, 0, (R.text 2000).1, []⟩, none, 0, 0⟩ : SItem)) HI7.out
          have HRE := Lib.hid hre
          clear hre
          go_wp2_with fail
          refine (H7.out.write HLE.out (⟨⟨y.k, 0, (R.text 2000).1, []⟩, none, 0, 0⟩ : SItem) (by show (0 : Nat) < 18446744073709551616; decide) rfl (u32s_nil _ _) (by simp) (by intro h; exact absurd h (Nat.lt_irrefl 0)) ⟨HTL.out, by show 0 ≤ _; omega⟩ HBS.out.1 HBS.out.2).mono ?_
          rintro e w9 ⟨rfl, h9⟩
          have H9 := Lib.hid h9
          clear h9 x0 x1 x2 x3 hz
          go_wp2
          go_roundw
          case rel => exact ⟨k + 1, _, _, by omega, by go_num, H9, Lib.hid (HO.out.next (x := (⟨⟨y.k, 0, (R.text 2000).1, []⟩, none, 0, 0⟩ : SItem).x) (by rw [show ((⟨⟨y.k, 0, (R.text 2000).1, []⟩, none, 0, 0⟩ : SItem).x).b = text4 (R.text 2000).1 by simp [Itm.b, hkk]]; rw [text4_size]; unfold padOf; omega) (by rw [show ((⟨⟨y.k, 0, (R.text 2000).1, []⟩, none, 0, 0⟩ : SItem).x).b = text4 (R.text 2000).1 by simp [Itm.b, hkk]]; exact text_back R 2000 HR0.out HRE.out) HRE.out)⟩
          case measure => simp [intOf]; omega
        · have hz : (((((R.text 2000).2).e : Nat) : Int) != 0) = true := by rw [bne_iff_ne]; omega
          go_wp2_with fail
          refine (alive_calls _).mono ?_
          rintro e w9 ⟨rfl, hb⟩
          have H9 := Lib.hid (H7.out.2.2.2.2.2.2.2.2.trans (hb.mono (below_le H7.out.2.2.2.2.2.2.2.2 HLE.out)))
          clear hb
          go_wp2
          go_ret
          exact ⟨rfl, H9.out⟩
      by_cases k4 : y.k.tmod 5 = 4
      · have hkk := k4
        clear k0 k1 k2 k3
        go_wp2_with fail
        refine (list_reads H6.out.2.2.2.2.2.1 500).mono ?_
        rintro e w5 ⟨⟨v5, rfl, ho5⟩, h5⟩
        obtain ⟨A5, cp5, rfl, _, _⟩ := row_form ho5
        have HI5 := Lib.hid (H6.out.keepG h5 HI6.out)
        have H5 := Lib.hid (H6.out.left HLE.out h5)
        have hAG : ∀ a, A5 = some a → G + 1 ≤ a.block := fun a ha => by have := (ho5.lt a.block (by rw [ha]; rfl)).1; have e9 : (wr.alloc (.cells #[.int .i64 y.k, .int .u64 0, .string ⟨#[]⟩, .slice none 0 0] 39)).heap.size = wr.heap.size + 1 := (by simp); omega
        have HU5 := Lib.hid (ArrAt.keep (u32s_of_row ho5) (Fr.setCell (F := (· = G)) w5 (p := ⟨G, 3, none⟩) rfl (.slice A5 (R.list 500).1.length cp5)) (fun a ha he => by have := hAG a ha; have e8 : a.block = G := he; omega))
        have HAF : Hid (∀ a, A5 = some a → ¬ F a.block) := Lib.hid (fun a ha hF => by have := hAG a ha; have := H6.out.1.lt _ hF; have e9 : (wr.alloc (.cells #[.int .i64 y.k, .int .u64 0, .string ⟨#[]⟩, .slice none 0 0] 39)).heap.size = wr.heap.size + 1 := (by simp); omega)
        clear ho5 hAG
        clear h5 H6 HI6 c0 c1 d0 d1
        have H7 := Lib.hid (H5.out.set HLE.out 3 (.slice A5 (R.list 500).1.length cp5))
        have HI7 : Hid ((w5.setCell ⟨G, 3, none⟩ (.slice A5 (R.list 500).1.length cp5)).heap[G]? = some (.cells #[.int .i64 y.k, .int .u64 0, .string ⟨#[]⟩, .slice A5 (R.list 500).1.length cp5] 39 (0, 0))) := Lib.hid (by simpa using set_at HI5.out 3 (.slice A5 (R.list 500).1.length cp5))
        obtain ⟨y0, y1, y2, y3, y4, y5, y6, y7⟩ := blk4 HI5.out
        have HTL : Hid ((R.list 500).1.length ≤ 500) := Lib.hid (by rcases list_len R 500 with h | h <;> omega)
        go_wp2_with fail
        refine (err_calls H7.out.2.2.2.2.2.1).mono ?_
        rintro e w8 ⟨rfl, rfl⟩
        by_cases hre : (((R.list 500).2).e : Nat) = 0
        · have hz : (((((R.list 500).2).e : Nat) : Int) != 0) = false := by rw [hre]; rfl
          obtain ⟨x0, x1, x2, x3⟩ := icells_blk (y := (⟨⟨y.k, 0, ⟨#[]⟩, (R.list 500).1⟩, A5, (R.list 500).1.length, cp5⟩ : SItem)) HI7.out
          have HRE := Lib.hid hre
          clear hre
          go_wp2_with fail
          refine (H7.out.write HLE.out (⟨⟨y.k, 0, ⟨#[]⟩, (R.list 500).1⟩, A5, (R.list 500).1.length, cp5⟩ : SItem) (by show (0 : Nat) < 18446744073709551616; decide) rfl HU5.out (list_lt R 500) (fun _ => HAF.out) ⟨by show 0 ≤ _; omega, HTL.out⟩ HBS.out.1 HBS.out.2).mono ?_
          rintro e w9 ⟨rfl, h9⟩
          have H9 := Lib.hid h9
          clear h9 x0 x1 x2 x3 hz
          go_wp2
          go_roundw
          case rel => exact ⟨k + 1, _, _, by omega, by go_num, H9, Lib.hid (HO.out.next (x := (⟨⟨y.k, 0, ⟨#[]⟩, (R.list 500).1⟩, A5, (R.list 500).1.length, cp5⟩ : SItem).x) (by rw [show ((⟨⟨y.k, 0, ⟨#[]⟩, (R.list 500).1⟩, A5, (R.list 500).1.length, cp5⟩ : SItem).x).b = list4 (R.list 500).1 by simp [Itm.b, hkk]]; rw [list4_size]; omega) (by rw [show ((⟨⟨y.k, 0, ⟨#[]⟩, (R.list 500).1⟩, A5, (R.list 500).1.length, cp5⟩ : SItem).x).b = list4 (R.list 500).1 by simp [Itm.b, hkk]]; exact list_back R 500 HR0.out HRE.out) HRE.out)⟩
          case measure => simp [intOf]; omega
        · have hz : (((((R.list 500).2).e : Nat) : Int) != 0) = true := by rw [bne_iff_ne]; omega
          go_wp2_with fail
          refine (alive_calls _).mono ?_
          rintro e w9 ⟨rfl, hb⟩
          have H9 := Lib.hid (H7.out.2.2.2.2.2.2.2.2.trans (hb.mono (below_le H7.out.2.2.2.2.2.2.2.2 HLE.out)))
          clear hb
          go_wp2
          go_ret
          exact ⟨rfl, H9.out⟩
      · have t0 : (y.k.tmod 5 == 0) = false := by simpa using k0
        have t1 : (y.k.tmod 5 == 1) = false := by simpa using k1
        have t2 : (y.k.tmod 5 == 2) = false := by simpa using k2
        have t3 : (y.k.tmod 5 == 3) = false := by simpa using k3
        have t4 : (y.k.tmod 5 == 4) = false := by simpa using k4
        have HBE : Hid (((⟨⟨y.k, 0, ⟨#[]⟩, []⟩, none, 0, 0⟩ : SItem).x).b = ByteArray.empty) := Lib.hid (by simp [Itm.b, k0, k1, k2, k3, k4])
        clear k0 k1 k2 k3 k4
        have H7 := H6
        have HI7 := HI6
        go_wp2_with fail
        refine (err_calls H7.out.2.2.2.2.2.1).mono ?_
        rintro e w8 ⟨rfl, rfl⟩
        by_cases hre : ((R).e : Nat) = 0
        · have hz : ((((R).e : Nat) : Int) != 0) = false := by rw [hre]; rfl
          obtain ⟨x0, x1, x2, x3⟩ := icells_blk (y := (⟨⟨y.k, 0, ⟨#[]⟩, []⟩, none, 0, 0⟩ : SItem)) HI7.out
          have HRE := Lib.hid hre
          clear hre
          go_wp2_with fail
          refine (H7.out.write HLE.out (⟨⟨y.k, 0, ⟨#[]⟩, []⟩, none, 0, 0⟩ : SItem) (by show (0 : Nat) < 18446744073709551616; decide) rfl (u32s_nil _ _) (by simp) (by intro h; exact absurd h (Nat.lt_irrefl 0)) ⟨by show 0 ≤ _; omega, by show 0 ≤ _; omega⟩ HBS.out.1 HBS.out.2).mono ?_
          rintro e w9 ⟨rfl, h9⟩
          have H9 := Lib.hid h9
          clear h9 x0 x1 x2 x3 hz
          go_wp2
          go_roundw
          case rel => exact ⟨k + 1, _, _, by omega, by go_num, H9, Lib.hid (HO.out.next (x := (⟨⟨y.k, 0, ⟨#[]⟩, []⟩, none, 0, 0⟩ : SItem).x) (by rw [HBE.out]; rfl) (by rw [HBE.out, ByteArray.empty_append]) HRE.out)⟩
          case measure => simp [intOf]; omega
        · have hz : ((((R).e : Nat) : Int) != 0) = true := by rw [bne_iff_ne]; omega
          go_wp2_with fail
          refine (alive_calls _).mono ?_
          rintro e w9 ⟨rfl, hb⟩
          have H9 := Lib.hid (H7.out.2.2.2.2.2.2.2.2.trans (hb.mono (below_le H7.out.2.2.2.2.2.2.2.2 HLE.out)))
          clear hb
          go_wp2
          go_ret
          exact ⟨rfl, H9.out⟩
    · obtain rfl : k = len1 := by omega
      have HR := Lib.hid (lt_of H4.out.rat.1)
      by_cases hrs : 0 < R.s.size
      · have HE : Hid (R.end_.e = 4) := Lib.hid (by unfold Rd.end_; rw [if_pos ⟨HO.out.2.1, hrs⟩]; rfl)
        go_wp2_with fail
        refine (PB.read HLE.out H4.out (end_reads H4.out.rat)).mono ?_
        rintro e w5 ⟨rfl, h5⟩
        rw [HE.out]
        have H5 := Lib.hid h5
        clear h5 H4
        go_wp2_with fail
        refine (alive_calls _).mono ?_
        rintro e w6 ⟨rfl, hb⟩
        have H6 := Lib.hid (H5.out.below HLE.out hb)
        clear hb
        go_wp2
        go_ret
        exact ⟨rfl, H6.out.out⟩
      · have HE : Hid (R.end_.e = 0) := Lib.hid (by unfold Rd.end_; rw [if_neg (fun h => hrs h.2)]; exact HO.out.2.1)
        have HEQ : Hid (a0 = b) := Lib.hid (by
          have h1 := HO.out.1
          rw [show R.s = ByteArray.empty from ByteArray.ext (Array.eq_empty_of_size_eq_zero (by show R.s.size = 0; omega)), ByteArray.append_empty] at h1
          exact h1)
        go_wp2_with fail
        refine (PB.read HLE.out H4.out (end_reads H4.out.rat)).mono ?_
        rintro e w5 ⟨rfl, h5⟩
        rw [HE.out]
        have H5 := Lib.hid h5
        clear h5 H4
        go_wp2_with fail
        refine (alive_calls _).mono ?_
        rintro e w6 ⟨rfl, hb⟩
        have H6 := Lib.hid (H5.out.below HLE.out hb)
        clear hb
        go_wp2_with fail
        refine H6.out.bytes.mono ?_
        rintro e w7 ⟨rfl, rfl⟩
        rw [← HEQ.out]
        go_wp2
        go_ret
        exact ⟨rfl, H6.out.out⟩
end Go.Proofs.YtjmdjikjelhbmaaDoor.Xdr
