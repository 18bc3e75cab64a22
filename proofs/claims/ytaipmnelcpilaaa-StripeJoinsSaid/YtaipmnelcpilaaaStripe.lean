/- The contracts of layer stripe. -/
import Derived.Test.YtaipmnelcpilaaaPlaneA
import Derived.Test.YtaipmnelcpilaaaBlk
import Derived.Lib.SmallJoins
import Derived.Deep.RegionHeld3
namespace Go.Proofs.Ytaipmnelcpilaaa.Stripe
open Go.RowKit Go.FInt Go.Blk Go.Joins Go.Proofs.Ytaipmnelcpilaaa.Plane
set_option linter.unusedVariables false
set_option linter.unusedSimpArgs false

theorem bl {B : Nat} {w w1 : World} (h : Below B w w1) (n : Nat) : Below B w (w1.drewN n) := ⟨h.os, h.tape, h.output, h.size, h.block⟩
theorem ba {B : Nat} {w w1 : World} (h : Below B w w1) (hB : B ≤ w.heap.size) (o : Obj) : Below B w (w1.alloc o) := h.alloc (Nat.le_trans hB h.size) o
theorem bt {w w1 w2 : World} (h : Below w.heap.size w w1) (k : Below w1.heap.size w1 w2) : Below w.heap.size w w2 := h.trans (k.mono h.size)

theorem ud {w w2 : World} (h : Below w.drew.heap.size w.drew w2) : Below w.heap.size w w2 := ⟨h.os, h.tape, h.output, h.size, h.block⟩

/-- a map that may be -/
def RightM (s u t : Int) : Prop := 1 ≤ s ∧ s ≤ 16 ∧ 1 ≤ u ∧ u ≤ 64 ∧ 0 ≤ t ∧ t < s
/-- a map's value -/
abbrev mapV (s u t : Int) : Value := .agg #[.int .i64 s, .int .i64 u, .int .i64 t]

theorem right_yes (s u t : Int) (w : World) (h : RightM s u t) : Calls Try.prog 20 #[mapV s u t] w fun e w' => e = .returned (.bool true) ∧ Below w.heap.size w w' := by
  obtain ⟨h1, h2, h3, h4, h5, h6⟩ := h
  go_enter Try.func20, Try.ntmps20
  go_wp2
  go_ret
  exact ⟨rfl, below_alloc1 w _⟩
theorem right_no (s u t : Int) (w : World) (h : ¬ RightM s u t) : Calls Try.prog 20 #[mapV s u t] w fun e w' => e = .returned (.bool false) ∧ Below w.heap.size w w' := by
  by_cases h1 : 1 ≤ s
  · by_cases h2 : s ≤ 16
    · by_cases h3 : 1 ≤ u
      · by_cases h4 : u ≤ 64
        · by_cases h5 : 0 ≤ t
          · have h6 : decide (t < s) = false := by unfold RightM at h; simp; omega
            clear h
            go_enter Try.func20, Try.ntmps20
            go_wp2
            go_ret
            exact ⟨rfl, below_alloc1 w _⟩
          · have h6 : decide (0 ≤ t) = false := by simp; omega
            clear h
            go_enter Try.func20, Try.ntmps20
            go_wp2
            go_ret
            exact ⟨rfl, below_alloc1 w _⟩
        · have h6 : decide (u ≤ 64) = false := by simp; omega
          clear h
          go_enter Try.func20, Try.ntmps20
          go_wp2
          go_ret
          exact ⟨rfl, below_alloc1 w _⟩
      · have h6 : decide (1 ≤ u) = false := by simp; omega
        clear h
        go_enter Try.func20, Try.ntmps20
        go_wp2
        go_ret
        exact ⟨rfl, below_alloc1 w _⟩
    · have h6 : decide (s ≤ 16) = false := by simp; omega
      clear h
      go_enter Try.func20, Try.ntmps20
      go_wp2
      go_ret
      exact ⟨rfl, below_alloc1 w _⟩
  · have h6 : decide (1 ≤ s) = false := by simp; omega
    clear h
    go_enter Try.func20, Try.ntmps20
    go_wp2
    go_ret
    exact ⟨rfl, below_alloc1 w _⟩
theorem refRight_yes (s u t : Int) (w : World) (h : RightM s u t) : Calls Try.prog 13 #[mapV s u t] w fun e w' => e = .returned (.bool true) ∧ Below w.heap.size w w' := by
  obtain ⟨h1, h2, h3, h4, h5, h6⟩ := h
  go_enter Try.func13, Try.ntmps13
  go_wp2
  go_ret
  exact ⟨rfl, below_alloc1 w _⟩
theorem refRight_no (s u t : Int) (w : World) (h : ¬ RightM s u t) : Calls Try.prog 13 #[mapV s u t] w fun e w' => e = .returned (.bool false) ∧ Below w.heap.size w w' := by
  by_cases h1 : 1 ≤ s
  · by_cases h2 : s ≤ 16
    · by_cases h3 : 1 ≤ u
      · by_cases h4 : u ≤ 64
        · by_cases h5 : 0 ≤ t
          · have h6 : decide (t < s) = false := by unfold RightM at h; simp; omega
            clear h
            go_enter Try.func13, Try.ntmps13
            go_wp2
            go_ret
            exact ⟨rfl, below_alloc1 w _⟩
          · have h6 : decide (0 ≤ t) = false := by simp; omega
            clear h
            go_enter Try.func13, Try.ntmps13
            go_wp2
            go_ret
            exact ⟨rfl, below_alloc1 w _⟩
        · have h6 : decide (u ≤ 64) = false := by simp; omega
          clear h
          go_enter Try.func13, Try.ntmps13
          go_wp2
          go_ret
          exact ⟨rfl, below_alloc1 w _⟩
      · have h6 : decide (1 ≤ u) = false := by simp; omega
        clear h
        go_enter Try.func13, Try.ntmps13
        go_wp2
        go_ret
        exact ⟨rfl, below_alloc1 w _⟩
    · have h6 : decide (s ≤ 16) = false := by simp; omega
      clear h
      go_enter Try.func13, Try.ntmps13
      go_wp2
      go_ret
      exact ⟨rfl, below_alloc1 w _⟩
  · have h6 : decide (1 ≤ s) = false := by simp; omega
    clear h
    go_enter Try.func13, Try.ntmps13
    go_wp2
    go_ret
    exact ⟨rfl, below_alloc1 w _⟩
theorem div_small (k n : Int) (h1 : 1 ≤ n) (h3 : 0 ≤ k) : 0 ≤ k / n ∧ k / n ≤ k := ⟨Int.ediv_nonneg h3 (by omega), Int.ediv_le_self n h3⟩

theorem spot_any (s u t k : Int) (w : World) (h : RightM s u t) (hk : 0 ≤ k) (hk2 : k ≤ 1024) : Calls Try.prog 24 #[mapV s u t, .int .i64 k] w fun e w' =>
    ∃ a b, e = .returned (.complex .f64 a b) ∧ IsInt a ((k % s + t) % s) ∧ IsInt b (k / s) ∧ Below w.heap.size w w' := by
  obtain ⟨h1, h2, h3, h4, h5, h6⟩ := h
  have hd := div_small k s h1 hk
  have HK := Lib.hid (show k / s < 2147483648 by omega)
  clear hd
  go_enter Try.func24, Try.ntmps24
  go_wp2_with fail
  refine (place_yes k s _ h1 h2 hk HK.out (by omega)).mono ?_
  rintro e w1 ⟨re, im, rfl, ire, iim, m, rfl⟩
  have IR := Lib.hid ire
  have II := Lib.hid iim
  clear ire iim
  go_wp2_with fail
  refine (turn_yes re im s (k % s) (k / s) t _ ⟨h1, h2, IR.out, II.out, Int.emod_nonneg k (by omega), Int.emod_lt_of_pos k (by omega), (div_small k s h1 hk).1, HK.out⟩ ⟨by omega, by omega⟩).mono ?_
  rintro e w2 ⟨a, b, rfl, ia, ib, rfl⟩
  have IA := Lib.hid ia
  have IB := Lib.hid ib
  clear ia ib
  go_wp2
  go_ret
  exact ⟨_, _, rfl, IA.out, IB.out, by first | exact bl (below_alloc1 w _) _ | exact (below_alloc1 _ _)⟩

/-- the server and the place of a byte -/
def srvOf (s u t x : Int) : Int := 1 + (x / u % s + t) % s
def atOf (s u x : Int) : Int := x / u / s * u + x % u
theorem srv_bd (s u t x : Int) (h : RightM s u t) : 1 ≤ srvOf s u t x ∧ srvOf s u t x ≤ s := by
  have a := Int.emod_nonneg (x / u % s + t) (by have := h.1; omega : s ≠ 0)
  have b := Int.emod_lt_of_pos (x / u % s + t) (by have := h.1; omega : 0 < s)
  unfold srvOf; omega
theorem at_bd (s u t x : Int) (h : RightM s u t) (hx : 0 ≤ x) : 0 ≤ atOf s u x ∧ atOf s u x ≤ x := by
  have h0 := h.1
  have h1 := h.2.2.1
  have a := Int.emod_nonneg x (by omega : u ≠ 0)
  have e : x / u * u + x % u = x := by rw [Int.mul_comm]; exact Int.mul_ediv_add_emod x u
  have d := div_small x u h1 hx
  have d2 := div_small (x / u) s h0 d.1
  have m : x / u / s * u ≤ x / u * u := Int.mul_le_mul_of_nonneg_right d2.2 (by omega)
  have m0 := Int.mul_nonneg d2.1 (by omega : 0 ≤ u)
  unfold atOf; omega

theorem where_yes (s u t x : Int) (w : World) (h : RightM s u t) (hx : 0 ≤ x) (hx2 : x < 1024) : Calls Try.prog 19 #[mapV s u t, .int .i64 x] w fun e w' =>
    e = .returned (.tuple #[.int .i64 (srvOf s u t x), .int .i64 (atOf s u x), .int .i64 0]) ∧ Below w.heap.size w w' := by
  have HR := Lib.hid h
  have hs := srv_bd s u t x h
  have ha := at_bd s u t x h hx
  obtain ⟨h1, h2, h3, h4, h5, h6⟩ := h
  have d := div_small x u h3 hx
  have D := Lib.hid d
  have d2 := div_small (x / u) s h1 d.1
  have m0 := Int.mul_nonneg d2.1 (by omega : 0 ≤ u)
  have m1 : x / u / s * u ≤ 1024 := by have := ha.2; unfold atOf at this; have := Int.emod_nonneg x (by omega : u ≠ 0); omega
  have r0 := Int.emod_nonneg x (by omega : u ≠ 0)
  have r1 := Int.emod_lt_of_pos x (by omega : 0 < u)
  obtain ⟨d3, d4⟩ := d2
  have hq0 : (u == 0) = false := by simp; omega
  have hq1 : ¬ u = 0 := by omega
  have hq2 : IntKind.i64.wrap (x.tdiv u) = x / u := by rw [Int.tdiv_eq_ediv_of_nonneg hx]; exact IntWalk.i64_in _ (by omega)
  have hq3 : IntKind.i64.wrap (x / u) = x / u := IntWalk.i64_in _ (by omega)
  go_enter Try.func19, Try.ntmps19
  go_wp2_with fail
  refine (right_yes s u t _ HR.out).mono ?_
  rintro e w1 ⟨rfl, hb1⟩
  have HK1 := Lib.hid (below_old (alloc_at w _) hb1)
  have HB1 := Lib.hid (bt (below_alloc1 w _) hb1)
  clear hb1
  have c1 := blk3 HK1.out
  go_wp2_with fail
  go_region_held3 (fun w' => w'.cell? ⟨w.heap.size, 0, none⟩ = some (.int .i64 s) ∧ w'.cell? ⟨w.heap.size, 1, none⟩ = some (.int .i64 u) ∧ w'.cell? ⟨w.heap.size, 2, none⟩ = some (.int .i64 t))
    (first | go_keep | exact ⟨(blk3 (below_old HK1.out (ud hb2))).1, (blk3 (below_old HK1.out (ud hb2))).2.2.1, (blk3 (below_old HK1.out (ud hb2))).2.2.2.2.1⟩)
    (first | (go_at_call 24; refine (spot_any s u t (x / u) _ HR.out D.out.1 (by have := D.out.2; omega)).mono ?_; rintro e w2 ⟨a, b, rfl, ia, ib, hb2⟩))
  have HK2 := Lib.hid (below_old HK1.out (ud hb2))
  have HB2 := Lib.hid (bt HB1.out (ud hb2))
  clear hb2 c1
  have c2 := blk3 HK2.out
  have hS : (x / u % s + t) % s = srvOf s u t x - 1 := by unfold srvOf; omega
  rw [hS] at ia
  obtain ⟨S, hsv⟩ : ∃ S, srvOf s u t x = S := ⟨_, rfl⟩
  have HSV := Lib.hid hsv
  rw [hsv] at ia hS hs
  have t1 := fun W => run_convert_float_int (P := Try.prog) W 44 3 .f64 .i64 a (S - 1) rfl Try.underlying3 (toInt_int ia (by omega) (by omega))
  have t2 := fun W => run_convert_float_int (P := Try.prog) W 44 3 .f64 .i64 b (x / u / s) rfl Try.underlying3 (toInt_int ib (by omega) (by omega))
  have hA : x / u / s * u + x % u = atOf s u x := rfl
  have HA := Lib.hid hA
  have e1 : IntKind.i64.wrap (1 + (S - 1)) = S := by rw [show 1 + (S - 1) = S by omega]; exact IntWalk.i64_in _ (by omega)
  have e2 : IntKind.i64.wrap (x / u / s * u) = x / u / s * u := IntWalk.i64_in _ (by omega)
  have e3 : IntKind.i64.wrap (x / u / s * u + x % u) = x / u / s * u + x % u := IntWalk.i64_in _ (by omega)
  have e4 : x.tmod u = x % u := Int.tmod_eq_emod_of_nonneg hx
  have e5 : IntKind.i64.wrap (x % u) = x % u := IntWalk.i64_in _ (by omega)
  clear ia ib hS hsv hA
  go_wp2_with fail
  go_quiet (fail)
  clear e1 e2 e3 e4 e5
  go_wp2
  go_ret3
  exact ⟨by rw [HSV.out]; rfl, bl HB2.out _⟩

theorem where_no (s u t x : Int) (w : World) (h : ¬ (RightM s u t ∧ 0 ≤ x ∧ x < 1024)) : Calls Try.prog 19 #[mapV s u t, .int .i64 x] w fun e w' =>
    e = .returned (.tuple #[.int .i64 0, .int .i64 0, .int .i64 1]) ∧ Below w.heap.size w w' := by
  by_cases hr : RightM s u t
  · have HR := Lib.hid hr
    by_cases hx : 0 ≤ x
    · have hx2 : 1024 ≤ x := by
        rcases Int.lt_or_le x 1024 with g | g
        · exact absurd ⟨hr, hx, g⟩ h
        · exact g
      have h6 : decide (1024 ≤ x) = true := by simp; omega
      clear h hr
      go_enter Try.func19, Try.ntmps19
      go_wp2_with (go_at_call 20; refine (right_yes s u t _ HR.out).mono ?_; rintro e w1 ⟨rfl, hb1⟩; have HB1 := Lib.hid (bt (below_alloc1 w _) hb1); clear hb1)
      go_ret3
      exact ⟨rfl, HB1.out⟩
    · have h6 : decide (x < 0) = true := by simp; omega
      clear h hr
      go_enter Try.func19, Try.ntmps19
      go_wp2_with (go_at_call 20; refine (right_yes s u t _ HR.out).mono ?_; rintro e w1 ⟨rfl, hb1⟩; have HB1 := Lib.hid (bt (below_alloc1 w _) hb1); clear hb1)
      go_ret3
      exact ⟨rfl, HB1.out⟩
  · have HR := Lib.hid hr
    clear h hr
    go_enter Try.func19, Try.ntmps19
    go_wp2_with (go_at_call 20; refine (right_no s u t _ HR.out).mono ?_; rintro e w1 ⟨rfl, hb1⟩; have HB1 := Lib.hid (bt (below_alloc1 w _) hb1); clear hb1)
    go_ret3
    exact ⟨rfl, HB1.out⟩

/-- which byte lies there -/
def backOf (s u t server at' : Int) : Int := (at' / u * s + (server - 1 - t) % s) * u + at' % u
def MayAt (s u t server at' : Int) : Prop := RightM s u t ∧ 1 ≤ server ∧ server ≤ s ∧ 0 ≤ at' ∧ at' < 1024

theorem back_bd (s u t server at' : Int) (h : MayAt s u t server at') : 0 ≤ at' / u * s ∧ at' / u * s ≤ 16384 ∧ 0 ≤ (server - 1 - t) % s ∧ (server - 1 - t) % s < s ∧ 0 ≤ at' % u ∧ at' % u < u ∧ 0 ≤ (at' / u * s + (server - 1 - t) % s) * u ∧ (at' / u * s + (server - 1 - t) % s) * u ≤ 1049600 := by
  obtain ⟨⟨h1, h2, h3, h4, h5, h6⟩, k1, k2, k3, k4⟩ := h
  have d := div_small at' u h3 k3
  have a := Int.mul_nonneg d.1 (by omega : 0 ≤ s)
  have b : at' / u * s ≤ 1024 * s := Int.mul_le_mul_of_nonneg_right (by omega) (by omega)
  have c := Int.emod_nonneg (server - 1 - t) (by omega : s ≠ 0)
  have c2 := Int.emod_lt_of_pos (server - 1 - t) (by omega : 0 < s)
  have e := Int.emod_nonneg at' (by omega : u ≠ 0)
  have e2 := Int.emod_lt_of_pos at' (by omega : 0 < u)
  have f := Int.mul_nonneg (show 0 ≤ at' / u * s + (server - 1 - t) % s by omega) (by omega : 0 ≤ u)
  have g : (at' / u * s + (server - 1 - t) % s) * u ≤ 16400 * u := Int.mul_le_mul_of_nonneg_right (by omega) (by omega)
  exact ⟨a, by omega, c, c2, e, e2, f, by omega⟩

theorem quiet_left {P : Program} {f : FuncId} {args : Array Value} {w : World} {n : Nat} {v : Value}
    (h : Calls P f args (w.drewN n) fun e w' => e = .returned v ∧ w.drewN n = w') : Calls P f args (w.drewN n) fun e w'' => e = .returned v ∧ ∃ m, w'' = w.drewN m :=
  h.mono fun _ _ ⟨he, hm⟩ => ⟨he, n, hm.symm⟩

theorem back_in (s u t server at' : Int) (w : World) (h : MayAt s u t server at') (hx : backOf s u t server at' < 1024) : Calls Try.prog 21 #[mapV s u t, .int .i64 server, .int .i64 at'] w fun e w' =>
    e = .returned (.tuple #[.int .i64 (backOf s u t server at'), .int .i64 0]) ∧ Below w.heap.size w w' := by
  obtain ⟨b1, b2, b3, b4, b5, b6, b7, b8⟩ := back_bd s u t server at' h
  obtain ⟨hr, k1, k2, k3, k4⟩ := h
  have HR := Lib.hid hr
  obtain ⟨h1, h2, h3, h4, h5, h6⟩ := hr
  obtain ⟨d1, d2⟩ := div_small at' u h3 k3
  have i1 := Lib.hid (ofInt (server - 1) (by omega))
  have i2 := Lib.hid (ofInt (at' / u) (by omega))
  unfold backOf at hx
  go_enter Try.func21, Try.ntmps21
  go_wp2_with fail
  refine (right_yes s u t _ HR.out).mono ?_
  rintro e w1 ⟨rfl, hb1⟩
  have HK1 := Lib.hid (below_old (alloc_at w _) hb1)
  have HB1 := Lib.hid (bt (below_alloc1 w _) hb1)
  clear hb1
  have c1 := blk3 HK1.out
  go_wp2_with fail
  have hq0 : (u == 0) = false := by simp; omega
  have hq2 : IntKind.i64.wrap (at'.tdiv u) = at' / u := by rw [Int.tdiv_eq_ediv_of_nonneg k3]; exact IntWalk.i64_in _ (by omega)
  have hq3 : IntKind.i64.wrap (at' / u) = at' / u := IntWalk.i64_in _ (by omega)
  have hq4 : IntKind.i64.wrap (server - 1) = server - 1 := IntWalk.i64_in _ (by omega)
  have hq5 : IntKind.i64.wrap (-t) = -t := IntWalk.i64_in _ (by omega)
  obtain ⟨x, y, j1, j2, hT⟩ := turn_fix (floatOfInt .f64 (server - 1)) (floatOfInt .f64 (at' / u)) s (server - 1) (at' / u) (-t) ⟨h1, h2, i1.out, i2.out, by omega, by omega, d1, by omega⟩ ⟨by omega, by omega⟩
  have HT := Lib.hid hT
  have J1 := Lib.hid j1
  have J2 := Lib.hid j2
  clear hT j1 j2
  go_quiet ((go_at_call 25; exact quiet_left (HT.out _)))
  clear hq0 hq2 hq3 hq4 hq5
  go_wp2_with fail
  rw [← Int.sub_eq_add_neg] at J1
  refine (unit_yes x y s ((server - 1 - t) % s) (at' / u) _ ⟨h1, h2, J1.out, J2.out, b3, b4, d1, by omega⟩).mono ?_
  rintro e w2 ⟨rfl, rfl⟩
  have e2 : IntKind.i64.wrap ((at' / u * s + (server - 1 - t) % s) * u) = (at' / u * s + (server - 1 - t) % s) * u := IntWalk.i64_in _ (by omega)
  have e3 : IntKind.i64.wrap ((at' / u * s + (server - 1 - t) % s) * u + at' % u) = (at' / u * s + (server - 1 - t) % s) * u + at' % u := IntWalk.i64_in _ (by omega)
  have e4 : at'.tmod u = at' % u := Int.tmod_eq_emod_of_nonneg k3
  have e5 : IntKind.i64.wrap (at' % u) = at' % u := IntWalk.i64_in _ (by omega)
  have hu0 : (u == 0) = false := by simp; omega
  go_wp2_with fail
  go_quiet (fail)
  clear e2 e3 e4 e5 hu0
  go_wp2
  go_ret2
  exact ⟨rfl, bl HB1.out _⟩

theorem back_over (s u t server at' : Int) (w : World) (h : MayAt s u t server at') (hx : 1024 ≤ backOf s u t server at') : Calls Try.prog 21 #[mapV s u t, .int .i64 server, .int .i64 at'] w fun e w' =>
    e = .returned (.tuple #[.int .i64 0, .int .i64 1]) ∧ Below w.heap.size w w' := by
  obtain ⟨b1, b2, b3, b4, b5, b6, b7, b8⟩ := back_bd s u t server at' h
  obtain ⟨hr, k1, k2, k3, k4⟩ := h
  have HR := Lib.hid hr
  obtain ⟨h1, h2, h3, h4, h5, h6⟩ := hr
  obtain ⟨d1, d2⟩ := div_small at' u h3 k3
  have i1 := Lib.hid (ofInt (server - 1) (by omega))
  have i2 := Lib.hid (ofInt (at' / u) (by omega))
  unfold backOf at hx
  go_enter Try.func21, Try.ntmps21
  go_wp2_with fail
  refine (right_yes s u t _ HR.out).mono ?_
  rintro e w1 ⟨rfl, hb1⟩
  have HK1 := Lib.hid (below_old (alloc_at w _) hb1)
  have HB1 := Lib.hid (bt (below_alloc1 w _) hb1)
  clear hb1
  have c1 := blk3 HK1.out
  go_wp2_with fail
  have hq0 : (u == 0) = false := by simp; omega
  have hq2 : IntKind.i64.wrap (at'.tdiv u) = at' / u := by rw [Int.tdiv_eq_ediv_of_nonneg k3]; exact IntWalk.i64_in _ (by omega)
  have hq3 : IntKind.i64.wrap (at' / u) = at' / u := IntWalk.i64_in _ (by omega)
  have hq4 : IntKind.i64.wrap (server - 1) = server - 1 := IntWalk.i64_in _ (by omega)
  have hq5 : IntKind.i64.wrap (-t) = -t := IntWalk.i64_in _ (by omega)
  obtain ⟨x, y, j1, j2, hT⟩ := turn_fix (floatOfInt .f64 (server - 1)) (floatOfInt .f64 (at' / u)) s (server - 1) (at' / u) (-t) ⟨h1, h2, i1.out, i2.out, by omega, by omega, d1, by omega⟩ ⟨by omega, by omega⟩
  have HT := Lib.hid hT
  have J1 := Lib.hid j1
  have J2 := Lib.hid j2
  clear hT j1 j2
  go_quiet ((go_at_call 25; exact quiet_left (HT.out _)))
  clear hq0 hq2 hq3 hq4 hq5
  go_wp2_with fail
  rw [← Int.sub_eq_add_neg] at J1
  refine (unit_yes x y s ((server - 1 - t) % s) (at' / u) _ ⟨h1, h2, J1.out, J2.out, b3, b4, d1, by omega⟩).mono ?_
  rintro e w2 ⟨rfl, rfl⟩
  have e2 : IntKind.i64.wrap ((at' / u * s + (server - 1 - t) % s) * u) = (at' / u * s + (server - 1 - t) % s) * u := IntWalk.i64_in _ (by omega)
  have e3 : IntKind.i64.wrap ((at' / u * s + (server - 1 - t) % s) * u + at' % u) = (at' / u * s + (server - 1 - t) % s) * u + at' % u := IntWalk.i64_in _ (by omega)
  have e4 : at'.tmod u = at' % u := Int.tmod_eq_emod_of_nonneg k3
  have e5 : IntKind.i64.wrap (at' % u) = at' % u := IntWalk.i64_in _ (by omega)
  have hu0 : (u == 0) = false := by simp; omega
  go_wp2_with fail
  go_quiet (fail)
  clear e2 e3 e4 e5 hu0
  go_wp2
  go_ret2
  exact ⟨rfl, bl HB1.out _⟩

theorem back_no (s u t server at' : Int) (w : World) (h : ¬ MayAt s u t server at') : Calls Try.prog 21 #[mapV s u t, .int .i64 server, .int .i64 at'] w fun e w' =>
    e = .returned (.tuple #[.int .i64 0, .int .i64 1]) ∧ Below w.heap.size w w' := by
  by_cases hr : RightM s u t
  · have HR := Lib.hid hr
    by_cases k1 : 1 ≤ server
    · by_cases k2 : server ≤ s
      · by_cases k3 : 0 ≤ at'
        · have k4 : 1024 ≤ at' := by
            rcases Int.lt_or_le at' 1024 with g | g
            · exact absurd ⟨hr, k1, k2, k3, g⟩ h
            · exact g
          clear h hr
          go_enter Try.func21, Try.ntmps21
          go_wp2_with (go_at_call 20; refine (right_yes s u t _ HR.out).mono ?_; rintro e w1 ⟨rfl, hb1⟩; have HB1 := Lib.hid (bt (below_alloc1 w _) hb1); have c1 := blk3 (below_old (alloc_at w _) hb1); clear hb1)
          go_ret2
          exact ⟨rfl, HB1.out⟩
        · have k4 : decide (at' < 0) = true := by simp; omega
          clear h hr
          go_enter Try.func21, Try.ntmps21
          go_wp2_with (go_at_call 20; refine (right_yes s u t _ HR.out).mono ?_; rintro e w1 ⟨rfl, hb1⟩; have HB1 := Lib.hid (bt (below_alloc1 w _) hb1); have c1 := blk3 (below_old (alloc_at w _) hb1); clear hb1)
          go_ret2
          exact ⟨rfl, HB1.out⟩
      · have k4 : decide (s < server) = true := by simp; omega
        clear h hr
        go_enter Try.func21, Try.ntmps21
        go_wp2_with (go_at_call 20; refine (right_yes s u t _ HR.out).mono ?_; rintro e w1 ⟨rfl, hb1⟩; have HB1 := Lib.hid (bt (below_alloc1 w _) hb1); have c1 := blk3 (below_old (alloc_at w _) hb1); clear hb1)
        go_ret2
        exact ⟨rfl, HB1.out⟩
    · have k4 : decide (server < 1) = true := by simp; omega
      clear h hr
      go_enter Try.func21, Try.ntmps21
      go_wp2_with (go_at_call 20; refine (right_yes s u t _ HR.out).mono ?_; rintro e w1 ⟨rfl, hb1⟩; have HB1 := Lib.hid (bt (below_alloc1 w _) hb1); have c1 := blk3 (below_old (alloc_at w _) hb1); clear hb1)
      go_ret2
      exact ⟨rfl, HB1.out⟩
  · have HR := Lib.hid hr
    clear h hr
    go_enter Try.func21, Try.ntmps21
    go_wp2_with (go_at_call 20; refine (right_no s u t _ HR.out).mono ?_; rintro e w1 ⟨rfl, hb1⟩; have HB1 := Lib.hid (bt (below_alloc1 w _) hb1); clear hb1)
    go_ret2
    exact ⟨rfl, HB1.out⟩
/-- how many units back the server's last one is -/
def backBy (s u t server size : Int) : Int := (((size - 1) / u % s + t) % s - (server - 1)) % s
def MayLen (s u t server size : Int) : Prop := RightM s u t ∧ 1 ≤ server ∧ server ≤ s ∧ 0 ≤ size ∧ size ≤ 1024

theorem length_nil (s u t server : Int) (w : World) (h : RightM s u t) (k1 : 1 ≤ server) (k2 : server ≤ s) : Calls Try.prog 17 #[mapV s u t, .int .i64 server, .int .i64 0] w fun e w' =>
    e = .returned (.tuple #[.int .i64 0, .int .i64 0]) ∧ Below w.heap.size w w' := by
  have HR := Lib.hid h
  obtain ⟨h1, h2, h3, h4, h5, h6⟩ := h
  go_enter Try.func17, Try.ntmps17
  go_wp2_with (go_at_call 20; refine (right_yes s u t _ HR.out).mono ?_; rintro e w1 ⟨rfl, hb1⟩; have HB1 := Lib.hid (bt (below_alloc1 w _) hb1); have c1 := blk3 (below_old (alloc_at w _) hb1); clear hb1)
  go_ret2
  exact ⟨rfl, HB1.out⟩

theorem length_none (s u t server size : Int) (w : World) (h : MayLen s u t server size) (hz : 1 ≤ size) (hb : (size - 1) / u < backBy s u t server size) : Calls Try.prog 17 #[mapV s u t, .int .i64 server, .int .i64 size] w fun e w' =>
    e = .returned (.tuple #[.int .i64 0, .int .i64 0]) ∧ Below w.heap.size w w' := by
  obtain ⟨hr, k1, k2, k3, k4⟩ := h
  have HR := Lib.hid hr
  obtain ⟨h1, h2, h3, h4, h5, h6⟩ := hr
  obtain ⟨d1, d2⟩ := div_small (size - 1) u h3 (by omega)
  have hz0 : (size == 0) = false := by simp; omega
  have a1 := Int.emod_nonneg ((size - 1) / u % s + t) (by omega : s ≠ 0)
  have a2 := Int.emod_lt_of_pos ((size - 1) / u % s + t) (by omega : 0 < s)
  obtain ⟨C, hC⟩ : ∃ C, ((size - 1) / u % s + t) % s = C := ⟨_, rfl⟩
  have b1 := Int.emod_nonneg (C - (server - 1)) (by omega : s ≠ 0)
  have b2 := Int.emod_lt_of_pos (C - (server - 1)) (by omega : 0 < s)
  unfold backBy at hb
  rw [hC] at a1 a2 hb
  have HC := Lib.hid hC
  clear hC
  go_enter Try.func17, Try.ntmps17
  go_wp2_with fail
  refine (right_yes s u t _ HR.out).mono ?_
  rintro e w1 ⟨rfl, hb1⟩
  have HK1 := Lib.hid (below_old (alloc_at w _) hb1)
  have HB1 := Lib.hid (bt (below_alloc1 w _) hb1)
  clear hb1
  have c1 := blk3 HK1.out
  go_wp2_with fail
  refine (spot_any s u t ((size - 1) / u) _ HR.out d1 (by omega)).mono ?_
  rintro e w2 ⟨a, b, rfl, ia, ib, hb2⟩
  rw [HC.out] at ia
  have t1 := fun W => run_convert_float_int (P := Try.prog) W 44 3 .f64 .i64 a C rfl Try.underlying3 (toInt_int ia (by omega) (by omega))
  have HK2 := Lib.hid (below_old HK1.out hb2)
  have HB2 := Lib.hid (bt HB1.out hb2)
  clear hb2 c1 ia ib
  have c2 := blk3 HK2.out
  go_wp2
  go_ret2
  exact ⟨rfl, HB2.out⟩

theorem length_full (s u t server size : Int) (w : World) (h : MayLen s u t server size) (hz : 1 ≤ size) (hb : backBy s u t server size ≤ (size - 1) / u) (hm : u ≤ size - ((size - 1) / u - backBy s u t server size) * u) : Calls Try.prog 17 #[mapV s u t, .int .i64 server, .int .i64 size] w fun e w' =>
    e = .returned (.tuple #[.int .i64 (((size - 1) / u - backBy s u t server size) / s * u + u), .int .i64 0]) ∧ Below w.heap.size w w' := by
  obtain ⟨hr, k1, k2, k3, k4⟩ := h
  have HR := Lib.hid hr
  obtain ⟨h1, h2, h3, h4, h5, h6⟩ := hr
  obtain ⟨d1, d2⟩ := div_small (size - 1) u h3 (by omega)
  have hz0 : (size == 0) = false := by simp; omega
  have a1 := Int.emod_nonneg ((size - 1) / u % s + t) (by omega : s ≠ 0)
  have a2 := Int.emod_lt_of_pos ((size - 1) / u % s + t) (by omega : 0 < s)
  obtain ⟨C, hC⟩ : ∃ C, ((size - 1) / u % s + t) % s = C := ⟨_, rfl⟩
  have b1 := Int.emod_nonneg (C - (server - 1)) (by omega : s ≠ 0)
  have b2 := Int.emod_lt_of_pos (C - (server - 1)) (by omega : 0 < s)
  have HG : Hid (backBy s u t server size = (C - (server - 1)) % s) := Lib.hid (by unfold backBy; rw [hC])
  unfold backBy at hb
  rw [hC] at a1 a2 hb
  have hU1 : 0 ≤ ((size - 1) / u - (C - (server - 1)) % s) := by omega
  have hU2 : ((size - 1) / u - (C - (server - 1)) % s) ≤ (size - 1) / u := by omega
  have hq : ((size - 1) / u - (C - (server - 1)) % s) * u ≤ (size - 1) / u * u := Int.mul_le_mul_of_nonneg_right hU2 (by omega)
  have hq1 : (size - 1) / u * u ≤ size - 1 := Int.ediv_mul_le (size - 1) (by omega)
  have hq2 : 0 ≤ ((size - 1) / u - (C - (server - 1)) % s) * u := Int.mul_nonneg hU1 (by omega)
  have hq4 : ((size - 1) / u - (C - (server - 1)) % s) * u ≤ 1024 := by omega
  have hq5 : 1 ≤ size - ((size - 1) / u - (C - (server - 1)) % s) * u := by omega
  obtain ⟨d3, d4⟩ := div_small ((size - 1) / u - (C - (server - 1)) % s) s h1 hU1
  have hv : ((size - 1) / u - (C - (server - 1)) % s) / s * u ≤ ((size - 1) / u - (C - (server - 1)) % s) * u := Int.mul_le_mul_of_nonneg_right d4 (by omega)
  have hv0 : 0 ≤ ((size - 1) / u - (C - (server - 1)) % s) / s * u := Int.mul_nonneg d3 (by omega)
  clear hq hq1
  unfold backBy at hm
  rw [hC] at hm
  have HC := Lib.hid hC
  clear hC
  go_enter Try.func17, Try.ntmps17
  go_wp2_with fail
  refine (right_yes s u t _ HR.out).mono ?_
  rintro e w1 ⟨rfl, hb1⟩
  have HK1 := Lib.hid (below_old (alloc_at w _) hb1)
  have HB1 := Lib.hid (bt (below_alloc1 w _) hb1)
  clear hb1
  have c1 := blk3 HK1.out
  go_wp2_with fail
  refine (spot_any s u t ((size - 1) / u) _ HR.out d1 (by omega)).mono ?_
  rintro e w2 ⟨a, b, rfl, ia, ib, hb2⟩
  rw [HC.out] at ia
  have t1 := fun W => run_convert_float_int (P := Try.prog) W 44 3 .f64 .i64 a C rfl Try.underlying3 (toInt_int ia (by omega) (by omega))
  have HK2 := Lib.hid (below_old HK1.out hb2)
  have HB2 := Lib.hid (bt HB1.out hb2)
  clear hb2 c1 ia ib
  have c2 := blk3 HK2.out
  go_wp2_with fail
  have hq2' : IntKind.i64.wrap (((size - 1) / u - (C - (server - 1)) % s) / s * u) = ((size - 1) / u - (C - (server - 1)) % s) / s * u := IntWalk.i64_in _ (by omega)
  have hq3' : IntKind.i64.wrap (((size - 1) / u - (C - (server - 1)) % s) / s * u + u) = ((size - 1) / u - (C - (server - 1)) % s) / s * u + u := IntWalk.i64_in _ (by omega)
  go_region_held3 (fun w' => w'.cell? ⟨w.heap.size, 0, none⟩ = some (.int .i64 s) ∧ w'.cell? ⟨w.heap.size, 1, none⟩ = some (.int .i64 u) ∧ w'.cell? ⟨w.heap.size, 2, none⟩ = some (.int .i64 t))
    (first | go_keep | exact ⟨(blk3 (below_old HK2.out (ud hb3))).1, (blk3 (below_old HK2.out (ud hb3))).2.2.1, (blk3 (below_old HK2.out (ud hb3))).2.2.2.2.1⟩)
    (first | (go_at_call 24; refine (spot_any s u t ((size - 1) / u - (C - (server - 1)) % s) _ HR.out (by omega) (by omega)).mono ?_; rintro e w3 ⟨a2, b2, rfl, ia2, ib2, hb3⟩; have t2 := fun W => run_convert_float_int (P := Try.prog) W 44 3 .f64 .i64 b2 (((size - 1) / u - (C - (server - 1)) % s) / s) rfl Try.underlying3 (toInt_int ib2 (by omega) (by omega))))
  go_wp2
  go_ret2
  exact ⟨by rw [HG.out]; rfl, bt HB2.out (ud hb3)⟩

theorem length_part (s u t server size : Int) (w : World) (h : MayLen s u t server size) (hz : 1 ≤ size) (hb : backBy s u t server size ≤ (size - 1) / u) (hm : size - ((size - 1) / u - backBy s u t server size) * u < u) : Calls Try.prog 17 #[mapV s u t, .int .i64 server, .int .i64 size] w fun e w' =>
    e = .returned (.tuple #[.int .i64 (((size - 1) / u - backBy s u t server size) / s * u + (size - ((size - 1) / u - backBy s u t server size) * u)), .int .i64 0]) ∧ Below w.heap.size w w' := by
  obtain ⟨hr, k1, k2, k3, k4⟩ := h
  have HR := Lib.hid hr
  obtain ⟨h1, h2, h3, h4, h5, h6⟩ := hr
  obtain ⟨d1, d2⟩ := div_small (size - 1) u h3 (by omega)
  have hz0 : (size == 0) = false := by simp; omega
  have a1 := Int.emod_nonneg ((size - 1) / u % s + t) (by omega : s ≠ 0)
  have a2 := Int.emod_lt_of_pos ((size - 1) / u % s + t) (by omega : 0 < s)
  obtain ⟨C, hC⟩ : ∃ C, ((size - 1) / u % s + t) % s = C := ⟨_, rfl⟩
  have b1 := Int.emod_nonneg (C - (server - 1)) (by omega : s ≠ 0)
  have b2 := Int.emod_lt_of_pos (C - (server - 1)) (by omega : 0 < s)
  have HG : Hid (backBy s u t server size = (C - (server - 1)) % s) := Lib.hid (by unfold backBy; rw [hC])
  unfold backBy at hb
  rw [hC] at a1 a2 hb
  have hU1 : 0 ≤ ((size - 1) / u - (C - (server - 1)) % s) := by omega
  have hU2 : ((size - 1) / u - (C - (server - 1)) % s) ≤ (size - 1) / u := by omega
  have hq : ((size - 1) / u - (C - (server - 1)) % s) * u ≤ (size - 1) / u * u := Int.mul_le_mul_of_nonneg_right hU2 (by omega)
  have hq1 : (size - 1) / u * u ≤ size - 1 := Int.ediv_mul_le (size - 1) (by omega)
  have hq2 : 0 ≤ ((size - 1) / u - (C - (server - 1)) % s) * u := Int.mul_nonneg hU1 (by omega)
  have hq4 : ((size - 1) / u - (C - (server - 1)) % s) * u ≤ 1024 := by omega
  have hq5 : 1 ≤ size - ((size - 1) / u - (C - (server - 1)) % s) * u := by omega
  obtain ⟨d3, d4⟩ := div_small ((size - 1) / u - (C - (server - 1)) % s) s h1 hU1
  have hv : ((size - 1) / u - (C - (server - 1)) % s) / s * u ≤ ((size - 1) / u - (C - (server - 1)) % s) * u := Int.mul_le_mul_of_nonneg_right d4 (by omega)
  have hv0 : 0 ≤ ((size - 1) / u - (C - (server - 1)) % s) / s * u := Int.mul_nonneg d3 (by omega)
  clear hq hq1
  unfold backBy at hm
  rw [hC] at hm
  have HC := Lib.hid hC
  clear hC
  go_enter Try.func17, Try.ntmps17
  go_wp2_with fail
  refine (right_yes s u t _ HR.out).mono ?_
  rintro e w1 ⟨rfl, hb1⟩
  have HK1 := Lib.hid (below_old (alloc_at w _) hb1)
  have HB1 := Lib.hid (bt (below_alloc1 w _) hb1)
  clear hb1
  have c1 := blk3 HK1.out
  go_wp2_with fail
  refine (spot_any s u t ((size - 1) / u) _ HR.out d1 (by omega)).mono ?_
  rintro e w2 ⟨a, b, rfl, ia, ib, hb2⟩
  rw [HC.out] at ia
  have t1 := fun W => run_convert_float_int (P := Try.prog) W 44 3 .f64 .i64 a C rfl Try.underlying3 (toInt_int ia (by omega) (by omega))
  have HK2 := Lib.hid (below_old HK1.out hb2)
  have HB2 := Lib.hid (bt HB1.out hb2)
  clear hb2 c1 ia ib
  have c2 := blk3 HK2.out
  go_wp2_with fail
  have hq2' : IntKind.i64.wrap (((size - 1) / u - (C - (server - 1)) % s) / s * u) = ((size - 1) / u - (C - (server - 1)) % s) / s * u := IntWalk.i64_in _ (by omega)
  have hq3' : IntKind.i64.wrap (((size - 1) / u - (C - (server - 1)) % s) / s * u + (size - ((size - 1) / u - (C - (server - 1)) % s) * u)) = ((size - 1) / u - (C - (server - 1)) % s) / s * u + (size - ((size - 1) / u - (C - (server - 1)) % s) * u) := IntWalk.i64_in _ (by omega)
  go_region_held3 (fun w' => w'.cell? ⟨w.heap.size, 0, none⟩ = some (.int .i64 s) ∧ w'.cell? ⟨w.heap.size, 1, none⟩ = some (.int .i64 u) ∧ w'.cell? ⟨w.heap.size, 2, none⟩ = some (.int .i64 t))
    (first | go_keep | exact ⟨(blk3 (below_old HK2.out (ud hb3))).1, (blk3 (below_old HK2.out (ud hb3))).2.2.1, (blk3 (below_old HK2.out (ud hb3))).2.2.2.2.1⟩)
    (first | (go_at_call 24; refine (spot_any s u t ((size - 1) / u - (C - (server - 1)) % s) _ HR.out (by omega) (by omega)).mono ?_; rintro e w3 ⟨a2, b2, rfl, ia2, ib2, hb3⟩; have t2 := fun W => run_convert_float_int (P := Try.prog) W 44 3 .f64 .i64 b2 (((size - 1) / u - (C - (server - 1)) % s) / s) rfl Try.underlying3 (toInt_int ib2 (by omega) (by omega))))
  go_wp2
  go_ret2
  exact ⟨by rw [HG.out]; rfl, bt HB2.out (ud hb3)⟩

theorem length_no (s u t server size : Int) (w : World) (h : ¬ MayLen s u t server size) : Calls Try.prog 17 #[mapV s u t, .int .i64 server, .int .i64 size] w fun e w' =>
    e = .returned (.tuple #[.int .i64 0, .int .i64 1]) ∧ Below w.heap.size w w' := by
  by_cases hr : RightM s u t
  · have HR := Lib.hid hr
    by_cases k1 : 1 ≤ server
    · by_cases k2 : server ≤ s
      · by_cases k3 : 0 ≤ size
        · have k4 : 1024 < size := by
            rcases Int.lt_or_le 1024 size with g | g
            · exact g
            · exact absurd ⟨hr, k1, k2, k3, g⟩ h
          have k5 : decide (1024 < size) = true := by simp; omega
          clear h hr
          go_enter Try.func17, Try.ntmps17
          go_wp2_with (go_at_call 20; refine (right_yes s u t _ HR.out).mono ?_; rintro e w1 ⟨rfl, hb1⟩; have HB1 := Lib.hid (bt (below_alloc1 w _) hb1); have c1 := blk3 (below_old (alloc_at w _) hb1); clear hb1)
          go_ret2
          exact ⟨rfl, HB1.out⟩
        · have k4 : decide (size < 0) = true := by simp; omega
          clear h hr
          go_enter Try.func17, Try.ntmps17
          go_wp2_with (go_at_call 20; refine (right_yes s u t _ HR.out).mono ?_; rintro e w1 ⟨rfl, hb1⟩; have HB1 := Lib.hid (bt (below_alloc1 w _) hb1); have c1 := blk3 (below_old (alloc_at w _) hb1); clear hb1)
          go_ret2
          exact ⟨rfl, HB1.out⟩
      · have k4 : decide (s < server) = true := by simp; omega
        clear h hr
        go_enter Try.func17, Try.ntmps17
        go_wp2_with (go_at_call 20; refine (right_yes s u t _ HR.out).mono ?_; rintro e w1 ⟨rfl, hb1⟩; have HB1 := Lib.hid (bt (below_alloc1 w _) hb1); have c1 := blk3 (below_old (alloc_at w _) hb1); clear hb1)
        go_ret2
        exact ⟨rfl, HB1.out⟩
    · have k4 : decide (server < 1) = true := by simp; omega
      clear h hr
      go_enter Try.func17, Try.ntmps17
      go_wp2_with (go_at_call 20; refine (right_yes s u t _ HR.out).mono ?_; rintro e w1 ⟨rfl, hb1⟩; have HB1 := Lib.hid (bt (below_alloc1 w _) hb1); have c1 := blk3 (below_old (alloc_at w _) hb1); clear hb1)
      go_ret2
      exact ⟨rfl, HB1.out⟩
  · have HR := Lib.hid hr
    clear h hr
    go_enter Try.func17, Try.ntmps17
    go_wp2_with (go_at_call 20; refine (right_no s u t _ HR.out).mono ?_; rintro e w1 ⟨rfl, hb1⟩; have HB1 := Lib.hid (bt (below_alloc1 w _) hb1); clear hb1)
    go_ret2
    exact ⟨rfl, HB1.out⟩

/-- how long the server's object is -/
def lenOf (s u t server size : Int) : Int :=
  if size = 0 then 0 else if (size - 1) / u < backBy s u t server size then 0
  else ((size - 1) / u - backBy s u t server size) / s * u + min u (size - ((size - 1) / u - backBy s u t server size) * u)

theorem length_yes (s u t server size : Int) (w : World) (h : MayLen s u t server size) : Calls Try.prog 17 #[mapV s u t, .int .i64 server, .int .i64 size] w fun e w' =>
    e = .returned (.tuple #[.int .i64 (lenOf s u t server size), .int .i64 0]) ∧ Below w.heap.size w w' := by
  unfold lenOf
  by_cases hz : size = 0
  · subst hz; rw [if_pos rfl]; exact length_nil s u t server w h.1 h.2.1 h.2.2.1
  · rw [if_neg hz]
    have hz1 : 1 ≤ size := by have := h.2.2.2.1; omega
    by_cases hb : (size - 1) / u < backBy s u t server size
    · rw [if_pos hb]; exact length_none s u t server size w h hz1 hb
    · rw [if_neg hb]
      by_cases hm : u ≤ size - ((size - 1) / u - backBy s u t server size) * u
      · rw [Int.min_eq_left hm]; exact length_full s u t server size w h hz1 (by omega) hm
      · rw [Int.min_eq_right (by omega)]; exact length_part s u t server size w h hz1 (by omega) (by omega)
end Go.Proofs.Ytaipmnelcpilaaa.Stripe
