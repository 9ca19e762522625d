/- Operations on floats that are no numbers draw a no number; the walk of the law GaugeBack. -/
import Derived.Test.YtfecgfefchdapaaDoorGl
namespace Go.Proofs.YtfecgfefchdapaaDoor
set_option linter.unusedVariables false
set_option linter.unusedSimpArgs false
open Go.RowKit FL Go.Shelf Ieee Go.Proofs.YtfecgfefchdapaaDoorW.PrintWords

/-- the no number that the tape tells -/
def nanV (x y : Nat) (w : World) : Nat := Question.cut (.nanBits .f64 x y) (w.tape w.drawn (.nanBits .f64 x y))
theorem nanV_is (x y : Nat) (w : World) : 9218868437227405312 < nanV x y w % 9223372036854775808 ∧ nanV x y w < 18446744073709551616 := by
  have h : ∀ t : Nat, 9218868437227405312 < Question.cut (.nanBits .f64 x y) t % 9223372036854775808 ∧ Question.cut (.nanBits .f64 x y) t < 18446744073709551616 := by
    intro t
    show 9218868437227405312 < ((t % 2) * 2 ^ 63 + 0x7ff0000000000000 + 1 + (t / 2) % (2 ^ 52 - 1)) % 9223372036854775808 ∧ ((t % 2) * 2 ^ 63 + 0x7ff0000000000000 + 1 + (t / 2) % (2 ^ 52 - 1)) < 18446744073709551616
    rw [show (2 : Nat) ^ 63 = 9223372036854775808 from by decide, show (2 : Nat) ^ 52 - 1 = 4503599627370495 from by decide, show (0x7ff0000000000000 : Nat) = 9218868437227405312 from rfl]
    have h1 := Nat.mod_lt (t / 2) (show 0 < 4503599627370495 by decide)
    have h2 : t % 2 = 0 ∨ t % 2 = 1 := by omega
    generalize t / 2 % 4503599627370495 = f at *
    rcases h2 with h2 | h2
    · rw [h2]; omega
    · rw [h2]; omega
  exact h _
theorem run_nan (op : BinOp) (t : TypeId) (x y : Nat) (w : World) (ho : op = .add ∨ op = .sub ∨ op = .mul ∨ op = .quo) (h : floatBits op .f64 x y = none) :
    (binOp op t (.float .f64 x) (.float .f64 y)).run Tryd.prog w = .ok (.float .f64 (nanV x y w)) w.drew := by
  unfold floatBits at h
  rcases ho with rfl | rfl | rfl | rfl <;> simp only at h <;> simp [binOp, Op.floatArith, h] <;> rfl
theorem nan_isn (W : Nat) (h : 9218868437227405312 < W % 9223372036854775808) (hW : W < 18446744073709551616) : isn W = true := by
  rw [isn_key W hW]
  unfold key
  rw [if_pos h]
  rfl
theorem nan_ord (W V : Nat) (h : 9218868437227405312 < W % 9223372036854775808) (hW : W < 18446744073709551616) (hV : V < 18446744073709551616) (o : Ordering) : (FloatKind.f64.format.order W V == some o) = false := by
  rw [ord_key _ _ hW hV]
  have e : key W = none := by unfold key; rw [if_pos h]
  rw [e]
  rfl
theorem nan_ne (W V : Nat) (h : 9218868437227405312 < W % 9223372036854775808) (hW : W < 18446744073709551616) (hV : V < 18446744073709551616) (o : Ordering) : (FloatKind.f64.format.order W V != some o) = true := by
  have := nan_ord W V h hW hV o
  simp only [bne, this]
  rfl

/-- a word that is no number -/
theorem back_nan (W : Nat) (wd : World) (C1 : Calls Tryd.prog 9 #[] wd fun e w' => e = .returned (.bool true) ∧ wd = w')
    (C2 : Calls Tryd.prog 10 #[.float .f64 W] wd fun e w' => e = .returned (.tuple #[.int .i64 0, .int .i64 0, .int .i64 3]) ∧ wd = w')
    (fb : ∀ w, (callFunc 11 #[.int .u64 (W : Int)]).run Tryd.prog w = .ok (.value (.float .f64 W)) w)
    (h1 : (FloatKind.f64.format.order W W != some .eq) = true) (h2 : (FloatKind.f64.format.order W 0 == some .gt) = false) :
    Calls Tryd.prog 5 #[.int .u64 (W : Int)] wd fun e w' => e = .returned (.bool true) ∧ Grown wd w' := by
  go_enter Tryd.func5, Tryd.ntmps5
  go_wp2_with (first | (go_at_call 9; refine C1.mono ?_; rintro e w' ⟨rfl, rfl⟩) | (go_at_call 10; refine C2.mono ?_; rintro e w' ⟨rfl, rfl⟩))
  go_ret
  exact ⟨rfl, Grown.refl _⟩
/-- an infinity -/
theorem back_inf (W : Nat) (p : Int) (g : Bool) (wd : World) (hp : (p = 1 ∧ g = true) ∨ (p = 2 ∧ g = false)) (C1 : Calls Tryd.prog 9 #[] wd fun e w' => e = .returned (.bool true) ∧ wd = w')
    (C2 : Calls Tryd.prog 10 #[.float .f64 W] wd fun e w' => e = .returned (.tuple #[.int .i64 0, .int .i64 0, .int .i64 p]) ∧ wd = w')
    (fb : ∀ w, (callFunc 11 #[.int .u64 (W : Int)]).run Tryd.prog w = .ok (.value (.float .f64 W)) w)
    (hs : ∀ t w, (binOp .sub t (.float .f64 W) (.float .f64 W)).run Tryd.prog w = .ok (.float .f64 (nanV W W w)) w.drew)
    (h1 : (FloatKind.f64.format.order W W != some .eq) = false) (h2 : (FloatKind.f64.format.order W 0 == some .gt) = g) (h3 : ∀ w, (FloatKind.f64.format.order (nanV W W w) 0 != some .eq) = true) :
    Calls Tryd.prog 5 #[.int .u64 (W : Int)] wd fun e w' => e = .returned (.bool true) ∧ w' = wd.drew := by
  rcases hp with ⟨rfl, rfl⟩ | ⟨rfl, rfl⟩
  all_goals
    go_enter Tryd.func5, Tryd.ntmps5
    go_wp2_with (first | (go_at_call 9; refine C1.mono ?_; rintro e w' ⟨rfl, rfl⟩) | (go_at_call 10; refine C2.mono ?_; rintro e w' ⟨rfl, rfl⟩))
    go_ret
    exact ⟨rfl, rfl⟩
/-- a number -/
theorem back_num (W V : Nat) (m x : Int) (wd : World) (C1 : Calls Tryd.prog 9 #[] wd fun e w' => e = .returned (.bool true) ∧ wd = w')
    (C2 : Calls Tryd.prog 10 #[.float .f64 W] wd fun e w' => e = .returned (.tuple #[.int .i64 m, .int .i64 x, .int .i64 0]) ∧ wd = w')
    (C3 : Calls Tryd.prog 14 #[.int .i64 m, .int .i64 x] wd fun e w' => e = .returned (.float .f64 V) ∧ wd = w')
    (fb : ∀ w, (callFunc 11 #[.int .u64 (W : Int)]).run Tryd.prog w = .ok (.value (.float .f64 W)) w)
    (hs : ∀ t w, (binOp .sub t (.float .f64 W) (.float .f64 W)).run Tryd.prog w = .ok (.float .f64 0) w)
    (h1 : (FloatKind.f64.format.order W W != some .eq) = false) (h3 : (FloatKind.f64.format.order 0 0 != some .eq) = false) (h4 : (FloatKind.f64.format.order V W == some .eq) = true)
    (hm : (bits .and .i64 m 1 == 1) = true) :
    Calls Tryd.prog 5 #[.int .u64 (W : Int)] wd fun e w' => e = .returned (.bool true) ∧ w' = wd := by
  go_enter Tryd.func5, Tryd.ntmps5
  go_wp2_with (first | (go_at_call 9; refine C1.mono ?_; rintro e w' ⟨rfl, rfl⟩) | (go_at_call 10; refine C2.mono ?_; rintro e w' ⟨rfl, rfl⟩) | (go_at_call 14; refine C3.mono ?_; rintro e w' ⟨rfl, rfl⟩))
  go_ret
  exact ⟨rfl, rfl⟩
/-- a zero -/
theorem back_zero (W : Nat) (wd : World) (C1 : Calls Tryd.prog 9 #[] wd fun e w' => e = .returned (.bool true) ∧ wd = w')
    (C2 : Calls Tryd.prog 10 #[.float .f64 W] wd fun e w' => e = .returned (.tuple #[.int .i64 0, .int .i64 0, .int .i64 0]) ∧ wd = w')
    (C3 : Calls Tryd.prog 14 #[.int .i64 0, .int .i64 0] wd fun e w' => e = .returned (.float .f64 0) ∧ wd = w')
    (fb : ∀ w, (callFunc 11 #[.int .u64 (W : Int)]).run Tryd.prog w = .ok (.value (.float .f64 W)) w)
    (hs : ∀ t w, (binOp .sub t (.float .f64 W) (.float .f64 W)).run Tryd.prog w = .ok (.float .f64 0) w)
    (h1 : (FloatKind.f64.format.order W W != some .eq) = false) (h3 : (FloatKind.f64.format.order 0 0 != some .eq) = false) (h4 : (FloatKind.f64.format.order 0 W == some .eq) = true) (h5 : (FloatKind.f64.format.order W 0 == some .eq) = true) :
    Calls Tryd.prog 5 #[.int .u64 (W : Int)] wd fun e w' => e = .returned (.bool true) ∧ w' = wd := by
  go_enter Tryd.func5, Tryd.ntmps5
  go_wp2_with (first | (go_at_call 9; refine C1.mono ?_; rintro e w' ⟨rfl, rfl⟩) | (go_at_call 10; refine C2.mono ?_; rintro e w' ⟨rfl, rfl⟩) | (go_at_call 14; refine C3.mono ?_; rintro e w' ⟨rfl, rfl⟩))
  go_ret
  exact ⟨rfl, rfl⟩
theorem ord_self (s : Bool) (r : Nat) (hr : r ≤ 9218868437227405312) : (FloatKind.f64.format.order (word s r) (word s r) == some .eq) = true := by
  have h2 := (word_mod s r (by omega)).2
  rw [ord_key _ _ h2 h2, key_word s r hr]
  simp only [cmpKey]
  rw [Int.compare_eq_eq.2 rfl]
  rfl
theorem ne_self (s : Bool) (r : Nat) (hr : r ≤ 9218868437227405312) : (FloatKind.f64.format.order (word s r) (word s r) != some .eq) = false := by
  have := ord_self s r hr
  simp only [bne, this]
  rfl
/-- a number less itself -/
theorem sub_self (s : Bool) (r : Nat) (hr : r < 9218868437227405312) : floatBits .sub .f64 (word s r) (word s r) = some 0 := by
  unfold floatBits
  show Format.sub double (word s r) (word s r) = some 0
  unfold Format.sub
  rw [read_word s r hr]
  generalize (pl r : Int) - 1074 = e
  generalize sg r = m
  have h : Datum.sum (.number s m e) (Datum.opposite (.number s m e)) = some (.number false 0 e) := by
    have e1 : Datum.opposite (.number s m e) = .number (!s) m e := rfl
    rw [e1]
    simp only [Datum.sum]
    have hb : min e e = e := by omega
    have ht : signed s m (e - min e e).toNat + signed (!s) m (e - min e e).toNat = 0 := by
      unfold signed
      cases s
      · simp only [Bool.not_false, Bool.false_eq_true, if_false, if_true]; omega
      · simp only [Bool.not_true, Bool.false_eq_true, if_false, if_true]; omega
    rw [ht, hb]
    cases s <;> rfl
  rw [h]
  show some (double.write (.number false 0 e)) = some 0
  unfold Format.write
  simp only
  rw [nearest_rung, rung_zero]
  rfl
theorem sub_inf (s : Bool) : floatBits .sub .f64 (word s 9218868437227405312) (word s 9218868437227405312) = none := by
  cases s <;> decide +kernel
theorem i64_and1 (n : Int) : bits .and .i64 n 1 = n % 2 := by
  have h127 : (BitVec.ofInt 64 1).toNat = 2 ^ 1 - 1 := by decide
  have key : (BitVec.ofInt 64 n &&& BitVec.ofInt 64 1).toNat = (n % ((2 ^ 64 : Nat) : Int)).toNat % 2 ^ 1 := by
    rw [BitVec.toNat_and, BitVec.toNat_ofInt, h127, Nat.and_two_pow_sub_one_eq_mod]
  show IntKind.i64.wrap ((BitVec.ofInt 64 n &&& BitVec.ofInt 64 1).toNat : Nat) = n % 2
  rw [key, IntKind.wrap_i64]
  omega
/-- made again from its parts -/
theorem mk_parts (s : Bool) (r : Nat) (h0 : 0 < r) (hr : r < 9218868437227405312) : mkV (ptN s r).1 (ptN s r).2.1 = word s r ∧ (ptN s r).1 % 2 = 1 ∧ -9223372036854775808 ≤ (ptN s r).1 ∧ (ptN s r).1 < 9223372036854775808 := by
  obtain ⟨o, t, h1, h2⟩ := ptN_ex r h0
  rw [ptN_of s r o t h1 h2]
  have hs := sg_lt r
  have ho : o ≤ sg r := by
    rw [h1]
    exact Nat.le_mul_of_pos_right _ (Nat.two_pow_pos _)
  have e : rung o ((pl r : Int) - 1074 + t) = r := by
    refine rung_exact o _ 0 r (by omega) (by omega) ?_
    rw [show ((pl r : Int) - 1074 + t + 1074 + (0 : Nat)).toNat = pl r + t by omega, Nat.pow_zero, Nat.mul_one]
    unfold vv
    rw [h1, Nat.mul_assoc, ← Nat.pow_add, Nat.add_comm]
  unfold mkV
  simp only
  cases s
  · simp only [Bool.false_eq_true, if_false]
    rw [decide_eq_false (by omega), show ((o : Nat) : Int).natAbs = o by omega, e]
    exact ⟨rfl, by omega, by omega, by omega⟩
  · simp only [if_true]
    rw [decide_eq_true (by omega), show (-(o : Int)).natAbs = o by omega, e]
    exact ⟨rfl, by omega, by omega, by omega⟩
theorem law_back (W : Nat) (hW : W < 18446744073709551616) (wd : World) (hT : TabAt 1 Lib.deBruijn64tab wd) :
    Calls Tryd.prog 5 #[.int .u64 (W : Int)] wd fun e w' => e = .returned (.bool true) ∧ Grown wd w' := by
  have C1 := awake_any wd hT
  have C2 := parts_any W hW wd hT
  have hz : (FloatKind.f64.format.order 0 0 != some .eq) = false := by decide +kernel
  rcases word_split W hW with h | ⟨s, r, rfl, hr⟩
  · rw [ptV_nan W h] at C2
    exact back_nan W wd C1 C2 (fb_nat W) (nan_ne W W h hW hW _) (nan_ord W 0 h hW (by decide) _)
  · by_cases h1 : r = 9218868437227405312
    · subst h1
      rw [ptV_inf] at C2
      have hs : ∀ t w, (binOp .sub t (.float .f64 (word s 9218868437227405312)) (.float .f64 (word s 9218868437227405312))).run Tryd.prog w = .ok (.float .f64 (nanV _ _ w)) w.drew :=
        fun t w => run_nan .sub t _ _ w (.inr (.inl rfl)) (sub_inf s)
      have hn := ne_self s 9218868437227405312 hr
      have h3 : ∀ w, (FloatKind.f64.format.order (nanV (word s 9218868437227405312) (word s 9218868437227405312) w) 0 != some .eq) = true :=
        fun w => nan_ne _ 0 (nanV_is _ _ w).1 (nanV_is _ _ w).2 (by decide) _
      refine (back_inf _ (if s then 2 else 1) (!s) wd (by cases s <;> simp) C1 C2 (fb_nat _) hs hn (by cases s <;> decide +kernel) h3).mono ?_
      rintro e w' ⟨h4, rfl⟩
      exact ⟨h4, (Grown.refl wd).drew⟩
    · have hr2 : r < 9218868437227405312 := by omega
      have hs : ∀ t w, (binOp .sub t (.float .f64 (word s r)) (.float .f64 (word s r))).run Tryd.prog w = .ok (.float .f64 0) w :=
        fun t w => run_float_arith w .sub t .f64 _ _ _ (sub_self s r hr2)
      have hn := ne_self s r hr
      by_cases h0 : r = 0
      · subst h0
        rw [ptV_zero] at C2
        refine (back_zero _ wd C1 C2 (mk_zero 0 wd) (fb_nat _) hs hn hz (by cases s <;> decide +kernel) (by cases s <;> decide +kernel)).mono ?_
        rintro e w' ⟨h4, rfl⟩
        exact ⟨h4, Grown.refl _⟩
      · rw [ptV_num s r (by omega) hr2] at C2
        obtain ⟨h2, h3, h4, h5⟩ := mk_parts s r (by omega) hr2
        have C3 := make_any (ptN s r).1 (ptN s r).2.1 ⟨h4, h5⟩ wd
        rw [h2] at C3
        refine (back_num _ _ _ _ wd C1 C2 C3 (fb_nat _) hs hn hz (ord_self s r hr) (by rw [i64_and1, h3]; rfl)).mono ?_
        rintro e w' ⟨h4, rfl⟩
        exact ⟨h4, Grown.refl _⟩
theorem back_row (a : Int) (h : 0 ≤ a ∧ a ≤ 18446744073709551615) (wd : World) (hT : TabAt 1 Lib.deBruijn64tab wd) :
    Calls Tryd.prog 5 #[.int .u64 a] wd fun e w' => e = .returned (.bool true) ∧ Grown wd w' := by
  obtain ⟨b, rfl⟩ : ∃ b : Nat, a = b := ⟨a.toNat, by omega⟩
  exact law_back b (by omega) wd hT
end Go.Proofs.YtfecgfefchdapaaDoor

