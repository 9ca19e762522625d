/- The contracts of Blend (the program's and the reference's), of same, of a running mean's methods. The walk of the law GaugeMeans. The walk of the law GaugeMeans. -/
import Derived.Test.YtfecgfefchdapaaDoorBk
import Derived.Below
import Derived.Laws.OwnMore
import Derived.Deep.DeepCutAuto
import Derived.Deep.QuietTactic
import Derived.BigQuiet
import Derived.Deep.LoopGhost
import Derived.Laws.CopyOwn
import Derived.Laws.Rows
import Derived.OneCell
import Derived.OpenShut
namespace Go.Proofs.YtfecgfefchdapaaDoor
set_option linter.unusedVariables false
set_option linter.unusedSimpArgs false
open Go.RowKit FL Go.Shelf Ieee Go.Proofs.YtfecgfefchdapaaDoorW.PrintWords

theorem read_of_isn (W : Nat) (hW : W < 18446744073709551616) (h : isn W = true) : ∃ s f, double.read W = .nan s f := by
  rcases word_cases W hW with ⟨_, h1⟩ | ⟨s, k1, _⟩ | ⟨s, r, _, k1, _⟩
  · exact h1
  · rw [isn_key W hW, k1] at h; cases h
  · rw [isn_key W hW, k1] at h; cases h
theorem nan_none (op : BinOp) (x y : Nat) (hx : x < 18446744073709551616) (hy : y < 18446744073709551616) (h : isn x = true ∨ isn y = true) : floatBits op .f64 x y = none := by
  have e : FloatKind.format .f64 = double := rfl
  rcases h with h | h
  · obtain ⟨s, f, hr⟩ := read_of_isn x hx h
    unfold floatBits
    rw [e]
    cases op <;> simp only [Format.add, Format.sub, Format.mul, Format.div, hr, Datum.sum, Datum.product, Datum.quotient, Option.map_none]
  · obtain ⟨s, f, hr⟩ := read_of_isn y hy h
    unfold floatBits
    rw [e]
    cases op <;> simp only [Format.add, Format.sub, Format.mul, Format.div, hr]
    all_goals (cases double.read x <;> rfl)
theorem sum_comm (a b : Datum) : Datum.sum a b = Datum.sum b a := by
  cases a with
  | nan s f => cases b <;> rfl
  | infinity s =>
    cases b with
    | nan t g => rfl
    | infinity t => cases s <;> cases t <;> rfl
    | number t n j => rfl
  | number s m i =>
    cases b with
    | nan t g => rfl
    | infinity t => rfl
    | number t n j =>
      simp only [Datum.sum]
      rw [Int.min_comm j i, Int.add_comm (signed t n _), Bool.and_comm t s]
theorem add_comm' (x y : Nat) : floatBits .add .f64 x y = floatBits .add .f64 y x := by
  unfold floatBits
  show (Datum.sum _ _).map _ = (Datum.sum _ _).map _
  rw [sum_comm]
theorem bits_lt {op : BinOp} {x y r : Nat} (h : floatBits op .f64 x y = some r) : r < 18446744073709551616 := by
  have h2 := floatBits_wf h
  simpa [Lit.wf, FloatKind.format, Format.width, double] using h2
/-- what Blend works out, where every step has an answer -/
def blV (x y : Nat) : Option Nat := (floatBits .sub .f64 y x).bind fun d => (floatBits .quo .f64 d 4616189618054758400).bind fun q => floatBits .add .f64 x q
def BlR (x y r : Nat) : Prop := r < 18446744073709551616 ∧ ((∃ v, blV x y = some v ∧ r = v) ∨ (blV x y = none ∧ isn r = true))
theorem run_op {op : BinOp} (ho : op = .add ∨ op = .sub ∨ op = .mul ∨ op = .quo) (x y : Nat) : (∃ r, floatBits op .f64 x y = some r ∧ ∀ t w, (binOp op t (.float .f64 x) (.float .f64 y)).run Tryd.prog w = .ok (.float .f64 r) w) ∨
    (floatBits op .f64 x y = none ∧ ∀ t w, (binOp op t (.float .f64 x) (.float .f64 y)).run Tryd.prog w = .ok (.float .f64 (nanV x y w)) w.drew) := by
  cases h : floatBits op .f64 x y with
  | some r => exact .inl ⟨r, rfl, fun t w => run_float_arith w op t .f64 x y r h⟩
  | none => exact .inr ⟨rfl, fun t w => run_nan op t x y w ho h⟩
theorem nanV_isn (x y : Nat) (w : World) : isn (nanV x y w) = true := nan_isn _ (nanV_is x y w).1 (nanV_is x y w).2
theorem drawn1 (w : World) : Drawn0 w w.drew := (Drawn0.refl w).step 1

theorem blend_any (x y : Nat) (hx : x < 18446744073709551616) (hy : y < 18446744073709551616) (wd : World) :
    Calls Tryd.prog 20 #[.float .f64 x, .float .f64 y] wd fun e w' => ∃ r, e = .returned (.float .f64 r) ∧ BlR x y r ∧ Drawn0 wd w' := by
  rcases run_op (.inr (.inl rfl)) y x with ⟨d, hd, rd⟩ | ⟨hd, rd⟩
  · rcases run_op (.inr (.inr (.inr rfl))) d 4616189618054758400 with ⟨q, hq, rq⟩ | ⟨hq, rq⟩
    · rcases run_op (.inl rfl) x q with ⟨v, hv, rv⟩ | ⟨hv, rv⟩
      · have hb : BlR x y v := ⟨bits_lt hv, .inl ⟨v, by simp [blV, hd, hq, hv], rfl⟩⟩
        have HB := Lib.hid hb
        clear hd hq hv hb hx hy
        go_enter Tryd.func20, Tryd.ntmps20
        go_wp2_with fail
        go_ret
        exact ⟨_, rfl, HB.out, Drawn0.refl _⟩
      · have hb : ∀ w, BlR x y (nanV x q w) := fun w => ⟨(nanV_is _ _ w).2, .inr ⟨by simp [blV, hd, hq, hv], nanV_isn _ _ w⟩⟩
        have HB := Lib.hid hb
        clear hd hq hv hb hx hy
        go_enter Tryd.func20, Tryd.ntmps20
        go_wp2_with fail
        go_ret
        exact ⟨_, rfl, HB.out _, drawn1 _⟩
    · have hn : ∀ w, floatBits .add .f64 x (nanV d 4616189618054758400 w) = none := fun w => nan_none _ _ _ hx (nanV_is _ _ w).2 (.inr (nanV_isn _ _ w))
      have rv : ∀ w' t w, (binOp .add t (.float .f64 x) (.float .f64 (nanV d 4616189618054758400 w'))).run Tryd.prog w = .ok (.float .f64 (nanV x (nanV d 4616189618054758400 w') w)) w.drew :=
        fun w' t w => run_nan .add t _ _ w (.inl rfl) (hn w')
      have hb : ∀ w a, BlR x y (nanV x a w) := fun w a => ⟨(nanV_is _ _ w).2, .inr ⟨by simp [blV, hd, hq], nanV_isn _ _ w⟩⟩
      have HB := Lib.hid hb
      clear hd hq hn hb hx hy
      go_enter Tryd.func20, Tryd.ntmps20
      go_wp2_with fail
      go_ret
      exact ⟨_, rfl, HB.out _ _, (drawn1 _).step 1⟩
  · have hn1 : ∀ w, floatBits .quo .f64 (nanV y x w) 4616189618054758400 = none := fun w => nan_none _ _ _ (nanV_is _ _ w).2 (by decide) (.inl (nanV_isn _ _ w))
    have rq : ∀ w' t w, (binOp .quo t (.float .f64 (nanV y x w')) (.float .f64 4616189618054758400)).run Tryd.prog w = .ok (.float .f64 (nanV (nanV y x w') 4616189618054758400 w)) w.drew :=
      fun w' t w => run_nan .quo t _ _ w (.inr (.inr (.inr rfl))) (hn1 w')
    have hn2 : ∀ a w, floatBits .add .f64 x (nanV a 4616189618054758400 w) = none := fun a w => nan_none _ _ _ hx (nanV_is _ _ w).2 (.inr (nanV_isn _ _ w))
    have rv : ∀ a w' t w, (binOp .add t (.float .f64 x) (.float .f64 (nanV a 4616189618054758400 w'))).run Tryd.prog w = .ok (.float .f64 (nanV x (nanV a 4616189618054758400 w') w)) w.drew :=
      fun a w' t w => run_nan .add t _ _ w (.inl rfl) (hn2 a w')
    have hb : ∀ w a, BlR x y (nanV x a w) := fun w a => ⟨(nanV_is _ _ w).2, .inr ⟨by simp [blV, hd], nanV_isn _ _ w⟩⟩
    have HB := Lib.hid hb
    clear hd hn1 hn2 hb hx hy
    go_enter Tryd.func20, Tryd.ntmps20
    go_wp2_with fail
    go_ret
    exact ⟨_, rfl, HB.out _ _, ((drawn1 _).step 1).step 1⟩
theorem rblend_any (x y : Nat) (hx : x < 18446744073709551616) (hy : y < 18446744073709551616) (wd : World) :
    Calls Tryd.prog 23 #[.float .f64 x, .float .f64 y] wd fun e w' => ∃ r, e = .returned (.float .f64 r) ∧ BlR x y r ∧ Drawn0 wd w' := by
  rcases run_op (.inr (.inl rfl)) y x with ⟨d, hd, rd⟩ | ⟨hd, rd⟩
  · rcases run_op (.inr (.inr (.inr rfl))) d 4616189618054758400 with ⟨q, hq, rq⟩ | ⟨hq, rq⟩
    · rcases run_op (.inl rfl) q x with ⟨v, hv, rv⟩ | ⟨hv, rv⟩
      · have hb : BlR x y v := ⟨bits_lt hv, .inl ⟨v, by rw [add_comm'] at hv; simp [blV, hd, hq, hv], rfl⟩⟩
        have HB := Lib.hid hb
        clear hd hq hv hb hx hy
        go_enter Tryd.func23, Tryd.ntmps23
        go_wp2_with fail
        go_ret
        exact ⟨_, rfl, HB.out, Drawn0.refl _⟩
      · have hb : ∀ w, BlR x y (nanV q x w) := fun w => ⟨(nanV_is _ _ w).2, .inr ⟨by rw [add_comm'] at hv; simp [blV, hd, hq, hv], nanV_isn _ _ w⟩⟩
        have HB := Lib.hid hb
        clear hd hq hv hb hx hy
        go_enter Tryd.func23, Tryd.ntmps23
        go_wp2_with fail
        go_ret
        exact ⟨_, rfl, HB.out _, drawn1 _⟩
    · have hn : ∀ w, floatBits .add .f64 (nanV d 4616189618054758400 w) x = none := fun w => nan_none _ _ _ (nanV_is _ _ w).2 hx (.inl (nanV_isn _ _ w))
      have rv : ∀ w' t w, (binOp .add t (.float .f64 (nanV d 4616189618054758400 w')) (.float .f64 x)).run Tryd.prog w = .ok (.float .f64 (nanV (nanV d 4616189618054758400 w') x w)) w.drew :=
        fun w' t w => run_nan .add t _ _ w (.inl rfl) (hn w')
      have hb : ∀ w a, BlR x y (nanV a x w) := fun w a => ⟨(nanV_is _ _ w).2, .inr ⟨by simp [blV, hd, hq], nanV_isn _ _ w⟩⟩
      have HB := Lib.hid hb
      clear hd hq hn hb hx hy
      go_enter Tryd.func23, Tryd.ntmps23
      go_wp2_with fail
      go_ret
      exact ⟨_, rfl, HB.out _ _, (drawn1 _).step 1⟩
  · have hn1 : ∀ w, floatBits .quo .f64 (nanV y x w) 4616189618054758400 = none := fun w => nan_none _ _ _ (nanV_is _ _ w).2 (by decide) (.inl (nanV_isn _ _ w))
    have rq : ∀ w' t w, (binOp .quo t (.float .f64 (nanV y x w')) (.float .f64 4616189618054758400)).run Tryd.prog w = .ok (.float .f64 (nanV (nanV y x w') 4616189618054758400 w)) w.drew :=
      fun w' t w => run_nan .quo t _ _ w (.inr (.inr (.inr rfl))) (hn1 w')
    have hn2 : ∀ a w, floatBits .add .f64 (nanV a 4616189618054758400 w) x = none := fun a w => nan_none _ _ _ (nanV_is _ _ w).2 hx (.inl (nanV_isn _ _ w))
    have rv : ∀ a w' t w, (binOp .add t (.float .f64 (nanV a 4616189618054758400 w')) (.float .f64 x)).run Tryd.prog w = .ok (.float .f64 (nanV (nanV a 4616189618054758400 w') x w)) w.drew :=
      fun a w' t w => run_nan .add t _ _ w (.inl rfl) (hn2 a w')
    have hb : ∀ w a, BlR x y (nanV a x w) := fun w a => ⟨(nanV_is _ _ w).2, .inr ⟨by simp [blV, hd], nanV_isn _ _ w⟩⟩
    have HB := Lib.hid hb
    clear hd hn1 hn2 hb hx hy
    go_enter Tryd.func23, Tryd.ntmps23
    go_wp2_with fail
    go_ret
    exact ⟨_, rfl, HB.out _ _, ((drawn1 _).step 1).step 1⟩
/-- the same bits, or both no numbers -/
def Same (a b : Nat) : Prop := a = b ∨ (isn a = true ∧ isn b = true)
theorem BlR.same {x x' y r r' : Nat} (hx : x < 18446744073709551616) (hx' : x' < 18446744073709551616) (hy : y < 18446744073709551616) (h : Same x x') (h1 : BlR x y r) (h2 : BlR x' y r') : Same r r' := by
  rcases h with rfl | ⟨n1, n2⟩
  · rcases h1.2 with ⟨v, e1, rfl⟩ | ⟨e1, i1⟩
    · rcases h2.2 with ⟨v', e2, rfl⟩ | ⟨e2, i2⟩
      · rw [e1] at e2
        exact .inl (Option.some.inj e2)
      · rw [e1] at e2; cases e2
    · rcases h2.2 with ⟨v', e2, rfl⟩ | ⟨e2, i2⟩
      · rw [e1] at e2; cases e2
      · exact .inr ⟨i1, i2⟩
  · have e1 : blV x y = none := by unfold blV; rw [nan_none .sub y x hy hx (.inr n1)]; rfl
    have e2 : blV x' y = none := by unfold blV; rw [nan_none .sub y x' hy hx' (.inr n2)]; rfl
    refine .inr ⟨?_, ?_⟩
    · rcases h1.2 with ⟨v, e, _⟩ | ⟨_, i⟩
      · rw [e1] at e; cases e
      · exact i
    · rcases h2.2 with ⟨v, e, _⟩ | ⟨_, i⟩
      · rw [e2] at e; cases e
      · exact i
theorem same_any (a b : Nat) (ha : a < 18446744073709551616) (hb : b < 18446744073709551616) (h : Same a b) (wd : World) :
    Calls Tryd.prog 13 #[.float .f64 a, .int .u64 (b : Int)] wd fun e w' => e = .returned (.bool true) ∧ wd = w' := by
  rcases h with rfl | ⟨n1, n2⟩
  · exact same_own a ha wd
  · have fb := fb_nat b
    have h1 : (FloatKind.f64.format.order a a != some .eq) = true := n1
    have h2 : (FloatKind.f64.format.order b b != some .eq) = true := n2
    clear n1 n2 ha hb
    go_enter Tryd.func13, Tryd.ntmps13
    go_wp2_with fail
    go_ret
    exact ⟨rfl, rfl⟩

/-! ### a running mean in memory -/
/-- since w0 nothing below block B has changed; block g is the mean, block h the other, at rest -/
structure MnS (w0 : World) (B g h : Nat) (v : Nat) (n : Int) (w : World) : Prop where
  row : w.heap[g]? = some (.cells #[.float .f64 v, .int .i64 n] 49 (0, 0))
  row2 : w.heap[h]? = some (.cells #[.float .f64 0, .int .i64 0] 49 (0, 0))
  bel : Below B w0 w
  hg : B ≤ g
  hh : B ≤ h
  ne : g ≠ h
section
variable {w0 w w' : World} {B g h v : Nat} {n : Int}
theorem MnS.cell (H : MnS w0 B g h v n w) (i : Nat) : w.cell? ⟨g, i, none⟩ = (#[.float .f64 v, .int .i64 n] : Array Value)[i]? := cell_of_row w g i _ _ _ H.row
theorem MnS.cell2 (H : MnS w0 B g h v n w) (i : Nat) : w.cell? ⟨h, i, none⟩ = (#[.float .f64 0, .int .i64 0] : Array Value)[i]? := cell_of_row w h i _ _ _ H.row2
theorem MnS.free (H : MnS w0 B g h v n w) (i : Nat) : w.frozen? ⟨g, i, none⟩ = false := frozen_of_row w g i _ _ H.row
theorem MnS.lt (H : MnS w0 B g h v n w) : g < w.heap.size := (Array.getElem?_eq_some_iff.1 H.row).1
theorem MnS.lt2 (H : MnS w0 B g h v n w) : h < w.heap.size := (Array.getElem?_eq_some_iff.1 H.row2).1
theorem MnS.later (H : MnS w0 B g h v n w) (hb : Below w.heap.size w w') : MnS w0 B g h v n w' :=
  ⟨(hb.block _ H.lt).trans H.row, (hb.block _ H.lt2).trans H.row2, H.bel.trans (hb.mono (Nat.le_trans H.hg (Nat.le_of_lt H.lt))), H.hg, H.hh, H.ne⟩
theorem MnS.drawn (H : MnS w0 B g h v n w) (hb : Drawn0 w w') : MnS w0 B g h v n w' := H.later hb.below
theorem MnS.put (H : MnS w0 B g h v n w) (i : Nat) (x : Value) (v' : Nat) (n' : Int) (hc : (#[.float .f64 v, .int .i64 n] : Array Value).setIfInBounds i x = #[.float .f64 v', .int .i64 n']) : MnS w0 B g h v' n' (w.setCell ⟨g, i, none⟩ x) := by
  refine ⟨?_, ?_, H.bel.setCell H.hg _, H.hg, H.hh, H.ne⟩
  · rw [heap_setCell_same w g i _ _ _ H.row, hc]
  · rw [Below.heap_setCell _ _ _ _ (Ne.symm H.ne)]
    exact H.row2
theorem MnS.c0 (H : MnS w0 B g h v n w) : w.cell? ⟨g, 0, none⟩ = some (.float .f64 v) := H.cell 0
theorem MnS.c1 (H : MnS w0 B g h v n w) : w.cell? ⟨g, 1, none⟩ = some (.int .i64 n) := H.cell 1
theorem MnS.d0 (H : MnS w0 B g h v n w) : w.cell? ⟨h, 0, none⟩ = some (.float .f64 0) := H.cell2 0
theorem MnS.d1 (H : MnS w0 B g h v n w) : w.cell? ⟨h, 1, none⟩ = some (.int .i64 0) := H.cell2 1
end
theorem count_at (b : Nat) (n : Int) (w : World) (hc : w.cell? ⟨b, 1, none⟩ = some (.int .i64 n)) :
    Calls Tryd.prog 24 #[.pointer (some ⟨b, 0, none⟩)] w fun e w' => e = .returned (.int .i64 n) ∧ w = w' := by
  go_enter Tryd.func24, Tryd.ntmps24
  go_wp2_with fail
  go_ret
  exact ⟨rfl, rfl⟩
theorem value_at (b v : Nat) (w : World) (hc : w.cell? ⟨b, 0, none⟩ = some (.float .f64 v)) :
    Calls Tryd.prog 25 #[.pointer (some ⟨b, 0, none⟩)] w fun e w' => e = .returned (.float .f64 v) ∧ w = w' := by
  go_enter Tryd.func25, Tryd.ntmps25
  go_wp2_with fail
  go_ret
  exact ⟨rfl, rfl⟩
end Go.Proofs.YtfecgfefchdapaaDoor

namespace Go.Proofs.YtfecgfefchdapaaDoor
set_option linter.unusedVariables false
set_option linter.unusedSimpArgs false
open Go.RowKit FL Go.Shelf Ieee Go.Proofs.YtfecgfefchdapaaDoorW.PrintWords

theorem block_add (x : Addr) (i : Nat) : (x.add i).block = x.block := by
  unfold Addr.add
  split <;> rfl
/-- the row of samples -/
def IsRow (k : IntKind) (w : World) (a : Option Addr) (len cap : Nat) (zs : List Int) : Prop :=
  (a = none ∧ len = 0 ∧ cap = 0 ∧ zs = []) ∨
  ∃ x, a = some x ∧ len ≤ cap ∧ cap ≤ maxLen ∧ zs.length = cap ∧ (∀ i, i < zs.length → w.cell? (x.add i) = some (.int k (zs.getD i 0))) ∧ ∀ n ∈ zs, (Lit.int k n).wf = true
theorem IsRow.at_ {k : IntKind} {w : World} {a : Option Addr} {len cap : Nat} {zs : List Int} (h : IsRow k w a len cap zs) (h0 : 0 < len) :
    ∃ x, a = some x ∧ x.block < w.heap.size ∧ len ≤ zs.length ∧ (∀ i, i < len → w.cell? (x.add i) = some (.int k (zs.getD i 0))) ∧ ∀ n ∈ zs, (Lit.int k n).wf = true := by
  rcases h with ⟨_, rfl, _, _⟩ | ⟨x, rfl, h1, _, h2, h3, h4⟩
  · omega
  · have hc := h3 0 (by omega)
    have hb : (x.add 0).block = x.block := block_add x 0
    exact ⟨x, rfl, by rw [← hb]; exact block_lt_of_cell hc, by omega, fun i hi => h3 i (by omega), h4⟩

theorem inf0_at (W A : Nat) (ha : ∀ wd, Calls Tryd.prog 35 #[.float .f64 W] wd fun e w' => e = .returned (.float .f64 A) ∧ wd = w') (hg : (FloatKind.f64.format.order A 9218868437227405311 == some .gt) = true) (wd : World) :
    Calls Tryd.prog 27 #[.float .f64 W, .int .i64 0] wd fun e w' => e = .returned (.bool true) ∧ wd = w' := by
  go_enter Tryd.func27, Tryd.ntmps27
  go_wp2_with (go_at_call 35; refine (ha _).mono ?_; rintro e w' ⟨rfl, rfl⟩)
  go_ret
  exact ⟨rfl, rfl⟩
theorem add_nan (g W : Nat) (w : World) (hnan : ∀ wd, Calls Tryd.prog 26 #[.float .f64 W] wd fun e w' => e = .returned (.bool true) ∧ wd = w') :
    Calls Tryd.prog 21 #[.pointer (some ⟨g, 0, none⟩), .float .f64 W] w fun e w' => e = .returned (.int .i64 40) ∧ w = w' := by
  go_enter Tryd.func21, Tryd.ntmps21
  go_wp2_with (go_at_call 26; refine (hnan _).mono ?_; rintro e w' ⟨rfl, rfl⟩)
  go_ret
  exact ⟨rfl, rfl⟩
theorem add_inf (g W : Nat) (w : World) (hnan : ∀ wd, Calls Tryd.prog 26 #[.float .f64 W] wd fun e w' => e = .returned (.bool false) ∧ wd = w')
    (hinf : ∀ wd, Calls Tryd.prog 27 #[.float .f64 W, .int .i64 0] wd fun e w' => e = .returned (.bool true) ∧ wd = w') :
    Calls Tryd.prog 21 #[.pointer (some ⟨g, 0, none⟩), .float .f64 W] w fun e w' => e = .returned (.int .i64 40) ∧ w = w' := by
  go_enter Tryd.func21, Tryd.ntmps21
  go_wp2_with (first | (go_at_call 26; refine (hnan _).mono ?_; rintro e w' ⟨rfl, rfl⟩) | (go_at_call 27; refine (hinf _).mono ?_; rintro e w' ⟨rfl, rfl⟩))
  go_ret
  exact ⟨rfl, rfl⟩
/-- a word that is no number or infinite is refused -/
theorem add_bad (g W : Nat) (hW : W < 18446744073709551616) (hc : (ptV W).2.2 ≠ 0) (w : World) :
    Calls Tryd.prog 21 #[.pointer (some ⟨g, 0, none⟩), .float .f64 W] w fun e w' => e = .returned (.int .i64 40) ∧ w = w' := by
  have hnan := fun wd => isNaN_any W wd
  rcases word_split W hW with h | ⟨s, r, rfl, hr⟩
  · rw [nan_isn W h hW] at hnan
    exact add_nan g W w hnan
  · rw [isn_word s r hr] at hnan
    by_cases h1 : r = 9218868437227405312
    · subst h1
      exact add_inf g _ w hnan (fun wd => inf0_at _ _ (fun wd => abs_any s _ (by decide) wd) (by decide +kernel) wd)
    · exfalso
      by_cases h0 : r = 0
      · subst h0
        rw [ptV_zero] at hc
        exact hc rfl
      · rw [ptV_num s r (by omega) (by omega)] at hc
        exact hc rfl
theorem fin_of (W : Nat) (hW : W < 18446744073709551616) (hc : (ptV W).2.2 = 0) :
    (∀ wd, Calls Tryd.prog 26 #[.float .f64 W] wd fun e w' => e = .returned (.bool false) ∧ wd = w') ∧
    (∀ wd, Calls Tryd.prog 27 #[.float .f64 W, .int .i64 0] wd fun e w' => e = .returned (.bool false) ∧ wd = w') := by
  have hnan := fun wd => isNaN_any W wd
  rcases word_split W hW with h | ⟨s, r, rfl, hr⟩
  · rw [ptV_nan W h] at hc
    cases hc
  · rw [isn_word s r hr] at hnan
    by_cases h1 : r = 9218868437227405312
    · subst h1
      rw [ptV_inf] at hc
      cases s <;> cases hc
    · exact ⟨hnan, fun wd => isInf0_fin s r (by omega) wd⟩
theorem store_float (w : World) (a : Addr) (x : Nat) (v : Value) (hc : w.cell? a = some v) (hf : w.frozen? a = false) : (store a (.float .f64 x)).run Tryd.prog w = .ok () (w.setCell a (.float .f64 x)) := by
  rw [run_store Tryd.prog w a (.float .f64 x) _ rfl, hc]
  simp [hf]
theorem add_first (w0 : World) (B g h v W : Nat) (w : World) (H : MnS w0 B g h v 0 w) (hW : W < 18446744073709551616) (hc : (ptV W).2.2 = 0) :
    Calls Tryd.prog 21 #[.pointer (some ⟨g, 0, none⟩), .float .f64 W] w fun e w' => e = .returned (.int .i64 0) ∧ MnS w0 B g h W 1 w' := by
  obtain ⟨hnan, hinf⟩ := fin_of W hW hc
  have c0 := H.c0
  have c1 := H.c1
  have f0 := H.free 0
  have f1 := H.free 1
  have h1 : MnS w0 B g h W 0 (w.setCell ⟨g, 0, none⟩ (.float .f64 W)) := H.put 0 _ W 0 rfl
  have e1 := h1.c1
  have hfin : MnS w0 B g h W 1 ((w.setCell ⟨g, 0, none⟩ (.float .f64 W)).setCell ⟨g, 1, none⟩ (.int .i64 1)) := h1.put 1 _ W 1 rfl
  have HF := Lib.hid hfin
  have s0 := store_float w ⟨g, 0, none⟩ W _ c0 f0
  clear H h1 hfin hc hW
  go_enter Tryd.func21, Tryd.ntmps21
  go_wp2_with (first | (go_at_call 26; refine (hnan _).mono ?_; rintro e w' ⟨rfl, rfl⟩) | (go_at_call 27; refine (hinf _).mono ?_; rintro e w' ⟨rfl, rfl⟩))
  go_ret
  exact ⟨rfl, HF.out⟩
theorem add_more (w0 : World) (B g h v W n : Nat) (w : World) (H : MnS w0 B g h v n w) (hn : 0 < n) (hn2 : n ≤ 140737488351232) (hv : v < 18446744073709551616) (hW : W < 18446744073709551616) (hc : (ptV W).2.2 = 0) :
    Calls Tryd.prog 21 #[.pointer (some ⟨g, 0, none⟩), .float .f64 W] w fun e w' => ∃ r, e = .returned (.int .i64 0) ∧ BlR v W r ∧ MnS w0 B g h r ((n : Int) + 1) w' := by
  obtain ⟨hnan, hinf⟩ := fin_of W hW hc
  have c0 := H.c0
  have c1 := H.c1
  have f0 := H.free 0
  have f1 := H.free 1
  have hb := fun wd => blend_any v W hv hW wd
  have HB := Lib.hid hb
  have HH := Lib.hid H
  have hnI : (0 : Int) < n := by omega
  have hnI2 : (n : Int) ≤ 140737488351232 := by omega
  have hz : ((n : Int) == 0) = false := by simp; omega
  clear H hc hW hb hv
  go_enter Tryd.func21, Tryd.ntmps21
  go_upto_region 5 with (first | (go_at_call 26; refine (hnan _).mono ?_; rintro e w' ⟨rfl, rfl⟩) | (go_at_call 27; refine (hinf _).mono ?_; rintro e w' ⟨rfl, rfl⟩))
  go_upto_region 6 with (go_at_call 20; refine (HB.out _).mono ?_; rintro e w1 ⟨r, rfl, hr, hd⟩; have HR := Lib.hid hr; have HD := Lib.hid hd; have H1 := HH.out.drawn hd; have g0 := H1.free 0; have g1 := H1.free 1; have k0 := H1.c0; have s0 := store_float w1 ⟨g, 0, none⟩ r _ k0 g0; have k1 := H1.c1; have h2 := H1.put 0 (.float .f64 r) r n rfl; have k2 := h2.c1; have k3 := h2.free 1; have HX := Lib.hid (h2.put 1 (.int .i64 ((n : Int) + 1)) r ((n : Int) + 1) rfl); clear hr hd H1 h2)
  go_wp2_with fail
  go_ret
  exact ⟨_, rfl, HR.out, HX.out⟩
end Go.Proofs.YtfecgfefchdapaaDoor

namespace Go.Proofs.YtfecgfefchdapaaDoor
set_option linter.unusedVariables false
set_option linter.unusedSimpArgs false
open Go.RowKit FL Go.Shelf Ieee Go.Proofs.YtfecgfefchdapaaDoorW.PrintWords

theorem blend_one (wd : World) :
    Calls Tryd.prog 20 #[.float .f64 4607182418800017408, .float .f64 4617315517961601024] wd fun e w' => e = .returned (.float .f64 4611686018427387904) ∧ Drawn0 wd w' := by
  refine (blend_any _ _ (by decide) (by decide) wd).mono ?_
  rintro e w' ⟨r, rfl, hr, hd⟩
  refine ⟨?_, hd⟩
  have e : blV 4607182418800017408 4617315517961601024 = some 4611686018427387904 := by decide +kernel
  rcases hr.2 with ⟨v, h1, rfl⟩ | ⟨h1, _⟩
  · rw [e] at h1
    injection h1 with h1
    rw [h1]
  · rw [e] at h1; cases h1
theorem MnS.fresh (w0 w : World) (h : Below w0.heap.size w0 w) : MnS w0 w0.heap.size w.heap.size (w.heap.size + 1) 0 0 ((w.alloc (.cells #[.float .f64 0, .int .i64 0] 49)).alloc (.cells #[.float .f64 0, .int .i64 0] 49)) := by
  have hs : (w.alloc (.cells #[.float .f64 0, .int .i64 0] 49)).heap.size = w.heap.size + 1 := by simp
  refine ⟨?_, ?_, (h.alloc h.size _).alloc (by rw [hs]; have := h.size; omega) _, h.size, by have := h.size; omega, by omega⟩
  · rw [Below.heap_alloc _ _ _ (by rw [hs]; omega)]
    exact heap_alloc_new _ _
  · rw [← hs]
    exact heap_alloc_new _ _

set_option maxRecDepth 100000 in
set_option maxHeartbeats 2000000 in
theorem law_means (a : Option Addr) (len cap : Nat) (zs : List Int) (w : World) (hrow : IsRow .u64 w a len cap zs) (hlen : len * 8 ≤ 140737488351232) (hT : TabAt 1 Lib.deBruijn64tab w) :
    Calls Tryd.prog 8 #[.slice a len cap] w fun e w' => e = .returned (.bool true) ∧ Below w.heap.size w w' := by
  have HROW := Lib.hid hrow
  have C1 := awake_any w hT
  have ho : (FloatKind.f64.format.order 4611686018427387904 4611686018427387904 != some .eq) = false := by decide +kernel
  have hz : (FloatKind.f64.format.order 0 0 != some .eq) = false := by decide +kernel
  clear hrow hT
  go_enter Tryd.func8, Tryd.ntmps8
  go_upto_region 3 with (first | (go_at_call 9; refine C1.mono ?_; rintro e w' ⟨rfl, rfl⟩) | (go_at_call 20; refine (blend_one _).mono ?_; rintro e w1 ⟨rfl, h1⟩; have H1 := Lib.hid h1; clear h1))
  go_wp2_with fail
  have HM := Lib.hid (MnS.fresh w w1 H1.out.below)
  generalize hg : w1.heap.size = g at *
  generalize hh : g + 1 = h at *
  clear hg hh
  go_loopw [5, 6, 22] (fun x5 x6 x22 wr => ∃ (want v n k : Nat), x5 = .float .f64 want ∧ x6 = .int .i64 n ∧ x22 = .int .i64 k ∧ k ≤ len ∧ n ≤ k ∧ v < 18446744073709551616 ∧ want < 18446744073709551616 ∧ Same v want ∧ MnS w w.heap.size g h v n wr) (fun _ _ x22 _ => len - (intOf x22).toNat)
  case atStart => exact ⟨0, 0, 0, 0, rfl, rfl, rfl, Nat.zero_le _, Nat.le_refl _, by decide, by decide, .inl rfl, HM.out⟩
  case round =>
    obtain ⟨want, v, n, k, rfl, rfl, rfl, hk, hnk, hv, hwant, hsame, hM⟩ := hrel
    clear HM C1
    have HMR := Lib.hid hM
    have HS := Lib.hid hsame
    have hk0 : (0 : Int) ≤ k := by omega
    have hn0 : (0 : Int) ≤ n := by omega
    have hn1 : (n : Int) ≤ 140737488351232 := by omega
    by_cases hlt : k < len
    · obtain ⟨x, rfl, hxb, hzl, hcells, hwf⟩ := HROW.out.at_ (by omega)
      have c0 : wr.cell? (x.add k) = some (.int .u64 (zs.getD k 0)) := by
        rw [hM.bel.cell (by rw [block_add]; exact hxb)]
        exact hcells k hlt
      have hwz : 0 ≤ zs.getD k 0 ∧ zs.getD k 0 ≤ 18446744073709551615 := by
        have h := hwf (zs.getD k 0) (by rw [List.getD_eq_getElem?_getD, List.getElem?_eq_getElem (by omega)]; exact List.getElem_mem _)
        exact bounds_u64 h
      obtain ⟨b, hb⟩ : ∃ b : Nat, zs.getD k 0 = b := ⟨(zs.getD k 0).toNat, by omega⟩
      rw [hb] at c0 hwz
      have hbW : b < 18446744073709551616 := by omega
      clear hcells hwf hM hsame hb
      have hkI : (k : Int) < len := by omega
      have fb := fb_nat b
      have C3 := Lib.hid (fun wd => rparts_any b hbW wd)
      by_cases hcls : (ptV b).2.2 = 0
      · by_cases hz0 : n = 0
        · subst hz0
          have C4 := Lib.hid (fun wd H => add_first w w.heap.size g h v b wd H hbW hcls)
          have HSM := Lib.hid (fun wd => same_any b b hbW hbW (.inl rfl) wd)
          rw [hcls] at C3
          have tb := fun w => tobits b w
          go_upto_region 10 with (go_at_call 12; refine (C3.out _).mono ?_; rintro e w2 ⟨rfl, hd2⟩; have H2 := Lib.hid (HMR.out.drawn hd2); clear hd2)
          go_upto_region 11 with (go_at_call 21; refine (C4.out _ H2.out).mono ?_; rintro e w3 ⟨rfl, h3⟩; have m0 := h3.c0; have m1 := h3.c1; have d0 := h3.d0; have d1 := h3.d1; have H3 := Lib.hid h3; clear h3)
          go_upto_region 22 with fail
          go_wp2_with (first | (go_at_call 24; refine (count_at _ _ _ (by first | exact m1 | exact d1)).mono ?_; rintro e w' ⟨rfl, rfl⟩) | (go_at_call 25; refine (value_at _ _ _ (by first | exact m0 | exact d0)).mono ?_; rintro e w' ⟨rfl, rfl⟩) | (go_at_call 13; refine (HSM.out _).mono ?_; rintro e w' ⟨rfl, rfl⟩))
          go_roundw
          case rel => exact ⟨b, b, 1, k + 1, rfl, by go_num, by go_num, by omega, by omega, hbW, hbW, .inl rfl, H3.out⟩
          case measure => simp [intOf]; omega
        · have C4 := Lib.hid (fun wd H => add_more w w.heap.size g h v b n wd H (by omega) (by omega) hv hbW hcls)
          have C5 := Lib.hid (fun wd => blend_any want b hwant hbW wd)
          have C6 := Lib.hid (fun wd => rblend_any want b hwant hbW wd)
          have hzn : ((n : Int) == 0) = false := by simp; omega
          rw [hcls] at C3
          go_upto_region 10 with (go_at_call 12; refine (C3.out _).mono ?_; rintro e w2 ⟨rfl, hd2⟩; have H2 := Lib.hid (HMR.out.drawn hd2); clear hd2)
          go_upto_region 11 with (go_at_call 21; refine (C4.out _ H2.out).mono ?_; rintro e w3 ⟨r, rfl, hr, h3⟩; have HR := Lib.hid hr; have H3 := Lib.hid h3; clear h3 hr)
          go_upto_region 20 with (first | (go_at_call 20; refine (C5.out _).mono ?_; rintro e w4 ⟨r1, rfl, hr1, hd4⟩; have HR1 := Lib.hid hr1; have H4 := Lib.hid (H3.out.drawn hd4); clear hr1 hd4) | (go_at_call 23; refine (C6.out _).mono ?_; rintro e w5 ⟨r2, rfl, hr2, hd5⟩; have HR2 := Lib.hid hr2; have H5 := Lib.hid (H4.out.drawn hd5); have tb2 := fun w => tobits r2 w; have HSM1 := Lib.hid (fun wd => same_any r1 r2 HR1.out.1 HR2.out.1 (HR1.out.same hwant hwant hbW (.inl rfl) HR2.out) wd); clear hr2 hd5) | (go_at_call 13; refine (HSM1.out _).mono ?_; rintro e w' ⟨rfl, rfl⟩))
          go_upto_region 22 with (go_at_call 23; refine (C6.out _).mono ?_; rintro e w6 ⟨r3, rfl, hr3, hd6⟩; have HR3 := Lib.hid hr3; have h6 := H5.out.drawn hd6; have m0 := h6.c0; have m1 := h6.c1; have d0 := h6.d0; have d1 := h6.d1; have H6 := Lib.hid h6; have tb3 := fun w => tobits r3 w; have HSM := Lib.hid (fun wd => same_any r r3 HR.out.1 HR3.out.1 (HR.out.same hv hwant hbW HS.out HR3.out) wd); clear hr3 hd6 h6)
          go_wp2_with (first | (go_at_call 24; refine (count_at _ _ _ (by first | exact m1 | exact d1)).mono ?_; rintro e w' ⟨rfl, rfl⟩) | (go_at_call 25; refine (value_at _ _ _ (by first | exact m0 | exact d0)).mono ?_; rintro e w' ⟨rfl, rfl⟩) | (go_at_call 13; refine (HSM.out _).mono ?_; rintro e w' ⟨rfl, rfl⟩))
          go_roundw
          case rel => exact ⟨r3, r, n + 1, k + 1, rfl, by go_num, by go_num, by omega, by omega, HR.out.1, HR3.out.1, HR.out.same hv hwant hbW HS.out HR3.out, by exact H6.out⟩
          case measure => simp [intOf]; omega
      · have C4 := Lib.hid (fun wd => add_bad g b hbW hcls wd)
        have HSM := Lib.hid (fun wd => same_any v want hv hwant HS.out wd)
        have tb := fun w => tobits want w
        generalize (ptV b).2.2 = c at *
        have hc0 : (c != 0) = true := by simpa using hcls
        go_upto_region 10 with (go_at_call 12; refine (C3.out _).mono ?_; rintro e w2 ⟨rfl, hd2⟩; have H2 := Lib.hid (HMR.out.drawn hd2); clear hd2)
        have m0 := H2.out.c0
        have m1 := H2.out.c1
        have d0 := H2.out.d0
        have d1 := H2.out.d1
        go_upto_region 11 with (go_at_call 21; refine (C4.out _).mono ?_; rintro e w3 ⟨rfl, rfl⟩)
        go_upto_region 22 with fail
        go_wp2_with (first | (go_at_call 24; refine (count_at _ _ _ (by first | exact m1 | exact d1)).mono ?_; rintro e w' ⟨rfl, rfl⟩) | (go_at_call 25; refine (value_at _ _ _ (by first | exact m0 | exact d0)).mono ?_; rintro e w' ⟨rfl, rfl⟩) | (go_at_call 13; refine (HSM.out _).mono ?_; rintro e w' ⟨rfl, rfl⟩))
        go_roundw
        case rel => exact ⟨want, v, n, k + 1, rfl, by go_num, by go_num, by omega, by omega, hv, hwant, HS.out, H2.out⟩
        case measure => simp [intOf]; omega
    · have hkI : ¬ (k : Int) < len := by omega
      have m1 := hM.c1
      clear hM hsame
      go_wp2_with (go_at_call 24; refine (count_at _ _ _ m1).mono ?_; rintro e w' ⟨rfl, rfl⟩)
      go_ret
      exact ⟨rfl, HMR.out.bel⟩
end Go.Proofs.YtfecgfefchdapaaDoor
