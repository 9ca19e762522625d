/- Numbers as lists of digits in base 65536, and roots bit by bit: plain facts. No program in sight. The walks of depotref01.times and above. The walks of depotref01.above and next. The walk of depotref01.Root: the root's low 32 bits, where the root is given. The walk of depotref01.next; the primes and their roots. The walk of depotref01.Rooted8. -/
import Derived.Below
import Derived.Test.YtemioilfedpohaaDoorStm
import Derived.Test.YtemioilfedpohaaDoorBlk1ShaBlocks
import Derived.Deep.RegionHeld3
import Derived.Laws.MakeOwn
import Derived.Laws.OwnMore
import Derived.Test.YtemioilfedpohaaDoorShs
import Derived.Test.YtemioilfedpohaaDoorZRow
namespace Go.Proofs.YtemioilfedpohaaDoor

/-- the number that a list of digits is, the lowest first -/
def vl : List Nat → Nat
  | [] => 0
  | x :: l => x + 65536 * vl l
/-- all below 65536 -/
def Dg (l : List Nat) : Prop := ∀ x ∈ l, x < 65536
theorem Dg.get {l : List Nat} (h : Dg l) (i : Nat) : l.getD i 0 < 65536 := by
  rw [List.getD_eq_getElem?_getD]
  cases hx : l[i]? with
  | none => simp
  | some x => exact h x (List.mem_of_getElem? hx)
theorem Dg.set {l : List Nat} (h : Dg l) (i v : Nat) (hv : v < 65536) : Dg (l.set i v) := by
  intro x hx
  rcases List.mem_or_eq_of_mem_set hx with h1 | h1
  · exact h x h1
  · omega
theorem Dg.take {l : List Nat} (h : Dg l) (i : Nat) : Dg (l.take i) := fun x hx => h x (List.mem_of_mem_take hx)
theorem Dg.drop {l : List Nat} (h : Dg l) (i : Nat) : Dg (l.drop i) := fun x hx => h x (List.mem_of_mem_drop hx)

theorem vl_lt : ∀ l : List Nat, Dg l → vl l < 65536 ^ l.length
  | [], _ => by decide
  | x :: l, h => by
    have h1 := vl_lt l (fun y hy => h y (by simp [hy]))
    have h2 := h x (by simp)
    rw [vl, List.length_cons, Nat.pow_succ]
    omega
theorem vl_append : ∀ l m : List Nat, vl (l ++ m) = vl l + 65536 ^ l.length * vl m
  | [], m => by simp [vl]
  | x :: l, m => by
    rw [List.cons_append, vl, vl, vl_append l m, List.length_cons, Nat.pow_succ]
    grind
theorem vl_zeros (n : Nat) : vl (List.replicate n 0) = 0 := by
  induction n with
  | zero => rfl
  | succ n ih => rw [List.replicate_succ, vl, ih]
theorem vl_set : ∀ (l : List Nat) (i v : Nat), i < l.length → vl (l.set i v) + 65536 ^ i * l.getD i 0 = vl l + 65536 ^ i * v
  | [], _, _, h => by simp at h
  | x :: l, 0, v, _ => by simp [vl]; omega
  | x :: l, i + 1, v, h => by
    have ih := vl_set l i v (by simpa using h)
    simp only [List.set_cons_succ, vl, List.getD_cons_succ]
    rw [Nat.pow_succ]
    grind
theorem vl_take_succ (l : List Nat) (i : Nat) (h : i < l.length) : vl (l.take (i + 1)) = vl (l.take i) + 65536 ^ i * l.getD i 0 := by
  rw [List.take_succ_eq_append_getElem h, vl_append, List.length_take, Nat.min_eq_left (by omega)]
  simp [vl, h]
theorem vl_split (l : List Nat) (i : Nat) : vl l = vl (l.take i) + 65536 ^ (l.take i).length * vl (l.drop i) := by
  rw [← vl_append, List.take_append_drop]
theorem vl_drop (l : List Nat) (i : Nat) : vl (l.drop i) = l.getD i 0 + 65536 * vl (l.drop (i + 1)) := by
  by_cases h : i < l.length
  · rw [List.drop_eq_getElem_cons h, vl]
    simp [h]
  · rw [List.drop_eq_nil_of_le (by omega), List.drop_eq_nil_of_le (by omega)]
    simp [vl, List.getElem?_eq_none (show l.length ≤ i by omega)]

/-- one round of the inner loop of the product -/
theorem times_round {c : List Nat} {n ca ai bj V W : Nat} (hn : n < c.length) (h : vl c + ca * 65536 ^ n = V + W) :
    vl (c.set n ((c.getD n 0 + ca + ai * bj) % 65536)) + (c.getD n 0 + ca + ai * bj) / 65536 * 65536 ^ (n + 1) = V + (W + 65536 ^ n * (ai * bj)) := by
  have h1 := vl_set c n ((c.getD n 0 + ca + ai * bj) % 65536) hn
  obtain ⟨x, hx⟩ : ∃ x, x = c.getD n 0 + ca + ai * bj := ⟨_, rfl⟩
  have h2 := Nat.div_add_mod x 65536
  rw [← hx] at h1 ⊢
  generalize c.getD n 0 = y at *
  generalize vl (c.set n (x % 65536)) = z at *
  generalize ai * bj = p at *
  rw [Nat.pow_succ]
  have h3 : 65536 ^ n * (65536 * (x / 65536) + x % 65536) = 65536 ^ n * (y + ca + p) := by rw [h2, hx]
  generalize 65536 ^ n = P at *
  generalize x / 65536 = q at *
  generalize x % 65536 = r at *
  have e1 : P * (65536 * q + r) = q * (P * 65536) + P * r := by grind
  have e2 : P * (y + ca + p) = P * y + ca * P + P * p := by grind
  omega
theorem times_carry {c ca ai bj : Nat} (h1 : c < 65536) (h2 : ca < 65536) (h3 : ai < 65536) (h4 : bj < 65536) : (c + ca + ai * bj) / 65536 < 65536 ∧ c + ca + ai * bj < 4294967296 := by
  have : ai * bj ≤ 65535 * 65535 := Nat.mul_le_mul (by omega) (by omega)
  omega
/-- behind b's digits a carry still has its place -/
theorem times_place {c a b : List Nat} {i j ca : Nat} (ha : Dg a) (hb : Dg b) (hi : i < a.length) (hj : b.length ≤ j) (hca : 0 < ca)
    (h : vl c + ca * 65536 ^ (i + j) = vl (a.take i) * vl b + 65536 ^ i * a.getD i 0 * vl b) : j = b.length := by
  have h1 : vl (a.take (i + 1)) < 65536 ^ (i + 1) := by
    have := vl_lt _ (ha.take (i + 1))
    rwa [List.length_take, Nat.min_eq_left (by omega)] at this
  have h2 := vl_lt b hb
  have h3 : vl (a.take i) * vl b + 65536 ^ i * a.getD i 0 * vl b = vl (a.take (i + 1)) * vl b := by rw [vl_take_succ _ _ hi]; grind
  rw [h3] at h
  have h4 : vl (a.take (i + 1)) * vl b < 65536 ^ (i + 1 + b.length) := by
    rw [Nat.pow_add]
    exact Nat.lt_of_le_of_lt (Nat.mul_le_mul_right _ (Nat.le_of_lt h1)) (Nat.mul_lt_mul_of_pos_left h2 (Nat.pow_pos (by omega)))
  by_cases hjj : j = b.length
  · exact hjj
  · have h5 : 65536 ^ (i + 1 + b.length) ≤ 65536 ^ (i + j) := Nat.pow_le_pow_right (by omega) (by omega)
    have h6 : 65536 ^ (i + j) ≤ ca * 65536 ^ (i + j) := Nat.le_mul_of_pos_left _ hca
    omega

/-- two numbers of which all digits behind place i are alike -/
theorem above_at {a b : List Nat} {i : Nat} (ha : Dg a) (hb : Dg b) (h : vl (a.drop (i + 1)) = vl (b.drop (i + 1))) (hne : a.getD i 0 ≠ b.getD i 0) : decide (vl b < vl a) = decide (b.getD i 0 < a.getD i 0) := by
  have key : ∀ {a b : List Nat}, Dg a → Dg b → vl (a.drop (i + 1)) = vl (b.drop (i + 1)) → b.getD i 0 < a.getD i 0 → vl b < vl a := by
    intro a b ha hb h hlt
    have hi : i < a.length := by
      rcases Nat.lt_or_ge i a.length with h | h
      · exact h
      · rw [show a.getD i 0 = 0 by rw [List.getD_eq_getElem?_getD, List.getElem?_eq_none h]; rfl] at hlt; omega
    have h1 := vl_split a i
    have h2 := vl_split b i
    have h3 := vl_drop a i
    have h4 := vl_drop b i
    have h5 := vl_lt _ (hb.take i)
    rw [List.length_take, Nat.min_eq_left (by omega)] at h1
    have h6 : 65536 ^ (b.take i).length ≤ 65536 ^ i := Nat.pow_le_pow_right (by omega) (by rw [List.length_take]; omega)
    by_cases hbl : b.length < i
    · have e : vl (b.drop i) = 0 := by rw [List.drop_eq_nil_of_le (by omega)]; rfl
      rw [e] at h2
      have h7 : 1 ≤ vl (a.drop i) := by omega
      have h8 : 65536 ^ i ≤ 65536 ^ i * vl (a.drop i) := Nat.le_mul_of_pos_right _ h7
      omega
    · rw [List.length_take, Nat.min_eq_left (by omega)] at h2 h5
      have h7 : vl (b.drop i) + 1 ≤ vl (a.drop i) := by omega
      have h8 : 65536 ^ i * (vl (b.drop i) + 1) ≤ 65536 ^ i * vl (a.drop i) := Nat.mul_le_mul_left _ h7
      rw [Nat.mul_add] at h8
      omega
  by_cases hlt : b.getD i 0 < a.getD i 0
  · rw [decide_eq_true hlt, decide_eq_true (key ha hb h hlt)]
  · have h1 := key hb ha h.symm (by omega)
    rw [decide_eq_false hlt, decide_eq_false (by omega)]
theorem above_next {a b : List Nat} {i : Nat} (h : vl (a.drop (i + 1)) = vl (b.drop (i + 1))) (he : a.getD i 0 = b.getD i 0) : vl (a.drop i) = vl (b.drop i) := by
  rw [vl_drop a, vl_drop b, h, he]

/-- three digits -/
def d3 (y : Nat) : List Nat := [y % 65536, y / 65536 % 65536, y / 4294967296 % 65536]
theorem d3_vl (y : Nat) (h : y < 281474976710656) : vl (d3 y) = y := by simp only [d3, vl]; omega
theorem d3_dg (y : Nat) : Dg (d3 y) := by intro x hx; simp only [d3, List.mem_cons, List.not_mem_nil, or_false] at hx; omega

/-- the high bits of X -/
def hi (X b : Nat) : Nat := X / 2 ^ b * 2 ^ b
theorem hi_zero (X : Nat) : hi X 0 = X := by simp [hi]
theorem hi_top (X : Nat) (h : X < 2 ^ 38) : hi X 38 = 0 := by unfold hi; rw [Nat.div_eq_of_lt h, Nat.zero_mul]
theorem hi_le (X b : Nat) : hi X b ≤ X := Nat.div_mul_le_self _ _
theorem hi_or (X b : Nat) : hi X (b + 1) ||| 2 ^ b = hi X (b + 1) + 2 ^ b := by
  have : hi X (b + 1) = 2 ^ (b + 1) * (X / 2 ^ (b + 1)) := by unfold hi; rw [Nat.mul_comm]
  rw [this, ← Nat.two_pow_add_eq_or_of_lt (Nat.pow_lt_pow_right (by decide) (Nat.lt_succ_self b)) _]
theorem hi_next (X b : Nat) : hi X b = if hi X (b + 1) + 2 ^ b ≤ X then hi X (b + 1) + 2 ^ b else hi X (b + 1) := by
  unfold hi
  have h0 : 0 < 2 ^ b := Nat.pow_pos (by omega)
  have h1 : X / 2 ^ (b + 1) = X / 2 ^ b / 2 := by rw [Nat.pow_succ, Nat.div_div_eq_div_mul]
  have h2 := Nat.div_add_mod X (2 ^ b)
  have h3 := Nat.mod_lt X h0
  rw [h1, Nat.pow_succ]
  generalize X / 2 ^ b = q at *
  generalize X % 2 ^ b = r at *
  generalize 2 ^ b = P at *
  have e : q / 2 * (P * 2) = q / 2 * 2 * P := by rw [Nat.mul_comm P 2, Nat.mul_assoc]
  rw [e]
  rcases Nat.mod_two_eq_zero_or_one q with hq | hq
  · have e2 : q / 2 * 2 = q := by omega
    rw [e2, if_neg (by rw [← h2, Nat.mul_comm P q]; omega)]
  · have e2 : q / 2 * 2 + 1 = q := by omega
    have e3 : q / 2 * 2 * P + P = q * P := by
      have : (q / 2 * 2 + 1) * P = q * P := by rw [e2]
      rwa [Nat.add_mul, Nat.one_mul] at this
    rw [e3, if_pos (by rw [← h2, Nat.mul_comm P q]; omega)]

/-- the test of one bit -/
theorem root_test {X N k y : Nat} (h1 : X ^ k ≤ N) (h2 : N < (X + 1) ^ k) : (y ^ k ≤ N) ↔ y ≤ X := by
  constructor
  · intro h
    rcases Nat.lt_or_ge X y with h3 | h3
    · have : (X + 1) ^ k ≤ y ^ k := Nat.pow_le_pow_left h3 k
      omega
    · exact h3
  · intro h
    exact Nat.le_trans (Nat.pow_le_pow_left h k) h1
end Go.Proofs.YtemioilfedpohaaDoor

namespace Go.Proofs.YtemioilfedpohaaDoor
set_option linter.unusedVariables false
set_option linter.unusedSimpArgs false
open Go.RowKit

theorem run_make_u64 (n : Nat) (hn : n ≤ 1000) (W : World) :
    (Instr.makeSlice 67 (.int .i64 (n : Int)) (.int .i64 (n : Int))).run Tryd.prog W = .ok (.slice (some ⟨W.heap.size, 0, none⟩) n n) (W.alloc (.cells (cw .u64 (List.replicate n 0)) 64)) := by
  obtain ⟨i0, hi, hz0, hz1, hz2⟩ := info_parts (show (Tryd.prog.info? 64).map (fun i => (i.zero, i.size, i.bytes)) = some (some (.int .u64 0), 1, 8) by kernel_rfl)
  have hr := run_make (P := Tryd.prog) W 67 64 i0 (.int .u64 0) Tryd.underlying67 hi hz0 .i64 .i64 (n : Int) (n : Int) (by omega) (by omega) (by rw [hz2]; omega) (by omega)
  rw [hr, hz1, Int.toNat_natCast, Nat.mul_one]
  congr 3
  apply Array.ext'
  rw [show (Value.int .u64 0).cells = #[Value.int .u64 0] from rfl, toList_madeCells_one]
  simp [cw]

/-- a list of digits in a block of its own -/
structure DRow (w : World) (g : Nat) (l : List Nat) : Prop where
  row : ∃ T, w.heap[g]? = some (.cells (cw .u64 l) T (0, 0))
  dg : Dg l
theorem DRow.lt {w : World} {g : Nat} {l : List Nat} (h : DRow w g l) : g < w.heap.size := by
  obtain ⟨⟨T, hr⟩, _⟩ := h
  rcases Nat.lt_or_ge g w.heap.size with h1 | h1
  · exact h1
  · rw [Array.getElem?_eq_none h1] at hr; cases hr
theorem DRow.far {w w' : World} {g : Nat} {l : List Nat} (h : DRow w g l) (e : w'.heap[g]? = w.heap[g]?) : DRow w' g l := by
  obtain ⟨⟨T, hr⟩, hd⟩ := h
  exact ⟨⟨T, e.trans hr⟩, hd⟩
theorem DRow.below {w w' : World} {B g : Nat} {l : List Nat} (h : DRow w g l) (hb : Below B w w') (hg : g < B) : DRow w' g l := h.far (hb.block g hg)
theorem DRow.cell {w : World} {g : Nat} {l : List Nat} (h : DRow w g l) (i : Nat) (hi : i < l.length) : w.cell? ⟨g, i, none⟩ = some (.int .u64 (l.getD i 0 : Nat)) := by
  obtain ⟨⟨T, hr⟩, _⟩ := h
  exact row_cell hr i hi
theorem DRow.free {w : World} {g : Nat} {l : List Nat} (h : DRow w g l) (i : Nat) : w.frozen? ⟨g, i, none⟩ = false := by
  obtain ⟨⟨T, hr⟩, _⟩ := h
  exact row_free hr i
theorem DRow.store {w : World} {g : Nat} {l : List Nat} (h : DRow w g l) (i v : Nat) (hv : v < 65536) : DRow (w.setCell ⟨g, i, none⟩ (.int .u64 (v : Int))) g (l.set i v) := by
  obtain ⟨⟨T, hr⟩, hd⟩ := h
  exact ⟨⟨T, row_store hr i v⟩, hd.set i v hv⟩

/-- the product is handed back in a new block -/
def TmOut (w : World) (a b : List Nat) (e : Ending) (w' : World) : Prop :=
  ∃ g c, w.heap.size ≤ g ∧ e = .returned (.slice (some ⟨g, 0, none⟩) c.length c.length) ∧ DRow w' g c ∧ c.length = a.length + b.length ∧ vl c = vl a * vl b ∧ Below w.heap.size w w'

/-- what stands while two numbers are multiplied -/
structure TmH (w wr : World) (ga gb gc : Nat) (a b c : List Nat) : Prop where
  o : w.heap.size ≤ gc
  oa : ga < w.heap.size
  ob : gb < w.heap.size
  ra : DRow wr ga a
  rb : DRow wr gb b
  rc : DRow wr gc c
  len : c.length = a.length + b.length
  below : Below w.heap.size w wr
theorem TmH.store {w wr : World} {ga gb gc : Nat} {a b c : List Nat} (H : TmH w wr ga gb gc a b c) (i v : Nat) (hv : v < 65536) : TmH w (wr.setCell ⟨gc, i, none⟩ (.int .u64 (v : Int))) ga gb gc a b (c.set i v) :=
  have h1 := H.o; have h2 := H.oa; have h3 := H.ob
  ⟨h1, h2, h3, H.ra.far (Below.heap_setCell _ _ _ _ (by simp; omega)), H.rb.far (Below.heap_setCell _ _ _ _ (by simp; omega)), H.rc.store i v hv, by rw [List.length_set]; exact H.len, H.below.setCell (by simpa using h1) _⟩
theorem TmH.drew {w wr : World} {ga gb gc : Nat} {a b c : List Nat} (H : TmH w wr ga gb gc a b c) : TmH w wr.drew ga gb gc a b c :=
  ⟨H.o, H.oa, H.ob, H.ra.far rfl, H.rb.far rfl, H.rc.far rfl, H.len, H.below.drew⟩

theorem mask16 (x : Nat) (h : x < 18446744073709551616) : bits .and .u64 (x : Int) 65535 = ((x % 65536 : Nat) : Int) := by
  have h1 : x &&& 65535 = x % 65536 := Nat.and_two_pow_sub_one_eq_mod x 16
  have h2 : ∀ y : Nat, y < 18446744073709551616 → (BitVec.ofInt 64 (y : Int)).toNat = y := fun y hy => by
    rw [BitVec.ofInt_natCast, BitVec.toNat_ofNat]; exact Nat.mod_eq_of_lt (by omega)
  show IntKind.u64.wrap ((BitVec.ofInt 64 (x : Int) &&& BitVec.ofInt 64 ((65535 : Nat) : Int)).toNat : Int) = _
  rw [BitVec.toNat_and, h2 x h, h2 65535 (by omega), h1, IntKind.wrap_u64]
  omega

set_option maxRecDepth 100000 in
set_option maxHeartbeats 2000000 in
theorem times_any (ga gb ca cb : Nat) (a b : List Nat) (w : World) (ha : DRow w ga a) (hb : DRow w gb b) (la : a.length ≤ 100) (lb : b.length ≤ 100) (hca : a.length ≤ ca) (hcb : b.length ≤ cb) :
    Calls Tryd.prog 37 #[.slice (some ⟨ga, 0, none⟩) a.length ca, .slice (some ⟨gb, 0, none⟩) b.length cb] w (TmOut w a b) := by
  have hmk := run_make_u64 (a.length + b.length) (by omega)
  rw [Int.natCast_add] at hmk
  have hbb : Below w.heap.size w (w.alloc (.cells (cw .u64 (List.replicate (a.length + b.length) 0)) 64)) := (Below.refl _ _).alloc (Nat.le_refl _) _
  have h0 : TmH w (w.alloc (.cells (cw .u64 (List.replicate (a.length + b.length) 0)) 64)) ga gb w.heap.size a b (List.replicate (a.length + b.length) 0) :=
    ⟨Nat.le_refl _, ha.lt, hb.lt, ha.below hbb ha.lt, hb.below hbb hb.lt, ⟨⟨_, heap_alloc_new _ _⟩, by intro x hx; simp at hx; omega⟩, by simp, hbb⟩
  have H0 := Lib.hid h0
  have HDA := Lib.hid ha.dg
  have HDB := Lib.hid hb.dg
  clear h0 hbb ha hb
  generalize hgc : w.heap.size = gc at H0
  have HGC := Lib.hid hgc
  go_enter Tryd.func37, Tryd.ntmps37
  go_wp2_with fail
  clear hmk hgc
  go_loopw [6] (fun i wr => ∃ (k : Nat) (c : List Nat), k ≤ a.length ∧ i = .int .i64 k ∧ TmH w wr ga gb gc a b c ∧ vl c = vl (a.take k) * vl b) (fun i _ => a.length - (intOf i).toNat)
  case atStart => exact ⟨0, _, by omega, rfl, H0.out, by rw [vl_zeros]; simp [vl]⟩
  case round =>
    clear H0
    obtain ⟨i, c, hi, rfl, hH, hv⟩ := hrel
    by_cases hlt : i < a.length
    · obtain ⟨wo, rfl⟩ : ∃ wo : World, wo = wr := ⟨_, rfl⟩
      have HH := Lib.hid hH
      have HV := Lib.hid hv
      clear hH hv
      go_wp2_with fail
      go_loopw [7, 8] (fun cy jv wx => ∃ (ca j : Nat) (c : List Nat), j ≤ b.length + 1 ∧ cy = .int .u64 ca ∧ jv = .int .i64 j ∧ ca < 65536 ∧ TmH w wx ga gb gc a b c ∧ vl c + ca * 65536 ^ (i + j) = vl (a.take i) * vl b + 65536 ^ i * a.getD i 0 * vl (b.take j)) (fun _ jv _ => b.length + 2 - (intOf jv).toNat)
      case atStart => exact ⟨0, 0, c, by omega, rfl, rfl, by omega, HH.out, by rw [HV.out]; simp [vl]⟩
      case round =>
        clear HH HV
        obtain ⟨ca', j, c', hj, rfl, rfl, hca', hH, hv⟩ := hrel
        by_cases hjb : j < b.length
        · have hn : i + j < c'.length := by rw [hH.len]; omega
          have hy := hH.rc.dg.get (i + j)
          have cc := hH.rc.cell (i + j) hn
          have fc := hH.rc.free (i + j)
          have cA := hH.ra.cell i hlt
          have cB := hH.rb.cell j hjb
          have hai := HDA.out.get i
          have hbj := HDB.out.get j
          obtain ⟨hcy, hx32⟩ := times_carry hy hca' hai hbj
          have hrd := times_round (c := c') (n := i + j) (ca := ca') (ai := a.getD i 0) (bj := b.getD j 0) hn hv
          have hW2 : 65536 ^ i * a.getD i 0 * vl (b.take j) + 65536 ^ (i + j) * (a.getD i 0 * b.getD j 0) = 65536 ^ i * a.getD i 0 * vl (b.take (j + 1)) := by
            rw [vl_take_succ b j hjb, Nat.pow_add]; grind
          rw [hW2] at hrd
          have hst := hH.drew.store (i + j) ((c'.getD (i + j) 0 + ca' + a.getD i 0 * b.getD j 0) % 65536) (Nat.mod_lt _ (by omega))
          obtain ⟨s, hs⟩ : ∃ s, s = c'.getD (i + j) 0 + ca' := ⟨_, rfl⟩
          obtain ⟨p, hp⟩ : ∃ p, p = a.getD i 0 * b.getD j 0 := ⟨_, rfl⟩
          have e1 : ((c'.getD (i + j) 0 : Nat) : Int) + ca' = s := by omega
          have e2 : ((a.getD i 0 : Nat) : Int) * (b.getD j 0 : Nat) = p := by rw [hp, Int.natCast_mul]
          rw [← hs, ← hp] at hrd hst hcy hx32
          obtain ⟨x, hx⟩ : ∃ x, x = s + p := ⟨_, rfl⟩
          have e3 : (s : Int) + p = x := by omega
          rw [← hx] at hrd hst hcy hx32
          have e5 := mask16 x (by omega)
          rw [show ((x % 65536 : Nat) : Int) = (x : Int) % 65536 by omega] at e5 hst
          have p1 : p < 18446744073709551616 := by omega
          have s1 : s < 18446744073709551616 := by omega
          have wp : IntKind.u64.wrap (p : Int) = p := by rw [IntKind.wrap_u64]; omega
          have wx : IntKind.u64.wrap (x : Int) = x := by rw [IntKind.wrap_u64]; omega
          have cA' : wr.drew.cell? ⟨ga, i, none⟩ = some (.int .u64 (a.getD i 0 : Nat)) := cA
          have cB' : wr.drew.cell? ⟨gb, j, none⟩ = some (.int .u64 (b.getD j 0 : Nat)) := cB
          have fc' : wr.drew.frozen? ⟨gc, i + j, none⟩ = false := fc
          have cc' : wr.drew.cell? ⟨gc, i + j, none⟩ = some (.int .u64 (c'.getD (i + j) 0 : Nat)) := cc
          have HR := Lib.hid hrd
          have HST := Lib.hid hst
          clear hrd hst hW2 hv hH hs hp hx
          generalize c'.getD (i + j) 0 = y at *
          generalize a.getD i 0 = ai at *
          generalize b.getD j 0 = bj at *
          have i0 : (0 : Int) ≤ i := by omega
          have j0 : (0 : Int) ≤ j := by omega
          have i1 : (i : Int) < a.length := by omega
          have j1 : (j : Int) < b.length := by omega
          have ij1 : (i : Int) + j < (a.length : Int) + b.length := by omega
          have t0 : ((i : Int) + j).toNat = i + j := by omega
          have w0 : IntKind.i64.wrap ((i : Int) + j) = (i : Int) + j := IntWalk.i64_in _ (by omega)
          go_wp2_with fail
          refine wp_region_noPanic ?_
          refine wp_region_held_drew (S := fun w' => w'.cell? ⟨ga, i, none⟩ = some (.int .u64 (ai : Int)) ∧ w'.cell? ⟨gb, j, none⟩ = some (.int .u64 (bj : Int))) (by kernel_rfl) ⟨cA', cB'⟩ (fun hHeld => ?_)
          refine wpAnyH_take (i := 0) (oi := _) (v := (.int .u64 (s : Int))) rfl (by kernel_rfl) (by kernel_rfl) (by kernel_rfl) (fun _ _ _ h => h) (Or.inl ⟨by rfl, fun w' _ => by go_simp⟩) hHeld ?_
          try simp only [Act.put, List.getElem_toArray, List.getElem_cons_succ, List.getElem_cons_zero, List.setIfInBounds_toArray, List.set_cons_zero, List.set_cons_succ]
          refine wpAnyH_take (i := 1) (oi := _) (v := (.slice (some ⟨ga, 0, none⟩) a.length ca)) rfl (by kernel_rfl) (by kernel_rfl) (by kernel_rfl) (fun _ _ _ h => h) (Or.inl ⟨by rfl, fun w' _ => by go_simp⟩) hHeld ?_
          try simp only [Act.put, List.getElem_toArray, List.getElem_cons_succ, List.getElem_cons_zero, List.setIfInBounds_toArray, List.set_cons_zero, List.set_cons_succ]
          refine wpAnyH_take (i := 2) (oi := _) (v := (.int .i64 (i : Int))) rfl (by kernel_rfl) (by kernel_rfl) (by kernel_rfl) (fun _ _ _ h => h) (Or.inl ⟨by rfl, fun w' _ => by go_simp⟩) hHeld ?_
          try simp only [Act.put, List.getElem_toArray, List.getElem_cons_succ, List.getElem_cons_zero, List.setIfInBounds_toArray, List.set_cons_zero, List.set_cons_succ]
          refine wpAnyH_take (i := 3) (oi := _) (v := (.pointer (some ⟨ga, i, none⟩))) rfl (by kernel_rfl) (by kernel_rfl) (by kernel_rfl) (fun _ _ _ h => h) (Or.inl ⟨by rfl, fun w' _ => by go_simp⟩) hHeld ?_
          try simp only [Act.put, List.getElem_toArray, List.getElem_cons_succ, List.getElem_cons_zero, List.setIfInBounds_toArray, List.set_cons_zero, List.set_cons_succ]
          refine wpAnyH_take (i := 4) (oi := _) (v := (.int .u64 (ai : Int))) rfl (by kernel_rfl) (by kernel_rfl) (by kernel_rfl) (fun _ _ _ h => h) (Or.inl ⟨by rfl, fun w' hSw => by have h1 := hSw.1; go_simp⟩) hHeld ?_
          try simp only [Act.put, List.getElem_toArray, List.getElem_cons_succ, List.getElem_cons_zero, List.setIfInBounds_toArray, List.set_cons_zero, List.set_cons_succ]
          refine wpAnyH_take (i := 5) (oi := _) (v := (.slice (some ⟨gb, 0, none⟩) b.length cb)) rfl (by kernel_rfl) (by kernel_rfl) (by kernel_rfl) (fun _ _ _ h => h) (Or.inl ⟨by rfl, fun w' _ => by go_simp⟩) hHeld ?_
          try simp only [Act.put, List.getElem_toArray, List.getElem_cons_succ, List.getElem_cons_zero, List.setIfInBounds_toArray, List.set_cons_zero, List.set_cons_succ]
          refine wpAnyH_take (i := 6) (oi := _) (v := (.int .i64 (j : Int))) rfl (by kernel_rfl) (by kernel_rfl) (by kernel_rfl) (fun _ _ _ h => h) (Or.inl ⟨by rfl, fun w' _ => by go_simp⟩) hHeld ?_
          try simp only [Act.put, List.getElem_toArray, List.getElem_cons_succ, List.getElem_cons_zero, List.setIfInBounds_toArray, List.set_cons_zero, List.set_cons_succ]
          refine wpAnyH_take (i := 7) (oi := _) (v := (.pointer (some ⟨gb, j, none⟩))) rfl (by kernel_rfl) (by kernel_rfl) (by kernel_rfl) (fun _ _ _ h => h) (Or.inl ⟨by rfl, fun w' _ => by go_simp⟩) hHeld ?_
          try simp only [Act.put, List.getElem_toArray, List.getElem_cons_succ, List.getElem_cons_zero, List.setIfInBounds_toArray, List.set_cons_zero, List.set_cons_succ]
          refine wpAnyH_take (i := 8) (oi := _) (v := (.int .u64 (bj : Int))) rfl (by kernel_rfl) (by kernel_rfl) (by kernel_rfl) (fun _ _ _ h => h) (Or.inl ⟨by rfl, fun w' hSw => by have h1 := hSw.2; go_simp⟩) hHeld ?_
          try simp only [Act.put, List.getElem_toArray, List.getElem_cons_succ, List.getElem_cons_zero, List.setIfInBounds_toArray, List.set_cons_zero, List.set_cons_succ]
          refine wpAnyH_take (i := 9) (oi := _) (v := (.int .u64 (p : Int))) rfl (by kernel_rfl) (by kernel_rfl) (by kernel_rfl) (fun _ _ _ h => h) (Or.inl ⟨by rfl, fun w' _ => by go_simp⟩) hHeld ?_
          try simp only [Act.put, List.getElem_toArray, List.getElem_cons_succ, List.getElem_cons_zero, List.setIfInBounds_toArray, List.set_cons_zero, List.set_cons_succ]
          refine wpAnyH_take (i := 10) (oi := _) (v := (.int .u64 (x : Int))) rfl (by kernel_rfl) (by kernel_rfl) (by kernel_rfl) (fun _ _ _ h => h) (Or.inl ⟨by rfl, fun w' _ => by go_simp⟩) hHeld ?_
          try simp only [Act.put, List.getElem_toArray, List.getElem_cons_succ, List.getElem_cons_zero, List.setIfInBounds_toArray, List.set_cons_zero, List.set_cons_succ]
          refine wpAnyH_take (i := 11) (oi := _) (v := (.int .u64 (x : Int))) rfl (by kernel_rfl) (by kernel_rfl) (by kernel_rfl) (fun _ _ _ h => h) (Or.inl ⟨by rfl, fun w' _ => by go_simp⟩) hHeld ?_
          try simp only [Act.put, List.getElem_toArray, List.getElem_cons_succ, List.getElem_cons_zero, List.setIfInBounds_toArray, List.set_cons_zero, List.set_cons_succ]
          refine wpAnyH_done (by kernel_rfl) ?_ _
          refine NoPanic.normal ?_
          clear hHeld cA cB cA' cB' e1 e2 e3 fc cc
          generalize wr.drew = wd at *
          go_wp2_with fail
          go_roundw
          case rel => exact ⟨x / 65536, j + 1, c'.set (i + j) (x % 65536), by omega, by rw [show ((x / 65536 : Nat) : Int) = (x : Int) / 65536 by omega], by go_num, hcy, HST.out, by rw [← Nat.add_assoc]; exact HR.out⟩
          case measure => simp [intOf]; omega
        · have hbt : b.take j = b := List.take_of_length_le (by omega)
          by_cases hc0 : ca' = 0
          · subst hc0
            have hfin : vl c' = vl (a.take (i + 1)) * vl b := by
              rw [hbt] at hv
              rw [vl_take_succ a i hlt, Nat.add_mul, ← hv]; omega
            have HF := Lib.hid hfin
            have HH := Lib.hid hH
            have j1 : ¬ (j : Int) < b.length := by omega
            clear hfin hH hv hbt
            go_wp2_with fail
            go_roundw
            case rel => exact ⟨i + 1, c', by omega, by go_num, HH.out, HF.out⟩
            case measure => simp [intOf]; omega
          · have hje : j = b.length := times_place (c := c') (ca := ca') HDA.out HDB.out hlt (by omega) (by omega) (by rw [hbt] at hv; exact hv)
            have hn : i + j < c'.length := by have := hH.len; omega
            have hy := hH.rc.dg.get (i + j)
            have cc := hH.rc.cell (i + j) hn
            have fc := hH.rc.free (i + j)
            obtain ⟨hcy, hx32⟩ := times_carry hy hca' (show 0 < 65536 by decide) (show 0 < 65536 by decide)
            have hrd := times_round (c := c') (n := i + j) (ca := ca') (ai := 0) (bj := 0) hn hv
            have hW2 : 65536 ^ i * a.getD i 0 * vl (b.take j) + 65536 ^ (i + j) * (0 * 0) = 65536 ^ i * a.getD i 0 * vl (b.take (j + 1)) := by
              rw [hbt, List.take_of_length_le (by omega)]; simp
            rw [hW2] at hrd
            rw [Nat.zero_mul, Nat.add_zero] at hrd hcy hx32
            have hst := hH.store (i + j) ((c'.getD (i + j) 0 + ca') % 65536) (Nat.mod_lt _ (by omega))
            obtain ⟨x, hx⟩ : ∃ x, x = c'.getD (i + j) 0 + ca' := ⟨_, rfl⟩
            have e1 : ((c'.getD (i + j) 0 : Nat) : Int) + ca' = x := by omega
            rw [← hx] at hrd hst hcy hx32
            have e5 := mask16 x (by omega)
            rw [show ((x % 65536 : Nat) : Int) = (x : Int) % 65536 by omega] at e5 hst
            have wx : IntKind.u64.wrap (x : Int) = x := by rw [IntKind.wrap_u64]; omega
            have HR := Lib.hid hrd
            have HST := Lib.hid hst
            clear hrd hst hW2 hv hH hx hbt
            generalize c'.getD (i + j) 0 = y at *
            have i0 : (0 : Int) ≤ i := by omega
            have j0 : (0 : Int) ≤ j := by omega
            have j1 : ¬ (j : Int) < b.length := by omega
            have c1 : (0 : Int) < ca' := by omega
            have ij1 : (i : Int) + j < (a.length : Int) + b.length := by omega
            have t0 : ((i : Int) + j).toNat = i + j := by omega
            have w0 : IntKind.i64.wrap ((i : Int) + j) = (i : Int) + j := IntWalk.i64_in _ (by omega)
            have hje1 : j ≤ b.length := by omega
            clear hje hn
            go_wp2_with fail
            go_roundw
            case rel => exact ⟨x / 65536, j + 1, c'.set (i + j) (x % 65536), by omega, by rw [show ((x / 65536 : Nat) : Int) = (x : Int) / 65536 by omega], by go_num, hcy, HST.out, by rw [← Nat.add_assoc]; exact HR.out⟩
            case measure => simp [intOf]; omega
    · obtain rfl : i = a.length := by omega
      have hfin : TmOut w a b (.returned (.slice (some ⟨gc, 0, none⟩) (a.length + b.length) (a.length + b.length))) wr := by
        rw [List.take_of_length_le (Nat.le_refl _)] at hv
        exact ⟨gc, c, by rw [HGC.out]; exact Nat.le_refl _, by rw [hH.len], hH.rc, hH.len, hv, hH.below⟩
      have HF := Lib.hid hfin
      clear hfin hH hv hlt hi
      go_wp2_with fail
      go_ret
      exact HF.out
end Go.Proofs.YtemioilfedpohaaDoor

namespace Go.Proofs.YtemioilfedpohaaDoor
set_option linter.unusedVariables false
set_option linter.unusedSimpArgs false
open Go.RowKit

theorem getD_out (l : List Nat) (i : Nat) (h : l.length ≤ i) : l.getD i 0 = 0 := by
  rw [List.getD_eq_getElem?_getD, List.getElem?_eq_none h]; rfl

set_option maxRecDepth 100000 in
set_option maxHeartbeats 2000000 in
theorem above_any (ga gb ca cb : Nat) (a b : List Nat) (w : World) (ha : DRow w ga a) (hb : DRow w gb b) (la : a.length ≤ 100) (lb : b.length ≤ 100) (hca : a.length ≤ ca) (hcb : b.length ≤ cb) :
    Calls Tryd.prog 38 #[.slice (some ⟨ga, 0, none⟩) a.length ca, .slice (some ⟨gb, 0, none⟩) b.length cb] w fun e w' => e = .returned (.bool (decide (vl b < vl a))) ∧ w = w' := by
  have HDA := Lib.hid ha.dg
  have HDB := Lib.hid hb.dg
  have HA := Lib.hid ha
  have HB := Lib.hid hb
  clear ha hb
  go_enter Tryd.func38, Tryd.ntmps38
  go_wp2_with fail
  go_loop [5] (fun i => ∃ k : Nat, k ≤ a.length + b.length + 1 ∧ i = .int .i64 ((k : Int) - 1) ∧ vl (a.drop k) = vl (b.drop k)) (fun i => (intOf i + 1).toNat)
  case atStart => exact ⟨a.length + b.length + 1, by omega, by rw [show ((a.length + b.length + 1 : Nat) : Int) - 1 = (a.length : Int) + b.length by omega], by rw [List.drop_eq_nil_of_le (by omega), List.drop_eq_nil_of_le (by omega)]⟩
  case round =>
    obtain ⟨k, hk, rfl, hv⟩ := hrel
    by_cases hk0 : k = 0
    · subst hk0
      have hd : decide (vl b < vl a) = false := by
        simp only [List.drop_zero] at hv
        rw [hv]; simp
      have HD := Lib.hid hd
      clear hd hv
      rw [show ((0 : Nat) : Int) - 1 = -1 from rfl]
      go_wp2_with fail
      go_ret
      exact ⟨by rw [HD.out]; rfl, rfl⟩
    · obtain ⟨i, rfl⟩ : ∃ i, k = i + 1 := ⟨k - 1, by omega⟩
      rw [show ((i + 1 : Nat) : Int) - 1 = (i : Int) by omega]
      have i0 : (0 : Int) ≤ i := by omega
      have i1 : (i : Int) ≤ (a.length : Int) + b.length := by omega
      have hav := fun hne => above_at HDA.out HDB.out hv hne
      have hnx := fun he => above_next hv he
      have hlx := HDA.out.get i
      have hly := HDB.out.get i
      by_cases hia : i < a.length
      · have cA := HA.out.cell i hia
        by_cases hib : i < b.length
        · have cB := HB.out.cell i hib
          generalize a.getD i 0 = x at *
          generalize b.getD i 0 = y at *
          by_cases hxy : x = y
          · have HN := Lib.hid (hnx hxy)
            have hne : ((x : Int) != y) = false := by rw [bne_eq_false_iff_eq]; omega
            clear hav hnx hv hxy
            go_wp2_with fail
            go_round
            case rel => exact ⟨i, by omega, rfl, HN.out⟩
            case measure => simp [intOf] <;> omega
          · have HV := Lib.hid (hav hxy)
            have hne : ((x : Int) != y) = true := by rw [bne_iff_ne]; omega
            clear hav hnx hv
            go_wp2_with fail
            go_ret
            exact ⟨by rw [HV.out]; simp, rfl⟩
        · have hy0 := getD_out b i (by omega)
          rw [hy0] at hav hnx
          generalize a.getD i 0 = x at *
          by_cases hxy : x = 0
          · have HN := Lib.hid (hnx hxy)
            have hne : ((x : Int) != 0) = false := by rw [bne_eq_false_iff_eq]; omega
            clear hav hnx hv hy0 hly hxy
            go_wp2_with fail
            go_round
            case rel => exact ⟨i, by omega, rfl, HN.out⟩
            case measure => simp [intOf] <;> omega
          · have HV := Lib.hid (hav hxy)
            have hne : ((x : Int) != 0) = true := by rw [bne_iff_ne]; omega
            clear hav hnx hv hy0 hly
            go_wp2_with fail
            go_ret
            exact ⟨by rw [HV.out]; simp, rfl⟩
      · have hx0 := getD_out a i (by omega)
        rw [hx0] at hav hnx
        by_cases hib : i < b.length
        · have cB := HB.out.cell i hib
          generalize b.getD i 0 = y at *
          by_cases hxy : y = 0
          · have HN := Lib.hid (hnx hxy.symm)
            have hne : ((0 : Int) != y) = false := by rw [bne_eq_false_iff_eq]; omega
            clear hav hnx hv hx0 hlx hxy
            go_wp2_with fail
            go_round
            case rel => exact ⟨i, by omega, rfl, HN.out⟩
            case measure => simp [intOf] <;> omega
          · have HV := Lib.hid (hav (fun e => hxy e.symm))
            have hne : ((0 : Int) != y) = true := by rw [bne_iff_ne]; omega
            clear hav hnx hv hx0 hlx
            go_wp2_with fail
            go_ret
            exact ⟨by rw [HV.out]; simp, rfl⟩
        · have hy0 := getD_out b i (by omega)
          rw [hy0] at hnx
          have HN := Lib.hid (hnx rfl)
          clear hav hnx hv hx0 hlx hy0 hly
          go_wp2_with fail
          go_round
          case rel => exact ⟨i, by omega, rfl, HN.out⟩
          case measure => simp [intOf] <;> omega
end Go.Proofs.YtemioilfedpohaaDoor

namespace Go.Proofs.YtemioilfedpohaaDoor
set_option linter.unusedVariables false
set_option linter.unusedSimpArgs false
open Go.RowKit

/-- the bound so far -/
structure BdH (w wr : World) (p i g : Nat) (l : List Nat) : Prop where
  o : w.heap.size ≤ g
  row : DRow wr g l
  len : l.length = 1 + 3 * i
  val : vl l = p * 4294967296 ^ i
  below : Below w.heap.size w wr
theorem BdH.later {w wr w1 : World} {p i g : Nat} {l : List Nat} (H : BdH w wr p i g l) (hb : Below wr.heap.size wr w1) : BdH w w1 p i g l :=
  ⟨H.o, H.row.below hb H.row.lt, H.len, H.val, H.below.trans (hb.mono H.below.size)⟩
/-- the power so far -/
structure PwH (w wr : World) (y i g : Nat) (l : List Nat) : Prop where
  o : w.heap.size ≤ g
  row : DRow wr g l
  len : l.length = 3 * i
  val : vl l = y ^ i

theorem drow_new3 (w : World) (a b c : Nat) (ha : a < 65536) (hb : b < 65536) (hc : c < 65536) : DRow (w.alloc (.cells #[.int .u64 (a : Int), .int .u64 (b : Int), .int .u64 (c : Int)] 64)) w.heap.size [a, b, c] :=
  ⟨⟨_, heap_alloc_new _ _⟩, by intro x hx; simp only [List.mem_cons, List.not_mem_nil, or_false] at hx; rcases hx with rfl | rfl | rfl <;> assumption⟩

set_option maxRecDepth 100000 in
set_option maxHeartbeats 2000000 in
theorem root_any (p k X : Nat) (hp : p < 65536) (hk : 1 ≤ k) (hk3 : k ≤ 3) (hX : X < 2 ^ 38) (h1 : X ^ k ≤ p * 4294967296 ^ k) (h2 : p * 4294967296 ^ k < (X + 1) ^ k) (w : World) :
    Calls Tryd.prog 33 #[.int .i64 (p : Int), .int .i64 (k : Int)] w fun e w' => e = .returned (.int .u32 ((X % 4294967296 : Nat) : Int)) ∧ Below w.heap.size w w' := by
  have hb0 : Below w.heap.size w (w.alloc (.cells #[.int .u64 (p : Int)] 64)) := (Below.refl _ _).alloc (Nat.le_refl _) _
  have h0 : BdH w (w.alloc (.cells #[.int .u64 (p : Int)] 64)) p 0 w.heap.size [p] :=
    ⟨Nat.le_refl _, ⟨⟨_, heap_alloc_new _ _⟩, by intro x hx; simp at hx; omega⟩, rfl, by simp [vl], hb0⟩
  obtain ⟨z, hz⟩ : ∃ z, z = X % 4294967296 := ⟨_, rfl⟩
  rw [← hz]
  have hz32 : z < 4294967296 := by omega
  have HZ := Lib.hid hz
  clear hz
  have H0 := Lib.hid h0
  have H1 := Lib.hid h1
  have H2 := Lib.hid h2
  clear h0 hb0 h1 h2
  go_enter Tryd.func33, Tryd.ntmps33
  go_wp2_with fail
  go_loopw [5, 6] (fun bd i wr => ∃ (j g : Nat) (l : List Nat), j ≤ k ∧ i = .int .i64 j ∧ bd = .slice (some ⟨g, 0, none⟩) l.length l.length ∧ BdH w wr p j g l) (fun _ i _ => k - (intOf i).toNat)
  case atStart => exact ⟨0, _, [p], by omega, rfl, rfl, H0.out⟩
  case round =>
    clear H0
    obtain ⟨j, g, l, hj, rfl, rfl, hbd⟩ := hrel
    by_cases hlt : j < k
    · have hd := drow_new3 wr 0 0 1 (by omega) (by omega) (by omega)
      have hbb : Below wr.heap.size wr (wr.alloc (.cells #[.int .u64 ((0 : Nat) : Int), .int .u64 ((0 : Nat) : Int), .int .u64 ((1 : Nat) : Int)] 64)) := (Below.refl _ _).alloc (Nat.le_refl _) _
      have hbd2 := hbd.later hbb
      have HD := Lib.hid hd
      have HB2 := Lib.hid hbd2
      have hln := Lib.hid hbd.len
      have hvl := Lib.hid hbd.val
      have hjI : (j : Int) < k := by omega
      clear hd hbb hbd2 hbd
      go_wp2_with fail
      refine (times_any g wr.heap.size l.length 3 l [0, 0, 1] _ HB2.out.row HD.out (by rw [hln.out]; omega) (by decide) (Nat.le_refl _) (Nat.le_refl _)).mono ?_
      rintro e w2 ⟨g2, c, hg2, rfl, hrc, hcl, hcv, hb2⟩
      have hbn : BdH w w2 p (j + 1) g2 c := ⟨Nat.le_trans HB2.out.below.size hg2, hrc, by rw [hcl, hln.out]; simp; omega, by rw [hcv, hvl.out, Nat.pow_succ]; simp [vl, Nat.mul_assoc], HB2.out.below.trans (hb2.mono HB2.out.below.size)⟩
      have HBN := Lib.hid hbn
      clear hrc hcl hcv hb2 hbn HB2 HD hln hvl
      go_wp2_with fail
      go_roundw
      case rel => exact ⟨j + 1, g2, c, by omega, by go_num, rfl, HBN.out⟩
      case measure => simp [intOf] <;> omega
    · obtain rfl : j = k := by omega
      have HB := Lib.hid hbd
      have hjI : ¬ (j : Int) < j := by omega
      clear hbd hlt hj
      obtain ⟨wb, rfl⟩ : ∃ wb : World, wb = wr := ⟨_, rfl⟩
      go_wp2_with fail
      go_loopw [7, 8] (fun xv bv wx => ∃ b : Nat, b ≤ 38 ∧ bv = .int .i64 ((b : Int) - 1) ∧ xv = .int .u64 (hi X b : Nat) ∧ BdH w wx p j g l) (fun _ bv _ => (intOf bv + 1).toNat)
      case atStart => exact ⟨38, by omega, rfl, by rw [hi_top X hX]; rfl, HB.out⟩
      case round =>
        clear HB
        obtain ⟨b, hb, rfl, rfl, hbd⟩ := hrel
        by_cases hb0 : b = 0
        · subst hb0
          rw [hi_zero X, show ((0 : Nat) : Int) - 1 = -1 from rfl]
          have HB := Lib.hid hbd.below
          have hm : bits .and .u64 (X : Int) 4294967295 = ((X % 4294967296 : Nat) : Int) := by
            have hX2 : X < 18446744073709551616 := Nat.lt_trans hX (by decide)
            rw [show (4294967295 : Int) = ((4294967295 : Nat) : Int) from rfl, u64_and_nat _ _ hX2 (by omega), show X &&& 4294967295 = X % 4294967296 from Nat.and_two_pow_sub_one_eq_mod X 32]
          rw [← HZ.out] at hm
          clear hbd
          go_wp2_with fail
          go_ret
          exact ⟨rfl, HB.out⟩
        · obtain ⟨b, rfl⟩ : ∃ b', b = b' + 1 := ⟨b - 1, by omega⟩
          rw [show ((b + 1 : Nat) : Int) - 1 = (b : Int) by omega]
          have b0 : (0 : Int) ≤ b := by omega
          have b1 : (b : Int) < 38 := by omega
          have hle := hi_le X (b + 1)
          have hpb : 2 ^ b < 2 ^ 38 := Nat.pow_lt_pow_right (by omega) (by omega)
          have hor := hi_or X b
          have hnx := hi_next X b
          generalize hi X (b + 1) = h at *
          have HB := Lib.hid hbd
          have HNX := Lib.hid hnx
          obtain ⟨q, hq⟩ : ∃ q, q = 2 ^ b := ⟨_, rfl⟩
          rw [← hq] at hnx hor hpb
          have HNX := Lib.hid hnx
          obtain ⟨y, hy⟩ : ∃ y, y = h + q := ⟨_, rfl⟩
          have hy38 : y < 1099511627776 := by have : (2 : Nat) ^ 38 = 274877906944 := by decide
                                              omega
          have e1 : IntKind.u64.wrap (2 ^ b) = (q : Int) := by
            rw [IntKind.wrap_u64, hq, Int.natCast_pow]
            have : ((2 : Int) ^ b) = ((2 ^ b : Nat) : Int) := by rw [Int.natCast_pow]; rfl
            rw [this, ← hq]
            omega
          have e2 : bits .or .u64 (h : Int) (q : Int) = (y : Int) := by rw [u64_or_nat _ _ (by omega) (by omega), hor, hy]
          obtain ⟨d0, hd0⟩ : ∃ d, d = y % 65536 := ⟨_, rfl⟩
          obtain ⟨d1, hd1⟩ : ∃ d, d = y / 65536 % 65536 := ⟨_, rfl⟩
          obtain ⟨d2, hd2⟩ : ∃ d, d = y / 4294967296 % 65536 := ⟨_, rfl⟩
          have e3 : bits .and .u64 (y : Int) 65535 = (d0 : Int) := by rw [mask16 _ (by omega), hd0]
          have e4 : bits .and .u64 ((y : Int) / 65536) 65535 = (d1 : Int) := by rw [show (y : Int) / 65536 = ((y / 65536 : Nat) : Int) by omega, mask16 _ (by omega), hd1]
          have e5 : bits .and .u64 ((y : Int) / 4294967296) 65535 = (d2 : Int) := by rw [show (y : Int) / 4294967296 = ((y / 4294967296 : Nat) : Int) by omega, mask16 _ (by omega), hd2]
          have hd3 : d3 y = [d0, d1, d2] := by rw [hd0, hd1, hd2]; rfl
          have hv3 : vl [d0, d1, d2] = y := by rw [← hd3]; exact d3_vl y (by omega)
          have hrow := drow_new3 wr d0 d1 d2 (by omega) (by omega) (by omega)
          have hbb : Below wr.heap.size wr (wr.alloc (.cells #[.int .u64 (d0 : Int), .int .u64 (d1 : Int), .int .u64 (d2 : Int)] 64)) := (Below.refl _ _).alloc (Nat.le_refl _) _
          have hbd2 := hbd.later hbb
          have hgd := hbd.below.size
          have HB2 := Lib.hid hbd2
          have HD := Lib.hid hrow
          have HV3 := Lib.hid hv3
          have HY := Lib.hid hy
          have HLN := Lib.hid hbd.len
          clear hbd hnx hor hb0 hd0 hd1 hd2 hd3 hq hy hv3 hrow hbb hbd2
          have HP0 : Hid (PwH w (wr.alloc (.cells #[.int .u64 (d0 : Int), .int .u64 (d1 : Int), .int .u64 (d2 : Int)] 64)) y 1 wr.heap.size [d0, d1, d2]) := Lib.hid ⟨hgd, HD.out, rfl, by rw [HV3.out, Nat.pow_one]⟩
          go_wp2_with fail
          clear e1 e2 e3 e4 e5
          generalize hgdd : wr.heap.size = gd at *
          clear hgdd
          obtain ⟨wo, hwo⟩ : ∃ wo : World, wo = wr.alloc (.cells #[.int .u64 (d0 : Int), .int .u64 (d1 : Int), .int .u64 (d2 : Int)] 64) := ⟨_, rfl⟩
          rw [← hwo] at HP0 HD HB2
          rw [← hwo]
          clear hwo
          go_loopw [11, 12] (fun pv iv wx => ∃ (i gp : Nat) (lp : List Nat), 1 ≤ i ∧ i ≤ j ∧ iv = .int .i64 i ∧ pv = .slice (some ⟨gp, 0, none⟩) lp.length lp.length ∧ PwH w wx y i gp lp ∧ BdH w wx p j g l ∧ DRow wx gd [d0, d1, d2]) (fun _ iv _ => j - (intOf iv).toNat)
          case atStart => exact ⟨1, gd, [d0, d1, d2], by omega, by omega, rfl, rfl, HP0.out, HB2.out, HD.out⟩
          case round =>
            clear HP0 HB2 HD
            obtain ⟨i, gp, lp, hi1, hi2, rfl, rfl, hpw, hbd, hdr⟩ := hrel
            by_cases hij : i < j
            · have HPW := Lib.hid hpw
              have HBD := Lib.hid hbd
              have HDR := Lib.hid hdr
              have hijI : (i : Int) < j := by omega
              clear hpw hbd hdr
              go_wp2_with fail
              refine (times_any gp gd lp.length 3 lp [d0, d1, d2] _ HPW.out.row HDR.out (by rw [HPW.out.len]; omega) (by decide : 3 ≤ 100) (Nat.le_refl _) (Nat.le_refl _)).mono ?_
              rintro e w2 ⟨g2, c, hg2, rfl, hrc, hcl, hcv, hb2⟩
              have hpn : PwH w w2 y (i + 1) g2 c := ⟨Nat.le_trans HBD.out.below.size hg2, hrc, by rw [hcl, HPW.out.len]; simp; omega, by rw [hcv, HPW.out.val, HV3.out, Nat.pow_succ]⟩
              have hbn := HBD.out.later hb2
              have hdn := HDR.out.below hb2 HDR.out.lt
              have HPN := Lib.hid hpn
              have HBN := Lib.hid hbn
              have HDN := Lib.hid hdn
              clear hrc hcl hcv hb2 hpn hbn hdn HPW HBD HDR
              go_wp2_with fail
              go_roundw
              case rel => exact ⟨i + 1, g2, c, by omega, by omega, by go_num, rfl, HPN.out, HBN.out, HDN.out⟩
              case measure => simp [intOf] <;> omega
            · obtain rfl : i = j := by omega
              have HPW := Lib.hid hpw
              have HBD := Lib.hid hbd
              have htst := root_test (y := y) H1.out H2.out
              have hijI : ¬ (i : Int) < i := by omega
              by_cases hyX : y ≤ X
              · have hd : decide (vl l < vl lp) = false := by
                  rw [hpw.val, hbd.val]; simp; exact htst.2 hyX
                have hnn : hi X b = y := by rw [HNX.out, if_pos (by have := HY.out; omega), HY.out]
                have HD := Lib.hid hd
                have HNN := Lib.hid hnn
                clear hpw hbd hdr htst hij hd hnn
                go_wp2_with fail
                refine (above_any gp g lp.length l.length lp l _ HPW.out.row HBD.out.row (by rw [HPW.out.len]; omega) (by rw [HBD.out.len]; omega) (Nat.le_refl _) (Nat.le_refl _)).mono ?_
                rintro e w3 ⟨rfl, rfl⟩
                rw [HD.out]
                go_wp2_with fail
                go_roundw
                case rel => exact ⟨b, by omega, rfl, by rw [HNN.out], HBD.out⟩
                case measure => simp [intOf] <;> omega
              · have hd : decide (vl l < vl lp) = true := by
                  rw [hpw.val, hbd.val]; simp
                  rcases Nat.lt_or_ge (p * 4294967296 ^ i) (y ^ i) with h | h
                  · exact h
                  · exact absurd (htst.1 h) hyX
                have hnn : hi X b = h := by rw [HNX.out, if_neg (by have := HY.out; omega)]
                have HD := Lib.hid hd
                have HNN := Lib.hid hnn
                clear hpw hbd hdr htst hij hd hnn
                go_wp2_with fail
                refine (above_any gp g lp.length l.length lp l _ HPW.out.row HBD.out.row (by rw [HPW.out.len]; omega) (by rw [HBD.out.len]; omega) (Nat.le_refl _) (Nat.le_refl _)).mono ?_
                rintro e w3 ⟨rfl, rfl⟩
                rw [HD.out]
                go_wp2_with fail
                go_roundw
                case rel => exact ⟨b, by omega, rfl, by rw [HNN.out], HBD.out⟩
                case measure => simp [intOf] <;> omega
end Go.Proofs.YtemioilfedpohaaDoor

namespace Go.Proofs.YtemioilfedpohaaDoor
set_option linter.unusedVariables false
set_option linter.unusedSimpArgs false
open Go.RowKit

set_option maxRecDepth 100000 in
set_option maxHeartbeats 2000000 in
theorem next_any (p n : Nat) (hpn : p < n) (hp : 1 ≤ p) (hn : n < 1000) (hno : ∀ m, p < m → m < n → ∃ d, 2 ≤ d ∧ d * d ≤ m ∧ m % d = 0) (hyes : ∀ d, 2 ≤ d → d * d ≤ n → n % d ≠ 0) (w : World) :
    Calls Tryd.prog 32 #[.int .i64 (p : Int)] w fun e w' => e = .returned (.int .i64 (n : Int)) ∧ w = w' := by
  have HNO := Lib.hid hno
  have HYES := Lib.hid hyes
  clear hno hyes
  go_enter Tryd.func32, Tryd.ntmps32
  go_wp2_with fail
  go_loop [3] (fun qv => ∃ q : Nat, p < q ∧ q ≤ n ∧ qv = .int .i64 q) (fun qv => n - (intOf qv).toNat)
  case atStart => exact ⟨p + 1, by omega, by omega, by go_num⟩
  case round =>
    obtain ⟨q, hq1, hq2, rfl⟩ := hrel
    go_wp2_with fail
    go_loop [4, 5] (fun pv dv => ∃ (pr : Bool) (d : Nat), 2 ≤ d ∧ d ≤ q + 2 ∧ (d - 1) * (d - 1) ≤ q ∧ pv = .bool pr ∧ dv = .int .i64 d ∧ (pr = true ↔ ∀ e, 2 ≤ e → e < d → q % e ≠ 0)) (fun _ dv => q + 2 - (intOf dv).toNat)
    case atStart => exact ⟨true, 2, by omega, by omega, by omega, rfl, rfl, by simp; omega⟩
    case round =>
      obtain ⟨pr, d, hd1, hd2, hd3, rfl, rfl, hpr⟩ := hrel
      obtain ⟨dd, hdd⟩ : ∃ dd, dd = d * d := ⟨_, rfl⟩
      have e1 : (d : Int) * d = (dd : Int) := by rw [hdd, Int.natCast_mul]
      have hdb : dd ≤ 1100000 := by
        rw [hdd]
        have : d * d ≤ 1002 * 1002 := Nat.mul_le_mul (by omega) (by omega)
        omega
      have wd : IntKind.i64.wrap (dd : Int) = dd := IntWalk.i64_in _ (by omega)
      by_cases hle : dd ≤ q
      · have hdq : d ≤ q := by
          have : d * 1 ≤ d * d := Nat.mul_le_mul_left _ (by omega)
          omega
        obtain ⟨r, hr⟩ : ∃ r, r = q % d := ⟨_, rfl⟩
        have hrl : r < d := by rw [hr]; exact Nat.mod_lt _ (by omega)
        have e2 : (q : Int).tmod d = r := by rw [hr, Int.tmod_eq_emod_of_nonneg (by omega)]; exact (Int.natCast_emod q d).symm
        have e3 : (q : Int) % d = r := by rw [hr]; exact (Int.natCast_emod q d).symm
        have hnext : ((pr && !decide (r = 0)) = true ↔ ∀ e, 2 ≤ e → e < d + 1 → q % e ≠ 0) := by
          constructor
          · intro h e h2 h3
            simp at h
            rcases Nat.lt_or_ge e d with h4 | h4
            · exact hpr.1 h.1 e h2 h4
            · obtain rfl : e = d := by omega
              rw [← hr]; exact h.2
          · intro h
            simp
            exact ⟨hpr.2 fun e h2 h3 => h e h2 (by omega), by rw [hr]; exact h d hd1 (by omega)⟩
        have hdx : (d + 1 - 1) * (d + 1 - 1) ≤ q := by rw [show d + 1 - 1 = d by omega, ← hdd]; exact hle
        have HN := Lib.hid hnext
        have HDX := Lib.hid hdx
        have hleI : (dd : Int) ≤ q := by omega
        have hd0 : ¬ (d : Int) = 0 := by omega
        have hdI : (2 : Int) ≤ d := by omega
        clear hnext hdx hr hpr hdd hd3
        by_cases hr0 : r = 0
        · have HR0 := Lib.hid hr0
          have hrI : ((r : Int) == 0) = true := by rw [beq_iff_eq]; omega
          clear hr0
          go_wp2_with fail
          go_round
          case rel => exact ⟨false, d + 1, by omega, by omega, HDX.out, rfl, by go_num, by rw [← HN.out, HR0.out]; simp⟩
          case measure => simp [intOf] <;> omega
        · have HR0 := Lib.hid hr0
          have hrI : ((r : Int) == 0) = false := by rw [beq_eq_false_iff_ne]; omega
          clear hr0
          go_wp2_with fail
          go_round
          case rel => exact ⟨pr, d + 1, by omega, by omega, HDX.out, rfl, by go_num, by rw [← HN.out]; simp [HR0.out]⟩
          case measure => simp [intOf] <;> omega
      · have hleI : ¬ (dd : Int) ≤ q := by omega
        by_cases hqn : q = n
        · have hprt : pr = true := hpr.2 fun e h2 h3 => by
            rw [hqn]
            refine HYES.out e h2 ?_
            have : e * e ≤ (d - 1) * (d - 1) := Nat.mul_le_mul (by omega) (by omega)
            omega
          subst hprt
          subst hqn
          clear hpr hd3 hdd
          go_wp2_with fail
          go_ret
          exact ⟨rfl, rfl⟩
        · have hprt : pr = false := by
            cases hpe : pr with
            | false => rfl
            | true =>
              obtain ⟨e, h2, h3, h4⟩ := HNO.out q hq1 (by omega)
              have hed : e < d := by
                rcases Nat.lt_or_ge e d with h | h
                · exact h
                · have : d * d ≤ e * e := Nat.mul_le_mul h h
                  omega
              exact absurd h4 (hpr.1 hpe e h2 hed)
          subst hprt
          clear hpr hd3 hdd
          go_wp2_with fail
          go_round
          case rel => exact ⟨q + 1, by omega, by omega, by go_num⟩
          case measure => simp [intOf] <;> omega

/-- 1 and the first 64 primes -/
def PR : List Nat := [1, 2, 3, 5, 7, 11, 13, 17, 19, 23, 29, 31, 37, 41, 43, 47, 53, 59, 61, 67, 71, 73, 79, 83, 89, 97, 101, 103, 107, 109, 113, 127, 131, 137, 139, 149, 151, 157, 163, 167, 173, 179, 181, 191, 193, 197, 199, 211, 223, 227, 229, 233, 239, 241, 251, 257, 263, 269, 271, 277, 281, 283, 293, 307, 311]
def prB (n : Nat) : Bool := (List.range 18).all fun d => d < 2 || n < d * d || n % d != 0
theorem PR_all : ((List.range 64).all fun i => (PR.getD i 0 < PR.getD (i + 1) 0) && prB (PR.getD (i + 1) 0) && (List.range 20).all fun j => !(PR.getD i 0 + 1 + j < PR.getD (i + 1) 0) || !prB (PR.getD i 0 + 1 + j)) = true := by decide +kernel
theorem PR_bound : ∀ i, i ≤ 64 → 1 ≤ PR.getD i 0 ∧ PR.getD i 0 ≤ 311 := by decide +kernel
theorem PR_step : ∀ i, i < 64 → PR.getD (i + 1) 0 ≤ PR.getD i 0 + 20 := by decide +kernel
theorem prB_true {n : Nat} (h : prB n = true) (hn : n < 324) : ∀ d, 2 ≤ d → d * d ≤ n → n % d ≠ 0 := by
  intro d h2 h3
  have hd : d < 18 := by
    rcases Nat.lt_or_ge d 18 with h | h
    · exact h
    · have : 18 * 18 ≤ d * d := Nat.mul_le_mul h h
      omega
  have := List.all_eq_true.1 h d (List.mem_range.2 hd)
  simp at this
  rcases this with h | h
  · omega
  · exact h
theorem prB_false {n : Nat} (h : prB n = false) : ∃ d, 2 ≤ d ∧ d * d ≤ n ∧ n % d = 0 := by
  have h1 : ¬ prB n = true := by rw [h]; simp
  unfold prB at h1
  rw [List.all_eq_true] at h1
  simp only [Classical.not_forall] at h1
  obtain ⟨d, hd, h2⟩ := h1
  simp at h2
  exact ⟨d, by omega, by omega, h2.2⟩
theorem next_at (i : Nat) (hi : i < 64) (w : World) : Calls Tryd.prog 32 #[.int .i64 ((PR.getD i 0 : Nat) : Int)] w fun e w' => e = .returned (.int .i64 ((PR.getD (i + 1) 0 : Nat) : Int)) ∧ w = w' := by
  have h := List.all_eq_true.1 PR_all i (List.mem_range.2 hi)
  simp only [Bool.and_eq_true, decide_eq_true_eq] at h
  have hb := PR_bound i (by omega)
  have hb2 := PR_bound (i + 1) (by omega)
  have hs := PR_step i hi
  refine next_any _ _ h.1.1 hb.1 (by omega) (fun m h1 h2 => ?_) (prB_true h.1.2 (by omega)) w
  have h3 := List.all_eq_true.1 h.2 (m - (PR.getD i 0 + 1)) (List.mem_range.2 (by omega))
  rw [show PR.getD i 0 + 1 + (m - (PR.getD i 0 + 1)) = m by omega] at h3
  refine prB_false ?_
  cases hp : prB m with
  | false => rfl
  | true =>
    rw [hp] at h3
    simp only [Bool.not_true, Bool.or_false, Bool.not_eq_true', decide_eq_false_iff_not] at h3
    omega

/-- the cube roots: their whole parts, and the table's words behind them -/
def CB : List Nat := [1, 1, 1, 1, 2, 2, 2, 2, 2, 3, 3, 3, 3, 3, 3, 3, 3, 3, 4, 4, 4, 4, 4, 4, 4, 4, 4, 4, 4, 4, 5, 5, 5, 5, 5, 5, 5, 5, 5, 5, 5, 5, 5, 5, 5, 5, 5, 6, 6, 6, 6, 6, 6, 6, 6, 6, 6, 6, 6, 6, 6, 6, 6, 6]
def SQ : List Nat := [1, 1, 2, 2, 3, 3, 4, 4]
theorem cube_all : ((List.range 64).all fun i => decide ((CB.getD i 0 * 4294967296 + KT.getD i 0) ^ 3 ≤ PR.getD (i + 1) 0 * 4294967296 ^ 3) && decide (PR.getD (i + 1) 0 * 4294967296 ^ 3 < (CB.getD i 0 * 4294967296 + KT.getD i 0 + 1) ^ 3) && decide (CB.getD i 0 ≤ 6)) = true := by decide +kernel
theorem square_all : ((List.range 8).all fun i => decide ((SQ.getD i 0 * 4294967296 + ST.getD i 0) ^ 2 ≤ PR.getD (i + 1) 0 * 4294967296 ^ 2) && decide (PR.getD (i + 1) 0 * 4294967296 ^ 2 < (SQ.getD i 0 * 4294967296 + ST.getD i 0 + 1) ^ 2) && decide (SQ.getD i 0 ≤ 6)) = true := by decide +kernel
theorem root3_at (i : Nat) (hi : i < 64) (w : World) : Calls Tryd.prog 33 #[.int .i64 ((PR.getD (i + 1) 0 : Nat) : Int), .int .i64 3] w fun e w' => e = .returned (.int .u32 ((KT.getD i 0 : Nat) : Int)) ∧ Below w.heap.size w w' := by
  have h := List.all_eq_true.1 cube_all i (List.mem_range.2 hi)
  simp only [Bool.and_eq_true, decide_eq_true_eq] at h
  have hk := KT_small.get i
  have hb := PR_bound (i + 1) (by omega)
  have := root_any (PR.getD (i + 1) 0) 3 _ (by omega) (by omega) (by omega) (by have : (2 : Nat) ^ 38 = 274877906944 := by decide
                                                                                omega) h.1.1 h.1.2 w
  rw [show (CB.getD i 0 * 4294967296 + KT.getD i 0) % 4294967296 = KT.getD i 0 by omega] at this
  exact this
theorem root2_at (i : Nat) (hi : i < 8) (w : World) : Calls Tryd.prog 33 #[.int .i64 ((PR.getD (i + 1) 0 : Nat) : Int), .int .i64 2] w fun e w' => e = .returned (.int .u32 ((ST.getD i 0 : Nat) : Int)) ∧ Below w.heap.size w w' := by
  have h := List.all_eq_true.1 square_all i (List.mem_range.2 hi)
  simp only [Bool.and_eq_true, decide_eq_true_eq] at h
  have hk := ST_small.get i
  have hb := PR_bound (i + 1) (by omega)
  have := root_any (PR.getD (i + 1) 0) 2 _ (by omega) (by omega) (by omega) (by have : (2 : Nat) ^ 38 = 274877906944 := by decide
                                                                                omega) h.1.1 h.1.2 w
  rw [show (SQ.getD i 0 * 4294967296 + ST.getD i 0) % 4294967296 = ST.getD i 0 by omega] at this
  exact this
end Go.Proofs.YtemioilfedpohaaDoor

namespace Go.Proofs.YtemioilfedpohaaDoor
set_option linter.unusedVariables false
set_option linter.unusedSimpArgs false
open Go.RowKit

/-- the first i words -/
def st8 (i : Nat) : List Nat := ST.take i ++ List.replicate (8 - i) 0
theorem st8_set : ∀ i, i < 8 → (st8 i).set i (ST.getD i 0) = st8 (i + 1) := by decide
theorem st8_length : ∀ i, i ≤ 8 → (st8 i).length = 8 := by decide
theorem st8_all : st8 8 = ST := by decide

/-- what stands: the result's block, the words' -/
structure R8H (w wr : World) (hs : List Nat) : Prop where
  size : w.heap.size + 2 ≤ wr.heap.size
  hr : wr.heap[w.heap.size]? = some (.cells (cw .u32 (zr 8)) 23 (0, 0))
  hh : wr.heap[w.heap.size + 1]? = some (.cells (cw .u32 hs) 23 (0, 0))
  below : Below w.heap.size w wr
theorem R8H.later {w wr w1 : World} {hs : List Nat} (H : R8H w wr hs) (hb : Below wr.heap.size wr w1) : R8H w w1 hs :=
  have h1 := H.size
  ⟨Nat.le_trans h1 hb.size, (hb.block _ (by omega)).trans H.hr, (hb.block _ (by omega)).trans H.hh, H.below.trans (hb.mono (by omega))⟩
theorem R8H.store {w wr : World} {hs : List Nat} (H : R8H w wr hs) (i x : Nat) : R8H w (wr.setCell ⟨w.heap.size + 1, i, none⟩ (.int .u32 (x : Int))) (hs.set i x) :=
  ⟨by simpa [World.setCell] using H.size, row_other H.hr (by omega), row_store H.hh i x, H.below.setCell (by simp) _⟩

set_option maxRecDepth 100000 in
set_option maxHeartbeats 1000000 in
theorem rooted8_any (w : World) : Calls Tryd.prog 14 #[] w fun e w' => e = .returned (.agg (cw .u32 ST)) ∧ Below w.heap.size w w' := by
  have hz8 := (zero_of_info (P := Tryd.prog) (t := 23) (v := .agg (cw .u32 (zr 8))) (n := 8) (by kernel_rfl)).1
  have h0 : R8H w ((w.alloc (.cells (cw .u32 (zr 8)) 23)).alloc (.cells (cw .u32 (zr 8)) 23)) (st8 0) := by
    refine ⟨by simp, heap_alloc2_old _ _ _, heap_alloc2_new _ _ _, ((Below.refl _ _).alloc (Nat.le_refl _) _).alloc (by simp) _⟩
  have H0 := Lib.hid h0
  clear h0
  go_enter Tryd.func14, Tryd.ntmps14
  go_wp2_with fail
  go_loopw [2, 3] (fun pv iv wr => ∃ i : Nat, i ≤ 8 ∧ pv = .int .i64 (PR.getD i 0 : Nat) ∧ iv = .int .i64 i ∧ R8H w wr (st8 i)) (fun _ iv _ => 8 - (intOf iv).toNat)
  case atStart => exact ⟨0, by omega, rfl, rfl, H0.out⟩
  case round =>
    clear H0
    obtain ⟨i, hi, rfl, rfl, hH⟩ := hrel
    by_cases hlt : i < 8
    · have HN := Lib.hid (next_at i (by omega))
      have HR := Lib.hid (root2_at i hlt)
      have HH := Lib.hid hH
      have hl := st8_length i hi
      have hset := Lib.hid (st8_set i hlt)
      obtain ⟨p1, hp1⟩ : ∃ p, p = PR.getD (i + 1) 0 := ⟨_, rfl⟩
      rw [← hp1] at HN HR
      have HP1 := Lib.hid hp1
      generalize PR.getD i 0 = p0 at *
      have i0 : (0 : Int) ≤ i := by omega
      have i1 : (i : Int) < 8 := by omega
      clear hH hp1
      go_wp2_with fail
      refine (HN.out _).mono ?_
      rintro e w1 ⟨rfl, rfl⟩
      go_wp2_with fail
      refine (HR.out _).mono ?_
      rintro e w2 ⟨rfl, hb2⟩
      have h2 := HH.out.later hb2
      have c0 := row_cell h2.hh i (by omega)
      have f0 := row_free h2.hh i
      have h3 := h2.store i (ST.getD i 0)
      rw [hset.out] at h3
      have H3 := Lib.hid h3
      clear h2 h3 hb2 HH HN HR
      generalize ST.getD i 0 = v at *
      go_wp2_with fail
      go_roundw
      case rel => exact ⟨i + 1, by omega, by rw [HP1.out], by go_num, H3.out⟩
      case measure => simp [intOf]; omega
    · obtain rfl : i = 8 := by omega
      rw [show ((8 : Nat) : Int) = 8 from rfl]
      rw [st8_all] at hH
      have hcr := hH.hr
      have hch := hH.hh
      have hfin : Below w.heap.size w (wr.setRow w.heap.size (cw .u32 ST)) := below_setRow hH.below (Nat.le_refl _) _
      have hrow := setRow_heap wr w.heap.size (cw .u32 (zr 8)) (cw .u32 ST) 23 (0, 0) hcr
      have CR := Lib.hid hcr
      have CH := Lib.hid hch
      have HF := Lib.hid hfin
      have HW := Lib.hid hrow
      clear hcr hch hfin hrow hH hlt hi
      go_wp2_with (first | (with_reducible refine wpList_load_row rfl 23 _ rfl (w.heap.size + 1) rfl 23 (cw .u32 ST) (0, 0) _ ?_ Tryd.underlying23 rfl ?_ ?_) | (with_reducible refine wpList_store_row rfl 23 _ _ rfl w.heap.size _ rfl rfl 23 (cw .u32 (zr 8)) ?_ ?_ ?_ ?_ ?_))
      · exact CH.out
      · kernel_rfl
      · exact CR.out
      · kernel_rfl
      · rfl
      · exact cw_one _ _
      · go_wp2_with fail
        exact bodyPost_ret (results_cell_row rfl _ _ w.heap.size 23 _ (0, 0) _ rfl HW.out Tryd.underlying23 rfl (by kernel_rfl)) rfl ⟨rfl, HF.out⟩
end Go.Proofs.YtemioilfedpohaaDoor
