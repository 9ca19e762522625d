/- The packer's map: of four bytes the place where they stood last. -/
import Derived.Test.YtikbbofjkchppaaFour
import Derived.Maps.Views
import Derived.DeepKeys4
import Derived.DeepKeys5
namespace Go.Proofs.Ytikbbofjkchppaa
set_option linter.unusedVariables false
set_option linter.unusedSimpArgs false
open Go.RowKit
open Go.Maps (Keyed IsMap)

theorem laidOutP : laidOutB Try.prog = true := by kernel_rfl
theorem keyed4 : Keyed Try.prog 88 := Keyed.of_law (deep_law_laid laidOutP (m := 5) (by decide) (of_decide_eq_true (by kernel_rfl)) (by kernel_rfl) (by kernel_rfl))

/-- how a row of four bytes reads as a key -/
def klit (ws : List Nat) : Lit := .string (keyBytes (ws.map fun (n : Nat) => Lit.int .u8 (n : Int)))
theorem keyOf4 (a b c d : Nat) (ha : a < 256) (hb : b < 256) (hc : c < 256) (hd : d < 256) : keyOf Try.prog 88 (.agg (cw .u8 [a, b, c, d])) = some (klit [a, b, c, d]) := by
  have h1 : Try.prog.keyType 88 = true := by kernel_rfl
  have h2 : Try.prog.cellsOf 88 = 4 := by kernel_rfl
  have h3 : Try.prog.cellsOf 5 = 1 := by kernel_rfl
  have hw : ∀ n : Nat, n < 256 → (Lit.int .u8 (n : Int)).wf = true := by
    intro n hn
    simp [Lit.wf, IntKind.min, IntKind.max, IntKind.signed, IntKind.bits]
    omega
  obtain ⟨m, hm⟩ : ∃ m, Try.prog.types.size + 1 = m + 2 := ⟨Try.prog.types.size - 1, by
    have : 1 ≤ Try.prog.types.size := of_decide_eq_true (by kernel_rfl)
    omega⟩
  have hk : Try.prog.keyLits (Try.prog.types.size + 1) 88 [.int .u8 (a : Int), .int .u8 (b : Int), .int .u8 (c : Int), .int .u8 (d : Int)] = some [.int .u8 (a : Int), .int .u8 (b : Int), .int .u8 (c : Int), .int .u8 (d : Int)] := by
    rw [hm]
    simp [Program.keyLits, Try.underlying88, Try.underlying5, h2, h3, hw _ ha, hw _ hb, hw _ hc, hw _ hd, List.range_succ]
  unfold keyOf
  rw [Try.underlying88]
  simp only [h1, Value.formed, Try.underlying88, h2, cw_size, Value.cells]
  have e : (cw .u8 [a, b, c, d]).toList = [.int .u8 (a : Int), .int .u8 (b : Int), .int .u8 (c : Int), .int .u8 (d : Int)] := rfl
  rw [e, hk]
  rfl

/-- four bytes -/
def Win (ws : List Nat) : Prop := ws.length = 4 ∧ Bytes ws
theorem win_is (s : ByteArray) (i : Nat) (h : i + 4 ≤ s.size) : Win (win (nb s) i) := by
  refine ⟨rfl, ?_⟩
  have hb : ∀ j, j < s.size → (nb s).getD j 0 < 256 := fun j hj => by
    rw [getD_nb s j hj]; exact UInt8.toNat_lt _
  intro x hx
  simp only [win, List.mem_cons, List.not_mem_nil, or_false] at hx
  rcases hx with rfl | rfl | rfl | rfl
  · exact hb _ (by omega)
  · exact hb _ (by omega)
  · exact hb _ (by omega)
  · exact hb _ (by omega)
theorem key_win {ws : List Nat} (h : Win ws) : keyOf Try.prog 88 (.agg (cw .u8 ws)) = some (klit ws) := by
  obtain ⟨hl, hb⟩ := h
  match ws, hl with
  | [a, b, c, d], _ => exact keyOf4 a b c d (hb a (by simp)) (hb b (by simp)) (hb c (by simp)) (hb d (by simp))
theorem cw_inj {k : IntKind} {xs ys : List Nat} (h : cw k xs = cw k ys) : xs = ys := by
  have h1 := congrArg Array.toList h
  simp only [cw] at h1
  exact (List.map_inj_right (fun a b hab => by injection hab with _ h2; omega)).1 h1
theorem klit_inj {ws vs : List Nat} (h : Win ws) (h' : Win vs) (e : klit ws = klit vs) : ws = vs := by
  have h1 := key_win h
  have h2 := key_win h'
  rw [← e] at h2
  have := keyed4.inj h1 h2
  injection this with h3
  exact cw_inj h3

/-- block b is a map of at most n entries that tells of four bytes what F tells -/
def LastMap (w : World) (b n : Nat) (F : List Nat → Option Nat) : Prop :=
  ∃ D : DataW Unit, w.ownsMap Try.prog 88 (plainElem Try.prog 3) b n D ∧ IsMap D ∧ ∀ ws, Win ws → D.atKey (klit ws) .nil = match F ws with | none => .nil | some c => .lit (.int .i64 (c : Int))
theorem LastMap.kept {w w' : World} {b n : Nat} {F : List Nat → Option Nat} {row : Option Nat} (h : LastMap w b n F) (hg : w.grownBy w' row) (hne : some b ≠ row) : LastMap w' b n F := by
  obtain ⟨D, h1, h2, h3⟩ := h
  exact ⟨D, h1.kept hg hne, h2, h3⟩
theorem LastMap.lt {w : World} {b n : Nat} {F : List Nat → Option Nat} (h : LastMap w b n F) : b < w.heap.size := by
  obtain ⟨D, h1, _⟩ := h
  exact h1.lt
theorem LastMap.made (w : World) : LastMap (w.alloc (.map #[] 0)) w.heap.size 0 (fun _ => none) :=
  ⟨.map [], World.ownsMap_made w _ _ _, Go.Maps.isMap_empty, fun _ _ => rfl⟩
theorem zero_int (w : World) : (zeroValue 3).run Try.prog w = .ok (.int .i64 0) w :=
  (zero_of_info (P := Try.prog) (t := 3) (v := .int .i64 0) (n := 1) (by kernel_rfl)).1 w
/-- 'c, ok := m[k]' -/
theorem LastMap.look {w : World} {b n : Nat} {F : List Nat → Option Nat} (h : LastMap w b n F) {ws : List Nat} (hw : Win ws) :
    (Instr.lookup 69 (.map (some b)) (.agg (cw .u8 ws)) true).run Try.prog w = .ok (.tuple #[.int .i64 (((F ws).getD 0 : Nat) : Int), .bool (F ws).isSome]) w := by
  obtain ⟨D, ⟨es, clock, hb, hF, hs, rfl⟩, hm, hat⟩ := h
  have h3 := hat ws hw
  rcases Go.Maps.fit_look true keyed4 Try.underlying69 (zero_int w) hb hF (key_win hw) with ⟨hrun, _, hz⟩ | ⟨e0, y, _, _, hrun, hR, hz, _⟩
  · rw [hz .nil] at h3
    cases hf : F ws with
    | none => rw [hrun]; rfl
    | some c => rw [hf] at h3; cases h3
  · rw [hz .nil] at h3
    obtain ⟨a, ha, hy, _⟩ := plainElem_int_inv Try.underlying3 hR
    cases hf : F ws with
    | none => rw [hf, hy] at h3; cases h3
    | some c =>
      rw [hf, hy] at h3
      have : a = (c : Int) := by
        injection h3 with h4
        injection h4
      rw [hrun, ha, this]
      rfl
/-- 'm[k] = c' -/
theorem LastMap.store {w : World} {b n : Nat} {F : List Nat → Option Nat} (h : LastMap w b n F) {ws : List Nat} (hw : Win ws) (c : Nat) (hc : c < 9223372036854775808) (hn : n < maxLen) :
    ∃ w', (Instr.mapUpdate 69 (.map (some b)) (.agg (cw .u8 ws)) (.int .i64 (c : Int))).run Try.prog w = .ok () w' ∧ LastMap w' b (n + 1) (fun x => if x = ws then some c else F x) ∧ w.grownBy w' (some b) := by
  obtain ⟨D, h1, h2, h3⟩ := h
  have hwf : (Lit.int .i64 (c : Int)).wf = true := by
    simp [Lit.wf, IntKind.min, IntKind.max, IntKind.signed, IntKind.bits]
    omega
  obtain ⟨w', hrun, hown, hg⟩ := h1.update keyed4 Try.underlying69 hn (key_win hw) (plainElem_int Try.underlying3 hwf)
  refine ⟨w', hrun, ⟨_, hown, h2.put _ _, fun x hx => ?_⟩, hg⟩
  dsimp only
  by_cases e : x = ws
  · rw [if_pos e, e, Go.Maps.atKey_put_same h2 (keyed4.key (key_win hw))]
  · rw [if_neg e, Go.Maps.atKey_put_other (fun he => e (klit_inj hx hw he))]
    exact h3 x hx
end Go.Proofs.Ytikbbofjkchppaa

