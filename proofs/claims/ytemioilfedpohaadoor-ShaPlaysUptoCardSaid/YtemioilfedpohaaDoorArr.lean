/- An argument that is an array of whole numbers, opened and shut: its numbers are one list. -/
import Derived.Test.YtemioilfedpohaaDoorEqr
import Derived.OpenShut
import Derived.ProofKit
import Derived.Lib.LaidTab
namespace Go.Proofs.YtemioilfedpohaaDoor

section
variable {H : Type} {enc : TypeId × Value → H} {P : Program} {w : World} {base : Nat} {spare : Nat → Bool} {held : Bool}

theorem row_nats {k : IntKind} {B : Nat} : ∀ (cs : List Value) (xs : List (DataW H × List MemPlace)), cs.length = xs.length →
    (∀ i, i < cs.length → ∃ x : Nat, x < B ∧ cs[i]? = some (.int k (x : Int)) ∧ xs[i]? = some (.lit (.int k (x : Int)), [])) →
    ∃ ns : List Nat, cs = ns.map (fun (x : Nat) => Value.int k (x : Int)) ∧ xs = ns.map (fun (x : Nat) => ((.lit (.int k (x : Int)) : DataW H), ([] : List MemPlace))) ∧ ∀ x ∈ ns, x < B
  | [], [], _, _ => ⟨[], rfl, rfl, by simp⟩
  | c :: cs, x :: xs, hl, h => by
    obtain ⟨y, hy, h1, h2⟩ := h 0 (by simp)
    simp only [List.getElem?_cons_zero, Option.some.injEq] at h1 h2
    obtain ⟨ns, e1, e2, e3⟩ := row_nats cs xs (by simpa using hl) (fun i hi => by
      have := h (i + 1) (by simp; omega)
      simpa using this)
    refine ⟨y :: ns, ?_, ?_, ?_⟩
    · simp [h1, e1]
    · simp [h2, e2]
    · intro z hz
      rcases List.mem_cons.1 hz with rfl | hz
      · exact hy
      · exact e3 z hz
  | [], _ :: _, hl, _ => by simp at hl
  | _ :: _, [], hl, _ => by simp at hl

theorem open_row_nat {t e : TypeId} {n B : Nat} {k : IntKind} {r : Reach} {b0 : Nat} {v : Value} {d : DataW H} {ps : List MemPlace} (ht : P.underlying t = some (.array n e)) (he : P.underlying e = some (.int k)) (hce : P.cellsOf e = 1)
    (hct : P.cellsOf t = n) (hB : ∀ z : Int, (Lit.int k z).wf = true → 0 ≤ z ∧ z < B) (hval : Value.okWide P w r b0 t v) (hd : DataW.Trod enc P w base spare held t v d ps) :
    ∃ ns : List Nat, v = .agg (cwE k ns) ∧ d = .agg (ns.map fun (x : Nat) => .lit (.int k (x : Int))) ∧ ps = [] ∧ ns.length = n ∧ ∀ x ∈ ns, x < B := by
  simp only [Value.okWide, ht] at hval
  obtain ⟨cs, rfl, hsz, _⟩ := hval
  obtain ⟨fuel, hf⟩ := hd
  obtain ⟨xs, m, _, hx, hl, hn, hel⟩ := DataW.trod_array ht hf
  simp only [Value.cells] at hl hel
  have hcl : cs.toList.length = n := by rw [hl, hct]
  obtain ⟨ns, e1, e2, e3⟩ := row_nats (k := k) (B := B) cs.toList xs (by rw [hcl, hn]) (fun i hi => by
    have hi' : i < n := by omega
    have h1 := hel i hi'
    have hx' : xs[i]? = some xs[i] := List.getElem?_eq_getElem (by omega)
    rw [hce, hx'] at h1
    obtain ⟨z, hcz, hxz, hw⟩ := DataW.trod_int he h1
    have hz := hB z hw
    obtain ⟨x, rfl⟩ := Int.eq_ofNat_of_zero_le hz.1
    refine ⟨x, by omega, ?_, by rw [hx', hxz]⟩
    have := congrArg (·[0]?) hcz
    simpa [List.getElem?_take, List.getElem?_drop] using this)
  refine ⟨ns, ?_, ?_, ?_, ?_, e3⟩
  · congr 1
    apply Array.ext'
    rw [e1]
    rfl
  · have := congrArg Prod.fst hx
    simp only [e2, List.map_map] at this
    exact this
  · have := congrArg Prod.snd hx
    simp only [e2] at this
    rw [this]
    simp
  · have := congrArg List.length e2
    simp at this
    omega

theorem mapM_range_some {α : Type} (f : Nat → Option α) (g : Nat → α) : ∀ L : List Nat, (∀ i ∈ L, f i = some (g i)) → L.mapM f = some (L.map g)
  | [], _ => rfl
  | i :: L, h => by
    rw [List.mapM_cons, h i (by simp), mapM_range_some f g L (fun j hj => h j (by simp [hj]))]
    rfl

theorem shut_row_nat {t e : TypeId} {n : Nat} {k : IntKind} {ns : List Nat} (ht : P.underlying t = some (.array n e)) (he : P.underlying e = some (.int k)) (hce : P.cellsOf e = 1)
    (hct : P.cellsOf t = n) (hl : ns.length = n) (hw : ∀ x ∈ ns, (Lit.int k ((x : Nat) : Int)).wf = true) :
    DataW.Trod enc P w base spare held t (.agg (cwE k ns)) (.agg (ns.map fun (x : Nat) => .lit (.int k (x : Int)))) [] := by
  refine ⟨2, ?_⟩
  have hc : (Value.agg (cwE k ns)).cells.toList = ns.map fun (x : Nat) => Value.int k (x : Int) := rfl
  rw [hc]
  unfold DataW.trod
  rw [ht]
  simp only []
  rw [if_pos (by rw [List.length_map, hl, hct])]
  rw [mapM_range_some _ (fun i => ((.lit (.int k ((ns.getD i 0 : Nat) : Int)) : DataW H), ([] : List MemPlace))) (List.range n) (fun i hi => by
    have hi' : i < ns.length := by have := List.mem_range.1 hi; omega
    have hone : ((ns.map fun (x : Nat) => Value.int k (x : Int)).drop (i * P.cellsOf e)).take (P.cellsOf e) = [Value.int k ((ns.getD i 0 : Nat) : Int)] := by
      rw [hce, Nat.mul_one]
      rw [List.drop_eq_getElem_cons (by simpa using hi')]
      simp [hi']
    rw [hone]
    unfold DataW.trod
    rw [he]
    have hwi := hw (ns.getD i 0) (by rw [List.getD_eq_getElem?_getD, List.getElem?_eq_getElem hi']; simp)
    simp only [hwi, and_self, if_true])]
  have hm : (List.range n).map (fun i => ns.getD i 0) = ns := by
    apply List.ext_getElem?
    intro i
    by_cases hi : i < n
    · simp [hi, hl ▸ hi]
    · rw [List.getElem?_eq_none (by simp; omega), List.getElem?_eq_none (by omega)]
  simp only [Option.map_some, List.map_map, Option.some.injEq, Prod.mk.injEq]
  constructor
  · congr 1
    conv => rhs; rw [← hm]
    rw [List.map_map]
    rfl
  · simp [List.flatMap]
end

theorem wf_u32 {z : Int} (h : (Lit.int .u32 z).wf = true) : 0 ≤ z ∧ z < (4294967296 : Nat) := by have := bounds_u32 h; omega
theorem wf_u8 {z : Int} (h : (Lit.int .u8 z).wf = true) : 0 ≤ z ∧ z < (256 : Nat) := by have := bounds_u8 h; omega
theorem u32_wf {x : Nat} (h : x < 4294967296) : (Lit.int .u32 (x : Int)).wf = true := by
  simp [Lit.wf, IntKind.min, IntKind.max, IntKind.signed, IntKind.bits]; omega
theorem u8_wf {x : Nat} (h : x < 256) : (Lit.int .u8 (x : Int)).wf = true := by
  simp [Lit.wf, IntKind.min, IntKind.max, IntKind.signed, IntKind.bits]; omega
end Go.Proofs.YtemioilfedpohaaDoor
