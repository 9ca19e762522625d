/- The walk of WholeBytes, its lemmas. A tree that came in as a datum. The small questions to a parser: what it holds, its fault, what it has taken. -/
import Derived.Test.YtlcppkcclolgcaaDoorDBi
import Derived.Test.YtlcppkcclolgcaaDoorRows
import Derived.WalkKit
import Derived.ProofKit
import Derived.OpenShut
import Derived.ShutString
import Derived.JoinedCond
import Derived.Below
import Derived.SizedLaws
import Derived.Deep.Strs
import Derived.ChangeArms
namespace Go.Proofs.YtlcppkcclolgcaaDoor
set_option linter.unusedVariables false
set_option linter.unusedSimpArgs false
open Go.RowKit
theorem IsRow.later {k : IntKind} {w w' : World} {a : Option Addr} {len cap : Nat} {zs : List Int} (h : IsRow k w a len cap zs) (hb : Below w.heap.size w w') : IsRow k w' a len cap zs := by
  rcases h with h | ⟨x, rfl, h1, h2, h3, h4, h5⟩
  · exact .inl h
  · refine .inr ⟨x, rfl, h1, h2, h3, fun i hi => ?_, h5⟩
    have hc := h4 i hi
    exact (hb.cell (block_lt_of_cell hc)).trans hc
theorem PcS.at_ {w0 w : World} {v : Value} {s : ByteArray} {p : Nat} {pcs : List ByteArray} (H : PcS w0 w v s p pcs) (h : 0 < pcs.length) :
    ∃ g c, v = .slice (some ⟨g, 0, none⟩) pcs.length c ∧ w0.heap.size ≤ g ∧ g < w.heap.size ∧ ∀ j, j < pcs.length → w.cell? ⟨g, j, none⟩ = some (.string (pcs.getD j emp)) := by
  have ho := H.own
  obtain ⟨_, ⟨_, h0⟩ | ⟨g, cap, cur, rfl, hb, hg, _⟩⟩ := H.own
  · omega
  · refine ⟨g, cap, rfl, hb, (ho.lt g rfl).2, fun j hj => ?_⟩
    have h1 := ho.cellAt j (by omega)
    rw [h1, List.getElem?_map, List.getElem?_eq_getElem hj, List.getD_eq_getElem?_getD, List.getElem?_eq_getElem hj]
    rfl
theorem pieces_at (s : ByteArray) (hs : s.size ≤ 140737488351232) (a : Option Addr) (len cap : Nat) (zs : List Int) (w : World) (hrow : IsRow .i64 w a len cap zs) (hlen : len ≤ 1048576) :
    Calls Tryd.prog 9 #[.string s, .slice a len cap] w fun e w' => ∃ (pcs : List ByteArray) (g gc : Nat), e = .returned (.slice (some ⟨g, 0, none⟩) pcs.length gc) ∧ PcS w w' (.slice (some ⟨g, 0, none⟩) pcs.length gc) s s.size pcs ∧ pcs.length = len + 1 ∧ w.heap.size ≤ g ∧ g < w'.heap.size ∧ (∀ j, j < pcs.length → w'.cell? ⟨g, j, none⟩ = some (.string (pcs.getD j emp))) := by
  refine (pieces_any s hs a len cap zs w hrow hlen).mono ?_
  rintro e w' ⟨v, pcs, rfl, hpc, hpl⟩
  obtain ⟨g, gc, rfl, hg1, hg2, hcells⟩ := hpc.at_ (by omega)
  exact ⟨pcs, g, gc, rfl, hpc, hpl, hg1, hg2, hcells⟩
/-- the parser has been fed the first k pieces -/
def fedK (pcs : List ByteArray) (k : Nat) : PS := PS.new.feed ((pcs.take k).map nb).flatten
theorem fedK_zero (pcs : List ByteArray) : fedK pcs 0 = PS.new := rfl
theorem fedK_succ (pcs : List ByteArray) (k : Nat) (h : k < pcs.length) : (fedK pcs k).feed (nb (pcs.getD k emp)) = fedK pcs (k + 1) := by
  unfold fedK
  rw [← feed_append, List.take_add_one, List.getElem?_eq_getElem h, List.getD_eq_getElem?_getD, List.getElem?_eq_getElem h, List.map_append, List.flatten_append]
  simp only [Option.toList_some, List.map_cons, List.map_nil, List.flatten_cons, List.flatten_nil, List.append_nil, Option.getD_some]
theorem fedK_all {w0 w : World} {v : Value} {s : ByteArray} {pcs : List ByteArray} (H : PcS w0 w v s s.size pcs) : fedK pcs pcs.length = prs s := by
  unfold fedK prs
  rw [List.take_length, H.txt, List.take_of_length_le (by rw [nb_length]; omega)]
theorem fedK_inv (pcs : List ByteArray) (k : Nat) : PInv (fedK pcs k) ((pcs.take k).map nb).flatten := new_inv (fun x hx => by
  obtain ⟨l, hl, hx⟩ := List.mem_flatten.1 hx
  obtain ⟨t, _, rfl⟩ := List.mem_map.1 hl
  exact nb_bytes t x hx)
theorem piece_le {w0 w : World} {v : Value} {s : ByteArray} {pcs : List ByteArray} (H : PcS w0 w v s s.size pcs) (k : Nat) (h : k < pcs.length) : (pcs.getD k emp).size ≤ s.size := by
  have h1 : nb (pcs.getD k emp) ∈ pcs.map nb := by
    rw [List.getD_eq_getElem?_getD, List.getElem?_eq_getElem h]
    exact List.mem_map_of_mem (List.getElem_mem h)
  have h2 := (List.sublist_flatten_of_mem h1).length_le
  rw [H.txt, nb_length, List.length_take, nb_length] at h2
  omega
theorem close_code0 {s : ByteArray} (h : clC (prs s) = 0) : (prs s).code = 0 ∧ (prs s).x.whole = true := by
  unfold clC PS.close at h
  have hs := (prs_inv s).shut
  by_cases hc : (prs s).shut = false ∧ (prs s).x.whole = false ∧ (prs s).code = 0
  · rw [if_pos hc] at h
    exact absurd h (by show (4 : Int) ≠ 0; decide)
  · rw [if_neg hc] at h
    refine ⟨h, ?_⟩
    cases hw : (prs s).x.whole with
    | true => rfl
    | false => exact absurd ⟨hs, hw, h⟩ hc
theorem clN_good {s : ByteArray} (h : clC (prs s) = 0) : serE (clN (prs s)) = 0 ∧ arc (clN (prs s)) = nb s := by
  obtain ⟨h1, h2⟩ := close_code0 h
  have h3 := parse_sound (nb_bytes s) h1 h2
  have e : clN (prs s) = (prs s).x.root := by unfold clN; exact if_pos h
  rw [e]
  exact h3
theorem clN_bad {s : ByteArray} (h : clC (prs s) ≠ 0) : clN (prs s) = .leaf 0 false emp := by unfold clN; exact if_neg h
theorem clN_cnts (s : ByteArray) : (clN (prs s)).cnts 1048576 := by
  by_cases h : clC (prs s) = 0
  · exact (serE_small (clN_good h).1).cnts
  · rw [clN_bad h]
    exact trivial
theorem clN_small (s : ByteArray) : (clN (prs s)).small 1048576 := by
  by_cases h : clC (prs s) = 0
  · exact serE_small (clN_good h).1
  · rw [clN_bad h]
    exact Nat.zero_le _
theorem serT_good {s : ByteArray} (h : clC (prs s) = 0) : serT (clN (prs s)) = s := by
  unfold serT
  rw [if_pos (clN_good h).1, (clN_good h).2, strOf_nb]
theorem serT_is {s : ByteArray} {o : ND} (h : serE o = 0) (ht : serT o = s) : clN (prs s) = o ∧ clC (prs s) = 0 := by
  unfold serT at ht
  rw [if_pos h] at ht
  obtain ⟨h1, h2, _⟩ := prs_arc h
  rw [ht] at h1 h2
  exact ⟨h1, h2⟩
theorem clA_le (s : ByteArray) : clA (prs s) ≤ s.size := by
  have hi := prs_inv s
  have h1 := hi.bad
  have h2 := hi.len
  rw [nb_length] at h1 h2
  have h3 : (prs s).close.fat = (prs s).fat ∨ (prs s).close.fat = (prs s).at_ := by
    unfold PS.close
    split
    · exact .inr rfl
    · exact .inl rfl
  unfold clA
  split
  · exact Nat.zero_le _
  · rcases h3 with h3 | h3
    · rw [h3]; exact h1
    · rw [h3]; exact h2
end Go.Proofs.YtlcppkcclolgcaaDoor

namespace Go.Proofs.YtlcppkcclolgcaaDoor
open Go.ChangeShapes Go.WideShapes Go.ChangeAt Go.RowKit
set_option linter.unusedVariables false
theorem cellsN : Tryd.prog.cellsOf 25 = 4 := by kernel_rfl
theorem cellsE : Tryd.prog.cellsOf 95 = 5 := by kernel_rfl
theorem cellsK : Tryd.prog.cellsOf 22 = 1 := by kernel_rfl
theorem cellsBo : Tryd.prog.cellsOf 4 = 1 := by kernel_rfl
theorem cellsSt : Tryd.prog.cellsOf 9 = 1 := by kernel_rfl
theorem cellsSl : Tryd.prog.cellsOf 23 = 1 := by kernel_rfl
theorem bulk_append {H : Type} (l r : List (DataW H)) : Rows.uptoBulkAll (l ++ r) = Rows.uptoBulkAll l + Rows.uptoBulkAll r := by
  induction l with
  | nil => simp [Rows.uptoBulkAll]
  | cons x l ih => simp only [List.cons_append, Rows.uptoBulkAll, ih]; omega
theorem bulk_pos {H : Type} (d : DataW H) : 1 ≤ Rows.uptoBulk d := by
  cases d with
  | lit l => cases l <;> simp [Rows.uptoBulk]
  | _ => simp [Rows.uptoBulk]
theorem bulk_range {H : Type} (D : Nat → DataW H) (len : Nat) : len ≤ Rows.uptoBulkAll ((List.range len).map D) ∧ ∀ i, i < len → Rows.uptoBulk (D i) ≤ Rows.uptoBulkAll ((List.range len).map D) := by
  induction len with
  | zero => exact ⟨Nat.zero_le _, fun i h => absurd h (Nat.not_lt_zero _)⟩
  | succ k ih =>
    rw [List.range_succ, List.map_append, bulk_append]
    have h1 : Rows.uptoBulkAll (List.map D [k]) = Rows.uptoBulk (D k) := by simp [Rows.uptoBulkAll]
    have h2 := bulk_pos (D k)
    rw [h1]
    refine ⟨by omega, fun i hi => ?_⟩
    by_cases e : i = k
    · rw [e]; omega
    · have := ih.2 i (by omega)
      omega
theorem trod_struct2 {H : Type} {enc : TypeId × Value → H} {P : Program} {w : World} {base : Nat} {spare : Nat → Bool} {held : Bool} {t : TypeId} {f0 f1 : Field} {fuel : Nat} {cs : List Value} {x : DataW H × List MemPlace} (ht : P.underlying t = some (.struct #[f0, f1])) (h : DataW.trod enc P w base spare held fuel t cs = some x) :
    ∃ y0 y1 n, x = (.agg [y0.1, y1.1], y0.2 ++ y1.2) ∧ cs.length = P.cellsOf t ∧ DataW.trod enc P w base spare held n f0.type ((cs.drop f0.offset).take (P.cellsOf f0.type)) = some y0 ∧
      DataW.trod enc P w base spare held n f1.type ((cs.drop f1.offset).take (P.cellsOf f1.type)) = some y1 := by
  obtain ⟨xs, n, _, rfl, hl, hlen, hf⟩ := DataW.trod_struct ht h
  match xs, hlen with
  | [y0, y1], _ => exact ⟨y0, y1, n, by simp, hl, by simpa using hf 0 f0 rfl, by simpa using hf 1 f1 rfl⟩
theorem trod_struct4 {H : Type} {enc : TypeId × Value → H} {P : Program} {w : World} {base : Nat} {spare : Nat → Bool} {held : Bool} {t : TypeId} {f0 f1 f2 f3 : Field} {fuel : Nat} {cs : List Value} {x : DataW H × List MemPlace} (ht : P.underlying t = some (.struct #[f0, f1, f2, f3])) (h : DataW.trod enc P w base spare held fuel t cs = some x) :
    ∃ y0 y1 y2 y3 n, x.1 = .agg [y0.1, y1.1, y2.1, y3.1] ∧ cs.length = P.cellsOf t ∧ DataW.trod enc P w base spare held n f0.type ((cs.drop f0.offset).take (P.cellsOf f0.type)) = some y0 ∧
      DataW.trod enc P w base spare held n f1.type ((cs.drop f1.offset).take (P.cellsOf f1.type)) = some y1 ∧ DataW.trod enc P w base spare held n f2.type ((cs.drop f2.offset).take (P.cellsOf f2.type)) = some y2 ∧
      DataW.trod enc P w base spare held n f3.type ((cs.drop f3.offset).take (P.cellsOf f3.type)) = some y3 := by
  obtain ⟨xs, n, _, rfl, hl, hlen, hf⟩ := DataW.trod_struct ht h
  match xs, hlen with
  | [y0, y1, y2, y3], _ => exact ⟨y0, y1, y2, y3, n, by simp, hl, by simpa using hf 0 f0 rfl, by simpa using hf 1 f1 rfl, by simpa using hf 2 f2 rfl, by simpa using hf 3 f3 rfl⟩
/-- a node with the kids that a function tells -/
def kidsN (kd : Int) (ex : Bool) (tx : ByteArray) (f : Nat → ByteArray × ND) : Nat → ND
  | 0 => .leaf kd ex tx
  | j + 1 => .add (kidsN kd ex tx f j) (f j).1 (f j).2
theorem kidsN_own (kd : Int) (ex : Bool) (tx : ByteArray) (f : Nat → ByteArray × ND) (j : Nat) : (kidsN kd ex tx f j).kind = kd ∧ (kidsN kd ex tx f j).exec = ex ∧ (kidsN kd ex tx f j).text = tx ∧ (kidsN kd ex tx f j).cnt = j := by
  induction j with
  | zero => exact ⟨rfl, rfl, rfl, rfl⟩
  | succ j ih => exact ⟨ih.1, ih.2.1, ih.2.2.1, by show (kidsN kd ex tx f j).cnt + 1 = j + 1; rw [ih.2.2.2]⟩
/-- a kid lies at a place -/
def KidAt (W : World) (q : Addr) (s : ByteArray) (c : ND) : Prop :=
  ∃ a cap, W.cell? q = some (.string s) ∧ W.cell? ⟨q.block, q.off + 1, none⟩ = some (.int .i64 c.kind) ∧ W.cell? ⟨q.block, q.off + 2, none⟩ = some (.bool c.exec) ∧ W.cell? ⟨q.block, q.off + 3, none⟩ = some (.string c.text) ∧ W.cell? ⟨q.block, q.off + 4, none⟩ = some (.slice a c.cnt cap) ∧ c.In W.heap.size W a
theorem kidsN_at (W : World) (x : Addr) (kd : Int) (ex : Bool) (tx : ByteArray) (f : Nat → ByteArray × ND) (j : Nat) (h : ∀ i, i < j → KidAt W (x.add (i * 5)) (f i).1 (f i).2) : (kidsN kd ex tx f j).At W.heap.size W x := by
  induction j with
  | zero => trivial
  | succ j ih =>
    obtain ⟨a, cap, c0, c1, c2, c3, c4, hc⟩ := h j (Nat.lt_succ_self j)
    have hx : x.block < W.heap.size := by
      have := block_lt_of_cell c0
      rwa [block_add] at this
    refine ⟨ih (fun i hi => h i (by omega)), hx, a, cap, ?_, ?_, ?_, ?_, ?_, hc⟩ <;> rw [(kidsN_own kd ex tx f j).2.2.2] <;> assumption
theorem kidsN_small (kd : Int) (ex : Bool) (tx : ByteArray) (f : Nat → ByteArray × ND) (m j : Nat) (ht : tx.size ≤ m) (hj : j ≤ m) (h : ∀ i, i < j → (f i).1.size ≤ m ∧ (f i).2.small m) : (kidsN kd ex tx f j).small m := by
  induction j with
  | zero => exact ht
  | succ j ih => exact ⟨ih (by omega) (fun i hi => h i (by omega)), (h j (Nat.lt_succ_self j)).1, (h j (Nat.lt_succ_self j)).2, by rw [(kidsN_own kd ex tx f j).2.2.2]; exact hj⟩
theorem at_off {x : Addr} {i : Nat} (h : 0 < i) : x.add i = ⟨x.block, x.off + i, none⟩ := by unfold Addr.add; rw [if_neg (by omega)]
theorem add_off (x : Addr) (i j : Nat) (hj : 0 < j) : (x.add i).add j = ⟨(x.add i).block, (x.add i).off + j, none⟩ := at_off hj
set_option maxRecDepth 100000 in
theorem open_node {H : Type} {enc : TypeId × Value → H} {W : World} : ∀ (k : Nat) {fuel : Nat} {cs : List Value} {d : DataW H} {p : List MemPlace}, Rows.uptoBulk d ≤ k →
    DataW.trod enc Tryd.prog W 0 (fun _ => true) true fuel 25 cs = some (d, p) → ∃ (n : ND) (a : Option Addr) (cap : Nat), cs = [.int .i64 n.kind, .bool n.exec, .string n.text, .slice a n.cnt cap] ∧ n.In W.heap.size W a ∧ ∀ m, Rows.uptoBulk d ≤ m → n.small m := by
  intro k
  induction k with
  | zero => intro _ _ d _ h _; have := bulk_pos d; omega
  | succ k ih =>
    intro fuel cs d p hk h
    obtain ⟨y0, y1, y2, y3, nf, hd, hl, g0, g1, g2, g3⟩ := trod_struct4 Tryd.underlying25 h
    rw [cellsN] at hl
    match cs, hl with
    | [u0, u1, u2, u3], _ =>
      simp only [cellsK, cellsBo, cellsSt, cellsSl, List.drop_zero, List.take_succ_cons, List.take_zero, List.drop_succ_cons] at g0 g1 g2 g3
      obtain ⟨kd, e0, rfl, _⟩ := DataW.trod_int Tryd.underlying22 g0
      obtain ⟨ex, e1, rfl⟩ := DataW.trod_bool Tryd.underlying4 g1
      obtain ⟨tx, e2, rfl, _⟩ := DataW.trod_string Tryd.underlying9 g2
      simp only [List.cons.injEq, and_true] at e0 e1 e2
      subst e0 e1 e2
      simp only at hd
      have htl : tx.data.toList.length = tx.size := by rw [Array.length_toList]; rfl
      rcases Go.Deep.open_slice Tryd.underlying23 g3 with ⟨hcs, rfl⟩ | ⟨x, len, cap, m, n', D, Pl, hcs, hb, hle, hm, hmm, rfl, hi⟩
      · simp only [List.cons.injEq, and_true] at hcs
        subst hcs
        refine ⟨.leaf kd ex tx, none, 0, rfl, .inl rfl, fun m hm => ?_⟩
        rw [hd] at hm
        simp only [Rows.uptoBulk, Rows.uptoBulkAll] at hm
        show tx.size ≤ m
        omega
      · simp only [List.cons.injEq, and_true] at hcs
        subst hcs
        have hmc : len ≤ m := by rw [hmm]; simpa using hle
        have hbr := bulk_range D len
        have hdb : Rows.uptoBulk d = 1 + (1 + (tx.data.toList.length + 1 + (Rows.uptoBulkAll ((List.range len).map D) + Rows.uptoBulkAll ((List.range (m - len)).map fun j => D (len + j)) + 1 + 0) + 0)) + 1 := by
          rw [hd]
          simp only [Rows.uptoBulk, Rows.uptoBulkAll]
          omega
        have each : ∀ i, i < len → ∃ c : ByteArray × ND, KidAt W (x.add (i * 5)) c.1 c.2 ∧ ∀ mm, Rows.uptoBulk d ≤ mm → c.1.size ≤ mm ∧ c.2.small mm := by
          intro i hi'
          obtain ⟨cs', hc, ht⟩ := hi i (by omega)
          rw [cellsE] at hc
          obtain ⟨_, hcl, hat⟩ := World.cells?_some hc
          obtain ⟨z0, z1, n2, hy, hlen, q0, q1⟩ := trod_struct2 Tryd.underlying95 ht
          match cs', hcl with
          | [v0, v1, v2, v3, v4], _ =>
            simp only [cellsSt, cellsN, List.drop_zero, List.take_succ_cons, List.take_zero, List.drop_succ_cons] at q0 q1
            obtain ⟨nm, e1, rfl, _⟩ := DataW.trod_string Tryd.underlying9 q0
            simp only [List.cons.injEq, and_true] at e1
            subst e1
            have hDi : D i = .agg [.lit (.string nm.data.toList), z1.1] := (Prod.mk.inj hy).1
            have hnl : nm.data.toList.length = nm.size := by rw [Array.length_toList]; rfl
            have hbi := hbr.2 i hi'
            have hDb : Rows.uptoBulk (D i) = nm.size + 1 + Rows.uptoBulk z1.1 + 1 := by
              rw [hDi]
              simp only [Rows.uptoBulk, Rows.uptoBulkAll]
              omega
            obtain ⟨c, a, cap2, hcs2, hin, hsm⟩ := ih (d := z1.1) (p := z1.2) (by omega) q1
            simp only [List.cons.injEq, and_true] at hcs2
            obtain ⟨rfl, rfl, rfl, rfl⟩ := hcs2
            refine ⟨(nm, c), ⟨a, cap2, ?_, ?_, ?_, ?_, ?_, hin⟩, fun mm hmm2 => ⟨by show nm.size ≤ mm; omega, hsm mm (by omega)⟩⟩
            · exact hat 0 (by omega)
            · have h9 := hat 1 (by omega); rw [add_off _ _ _ (by omega)] at h9; exact h9
            · have h9 := hat 2 (by omega); rw [add_off _ _ _ (by omega)] at h9; exact h9
            · have h9 := hat 3 (by omega); rw [add_off _ _ _ (by omega)] at h9; exact h9
            · have h9 := hat 4 (by omega); rw [add_off _ _ _ (by omega)] at h9; exact h9
        let f : Nat → ByteArray × ND := fun i => if h : i < len then Classical.choose (each i h) else (⟨#[]⟩, .leaf 0 false ⟨#[]⟩)
        have hf : ∀ i, i < len → KidAt W (x.add (i * 5)) (f i).1 (f i).2 ∧ ∀ mm, Rows.uptoBulk d ≤ mm → (f i).1.size ≤ mm ∧ (f i).2.small mm := by
          intro i hi'
          have e : f i = Classical.choose (each i hi') := dif_pos hi'
          rw [e]
          exact Classical.choose_spec (each i hi')
        obtain ⟨o1, o2, o3, o4⟩ := kidsN_own kd ex tx f len
        refine ⟨kidsN kd ex tx f len, some x, cap, by rw [o1, o2, o3, o4], .inr ⟨x, rfl, kidsN_at W x kd ex tx f len (fun i hi' => (hf i hi').1)⟩, fun mm hmm2 => ?_⟩
        have := hbr.1
        exact kidsN_small kd ex tx f mm len (by omega) (by omega) (fun i hi' => (hf i hi').2 mm hmm2)
end Go.Proofs.YtlcppkcclolgcaaDoor

namespace Go.Proofs.YtlcppkcclolgcaaDoor
set_option linter.unusedVariables false
set_option linter.unusedSimpArgs false
open Go.RowKit
set_option maxRecDepth 100000 in
theorem held_any (w0 : World) (S : Nat → Prop) (B gp : Nat) (fl : Nat → Nat) (p : PS) (gf : Nat) (sv rv : Value) (w : World) (H : PaW w0 S w B gp fl p gf sv rv) (hm : p.start ≤ p.at_) (hl : p.at_ ≤ 1048576) : Calls Tryd.prog 18 #[.pointer (some ⟨gp, 0, none⟩)] w fun e w' => e = .returned (.int .i64 ((p.at_ : Int) - p.start)) ∧ Below w.heap.size w w' := by
  have c0 := H.c0
  have c1 := H.c1
  have h0 : (0 : Int) ≤ p.start := by omega
  have h1 : (p.start : Int) ≤ p.at_ := by omega
  have h2 : (p.at_ : Int) ≤ 1048576 := by omega
  have hw : IntKind.i64.wrap ((p.at_ : Int) - p.start) = (p.at_ : Int) - p.start := by simp [IntKind.wrap, IntKind.bits, IntKind.signed]; omega
  clear H
  go_enter Tryd.func18, Tryd.ntmps18
  go_upto_region 1 with fail
  refine wp_region_noPanic ?_
  refine wp_region_held_drew (S := fun w' => w'.cell? ⟨gp, 0, none⟩ = some (.int .i64 (p.at_ : Int)) ∧ w'.cell? ⟨gp, 1, none⟩ = some (.int .i64 (p.start : Int))) (by kernel_rfl) ⟨c0, c1⟩ (fun hHeld => ?_)
  refine wpAnyH_take (i := 0) (oi := _) (v := (.pointer (some ⟨gp, 0, none⟩))) rfl (by kernel_rfl) (by kernel_rfl) (by kernel_rfl) (fun _ _ _ h => h) (Or.inl ⟨by rfl, fun w' _ => by go_simp⟩) hHeld ?_
  try simp only [Act.put, List.getElem_toArray, List.getElem_cons_succ, List.getElem_cons_zero, List.setIfInBounds_toArray, List.set_cons_zero, List.set_cons_succ]
  refine wpAnyH_take (i := 1) (oi := _) (v := (.pointer (some ⟨gp, 0, none⟩))) rfl (by kernel_rfl) (by kernel_rfl) (by kernel_rfl) (fun _ _ _ h => h) (Or.inl ⟨by rfl, fun w' _ => by go_simp⟩) hHeld ?_
  try simp only [Act.put, List.getElem_toArray, List.getElem_cons_succ, List.getElem_cons_zero, List.setIfInBounds_toArray, List.set_cons_zero, List.set_cons_succ]
  refine wpAnyH_take (i := 2) (oi := _) (v := (.pointer (some ⟨gp, 0, none⟩))) rfl (by kernel_rfl) (by kernel_rfl) (by kernel_rfl) (fun _ _ _ h => h) (Or.inl ⟨by rfl, fun w' _ => by go_simp⟩) hHeld ?_
  try simp only [Act.put, List.getElem_toArray, List.getElem_cons_succ, List.getElem_cons_zero, List.setIfInBounds_toArray, List.set_cons_zero, List.set_cons_succ]
  refine wpAnyH_take (i := 3) (oi := _) (v := (.int .i64 (p.at_ : Int))) rfl (by kernel_rfl) (by kernel_rfl) (by kernel_rfl) (fun _ _ _ h => h) (Or.inl ⟨by rfl, fun w' hSw => by have h1 := hSw.1; go_simp⟩) hHeld ?_
  try simp only [Act.put, List.getElem_toArray, List.getElem_cons_succ, List.getElem_cons_zero, List.setIfInBounds_toArray, List.set_cons_zero, List.set_cons_succ]
  refine wpAnyH_take (i := 4) (oi := _) (v := (.pointer (some ⟨gp, 0, none⟩))) rfl (by kernel_rfl) (by kernel_rfl) (by kernel_rfl) (fun _ _ _ h => h) (Or.inl ⟨by rfl, fun w' _ => by go_simp⟩) hHeld ?_
  try simp only [Act.put, List.getElem_toArray, List.getElem_cons_succ, List.getElem_cons_zero, List.setIfInBounds_toArray, List.set_cons_zero, List.set_cons_succ]
  refine wpAnyH_take (i := 5) (oi := _) (v := (.pointer (some ⟨gp, 0, none⟩))) rfl (by kernel_rfl) (by kernel_rfl) (by kernel_rfl) (fun _ _ _ h => h) (Or.inl ⟨by rfl, fun w' _ => by go_simp⟩) hHeld ?_
  try simp only [Act.put, List.getElem_toArray, List.getElem_cons_succ, List.getElem_cons_zero, List.setIfInBounds_toArray, List.set_cons_zero, List.set_cons_succ]
  refine wpAnyH_take (i := 6) (oi := _) (v := (.pointer (some ⟨gp, 1, none⟩))) rfl (by kernel_rfl) (by kernel_rfl) (by kernel_rfl) (fun _ _ _ h => h) (Or.inl ⟨by rfl, fun w' _ => by go_simp⟩) hHeld ?_
  try simp only [Act.put, List.getElem_toArray, List.getElem_cons_succ, List.getElem_cons_zero, List.setIfInBounds_toArray, List.set_cons_zero, List.set_cons_succ]
  refine wpAnyH_take (i := 7) (oi := _) (v := (.int .i64 (p.start : Int))) rfl (by kernel_rfl) (by kernel_rfl) (by kernel_rfl) (fun _ _ _ h => h) (Or.inl ⟨by rfl, fun w' hSw => by have h1 := hSw.2; go_simp⟩) hHeld ?_
  try simp only [Act.put, List.getElem_toArray, List.getElem_cons_succ, List.getElem_cons_zero, List.setIfInBounds_toArray, List.set_cons_zero, List.set_cons_succ]
  refine wpAnyH_take (i := 8) (oi := _) (v := (.int .i64 ((p.at_ : Int) - p.start))) rfl (by kernel_rfl) (by kernel_rfl) (by kernel_rfl) (fun _ _ _ h => h) (Or.inl ⟨by rfl, fun w' _ => by go_simp⟩) hHeld ?_
  try simp only [Act.put, List.getElem_toArray, List.getElem_cons_succ, List.getElem_cons_zero, List.setIfInBounds_toArray, List.set_cons_zero, List.set_cons_succ]
  refine wpAnyH_take (i := 9) (oi := _) (v := (.int .i64 ((p.at_ : Int) - p.start))) rfl (by kernel_rfl) (by kernel_rfl) (by kernel_rfl) (fun _ _ _ h => h) (Or.inl ⟨by rfl, fun w' _ => by go_simp⟩) hHeld ?_
  try simp only [Act.put, List.getElem_toArray, List.getElem_cons_succ, List.getElem_cons_zero, List.setIfInBounds_toArray, List.set_cons_zero, List.set_cons_succ]
  refine wpAnyH_done (by kernel_rfl) ?_ _
  refine NoPanic.normal ?_
  go_wp2_with fail
  go_ret
  exact ⟨rfl, (Below.refl _ _).drew⟩
end Go.Proofs.YtlcppkcclolgcaaDoor
