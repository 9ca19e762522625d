/- Bytes that the call owns: a slice over a row that may bear a conversion's mark behind its last cell. -/
import Derived.Test.YtlcppkcclolgcaaPkb
import Derived.Maps.AppendAt
import Derived.Lib.AppendStr
import Derived.Lib.FrozenHead
namespace Go.Proofs.Ytlcppkcclolgcaa
set_option linter.unusedVariables false
set_option linter.unusedSimpArgs false
open Go.RowKit

/-- the frozen range lies behind the n cells -/
def Clear (fz : Nat × Nat) (n : Nat) : Prop := fz.2 = 0 ∨ n ≤ fz.1
theorem clear_frozen {w : World} {g i : Nat} {cur : Array Value} {t : TypeId} {fz : Nat × Nat} (h : w.heap[g]? = some (.cells cur t fz)) (hc : Clear fz cur.size) (hi : i < cur.size) : w.frozen? ⟨g, i, none⟩ = false := by
  obtain ⟨lo, hi'⟩ := fz
  simp only [World.frozen?, h, Bool.and_eq_false_iff, decide_eq_false_iff_not]
  rcases hc with hc | hc
  · right
    simp only at hc
    omega
  · left
    simp only at hc
    omega
/-- v holds the bytes xs in a row of its own, not below base -/
def OwnB (w : World) (base : Nat) (v : Value) (xs : List Nat) : Prop :=
  (v = .slice none 0 0 ∧ xs = []) ∨
  ∃ g cap cur fz, v = .slice (some ⟨g, 0, none⟩) xs.length cap ∧ base ≤ g ∧ w.heap[g]? = some (.cells cur 5 fz) ∧ Clear fz cur.size ∧ xs.length ≤ cap ∧ cap ≤ maxLen ∧ cur.size = cap ∧ cur.toList.take xs.length = cl .u8 xs
section
variable {w w' : World} {base : Nat} {v : Value} {xs : List Nat}
theorem OwnB.nil (w : World) (base : Nat) : OwnB w base (.slice none 0 0) [] := .inl ⟨rfl, rfl⟩
theorem OwnB.slice (h : OwnB w base v xs) : ∃ A c, v = .slice A xs.length c := by
  rcases h with ⟨rfl, rfl⟩ | ⟨g, cap, cur, fz, rfl, _⟩
  · exact ⟨_, _, rfl⟩
  · exact ⟨_, _, rfl⟩
theorem OwnB.lt (h : OwnB w base v xs) : ∀ k, v.ownBlock = some k → base ≤ k ∧ k < w.heap.size := by
  intro k hk
  rcases h with ⟨rfl, _⟩ | ⟨g, cap, cur, fz, rfl, hb, hg, _⟩
  · simp [Value.ownBlock] at hk
  · simp [Value.ownBlock] at hk
    subst hk
    exact ⟨hb, lt_of_row hg⟩
theorem OwnB.kept {row : Option Nat} (h : OwnB w base v xs) (hg : w.grownBy w' row) (hne : v.ownBlock = none ∨ v.ownBlock ≠ row) : OwnB w' base v xs := by
  rcases h with hn | ⟨g, cap, cur, fz, rfl, hb, hgg, rest⟩
  · exact .inl hn
  · refine .inr ⟨g, cap, cur, fz, rfl, hb, ?_, rest⟩
    rw [hg.block g (lt_of_row hgg) (by simpa [Value.ownBlock] using hne)]
    exact hgg
theorem OwnB.later (h : OwnB w base v xs) (hb : Below w.heap.size w w') : OwnB w' base v xs :=
  h.kept (only_below (row := none) (World.grownBy.refl w _) hb) (by cases h : v.ownBlock with
    | none => exact .inl rfl
    | some k => exact .inr (by simp))
theorem OwnB.mono {base' : Nat} (h : OwnB w base v xs) (hb : base' ≤ base) : OwnB w base' v xs := by
  rcases h with hn | ⟨g, cap, cur, fz, e, hb', rest⟩
  · exact .inl hn
  · exact .inr ⟨g, cap, cur, fz, e, Nat.le_trans hb hb', rest⟩
theorem OwnB.of (h : w.ownsRow base 5 1 v xs.length (cl .u8 xs)) : OwnB w base v xs := by
  obtain ⟨_, ⟨rfl, h0⟩ | ⟨g, cap, cur, rfl, hb, hg, hn, hm, hs, ht⟩⟩ := h
  · exact .inl ⟨rfl, List.eq_nil_of_length_eq_zero h0⟩
  · exact .inr ⟨g, cap, cur, (0, 0), rfl, hb, hg, .inl rfl, hn, hm, by simpa using hs, by simpa using ht⟩
theorem OwnB.cells (h : OwnB w base v xs) {g : Nat} (hg : v.ownBlock = some g) : ∀ j u, (cl .u8 xs)[j]? = some u → w.cell? ((⟨g, 0, none⟩ : Addr).add j) = some u := by
  intro j u hu
  rcases h with ⟨rfl, _⟩ | ⟨g', cap, cur, fz, rfl, _, hgg, _, _, _, _, htake⟩
  · simp [Value.ownBlock] at hg
  · simp [Value.ownBlock] at hg
    subst hg
    have hadd : (⟨g', 0, none⟩ : Addr).add j = ⟨g', j, none⟩ := by unfold Addr.add; split <;> simp_all
    rw [hadd, cell_of_row w g' j cur _ fz hgg]
    rw [← htake, List.getElem?_take] at hu
    split at hu
    · simpa using hu
    · cases hu
/-- the byte at place j -/
theorem OwnB.cell (h : OwnB w base v xs) {A : Option Addr} {c : Nat} (hv : v = .slice A xs.length c) (j : Nat) (hj : j < xs.length) : ∃ g, A = some ⟨g, 0, none⟩ ∧ w.cell? ⟨g, j, none⟩ = some (.int .u8 (xs.getD j 0 : Nat)) := by
  rcases h with ⟨rfl, rfl⟩ | ⟨g, cap, cur, fz, rfl, hb, hgg, hcl, hn, hm, hs, ht⟩
  · simp at hj
  · injection hv with hv1 hv2 hv3
    refine ⟨g, hv1.symm, ?_⟩
    have hc := OwnB.cells (w := w) (base := base) (v := .slice (some ⟨g, 0, none⟩) xs.length cap) (.inr ⟨g, cap, cur, fz, rfl, hb, hgg, hcl, hn, hm, hs, ht⟩) (g := g) rfl j _ (cl_get .u8 xs j hj)
    have hadd : (⟨g, 0, none⟩ : Addr).add j = ⟨g, j, none⟩ := by unfold Addr.add; split <;> simp_all
    rw [hadd] at hc
    exact hc
/-- '[:0]' -/
theorem OwnB.cut (h : OwnB w base v xs) {A : Option Addr} {c : Nat} (hv : v = .slice A xs.length c) : OwnB w base (.slice A 0 c) [] := by
  rcases h with ⟨rfl, rfl⟩ | ⟨g, cap, cur, fz, rfl, hb, hgg, hcl, hn, hm, hs, ht⟩
  · injection hv with hv1 hv2 hv3
    exact .inl ⟨by rw [← hv1, ← hv3], rfl⟩
  · injection hv with hv1 hv2 hv3
    subst hv1
    subst hv3
    exact .inr ⟨g, cap, cur, fz, rfl, hb, hgg, hcl, Nat.zero_le _, hm, hs, by simp [cl]⟩
/-- a row of the call's own that was made by '[]byte(s)' -/
theorem OwnB.conv (w : World) (s : ByteArray) (hs : s.size ≤ 140737488355328) (hbase : base ≤ w.heap.size) : OwnB (Lib.bytesWorld w 5 s) base (.slice (some ⟨w.heap.size, 0, none⟩) s.size (grownCap w s.size 0 5)) (nb s) := by
  have hge := grownCap_ge w s.size 0 5
  have hsz : (Lib.bytesCells w 5 s).size = grownCap w s.size 0 5 := by
    have hd : s.data.size = s.size := rfl
    simp only [Lib.bytesCells, Array.size_append, Array.size_map, Array.size_replicate, hd]
    omega
  refine .inr ⟨w.heap.size, _, _, _, by rw [nb_length], hbase, Lib.bytesWorld_at_new w _ s, .inr (Nat.le_refl _), by rw [nb_length]; exact hge, grownCap_le_maxLen w _ _ _ (by simp only [maxLen]; omega), hsz, ?_⟩
  simp only [Lib.bytesCells, Array.toList_append, Array.toList_map]
  rw [List.take_append_of_le_length (by simp [nb])]
  rw [List.take_of_length_le (by simp [nb])]
  unfold cl nb
  rw [List.map_map]
  rfl
end
theorem below_conv {B : Nat} (w0 w : World) (s : ByteArray) (h : Below B w0 w) (hB : B ≤ w0.heap.size) : Below B w0 (Lib.bytesWorld w 5 s) :=
  ⟨h.os, h.tape, h.output, Nat.le_trans h.size (by rw [Lib.bytesWorld_size]; omega), fun k hk => (Lib.bytesWorld_at_old w _ s k (Nat.lt_of_lt_of_le hk (Nat.le_trans hB h.size))).trans (h.block k hk)⟩

/-- cells stored into a row ahead of its frozen range -/
theorem store_ahead (P : Program) (g o : Nat) (t : TypeId) (fz : Nat × Nat) : ∀ (vs : List Value) (i : Nat) (cur : Array Value) (w : World), w.heap[g]? = some (.cells cur t fz) → Clear fz cur.size → o + i + vs.length ≤ cur.size → (∀ v ∈ vs, v.oneCell' = true) →
    (storeCells ⟨g, o, none⟩ vs i).run P w = .ok () (w.setRow g (cur.toList.take (o + i) ++ vs ++ cur.toList.drop (o + i + vs.length)).toArray)
  | [], i, cur, w, hg, _, _, _ => by
    simp only [storeCells, List.append_nil, List.length_nil, Nat.add_zero, List.take_append_drop, Array.toArray_toList]
    rw [setRow_self w g cur t fz hg]
    rfl
  | v :: rest, i, cur, w, hg, hfz, hl, h1 => by
    have hl' : o + i + (rest.length + 1) ≤ cur.size := by simpa using hl
    have hadd : (⟨g, o, none⟩ : Addr).add i = ⟨g, o + i, none⟩ := by unfold Addr.add; split <;> simp_all
    have hst : (store ((⟨g, o, none⟩ : Addr).add i) v).run P w = .ok () (w.setRow g (cur.setIfInBounds (o + i) v)) := by
      rw [hadd, run_store P w _ v _ (h1 v (by simp)), cell_of_row w g (o + i) cur t fz hg, Array.getElem?_eq_getElem (by omega), ← setCell_eq_setRow w g (o + i) cur t fz v hg]
      simp [clear_frozen hg hfz (show o + i < cur.size by omega)]
    have ih := store_ahead P g o t fz rest (i + 1) (cur.setIfInBounds (o + i) v) (w.setRow g (cur.setIfInBounds (o + i) v)) (setRow_heap w g cur _ t _ hg) (by simpa using hfz) (by simp; omega) (fun x hx => h1 x (by simp [hx]))
    simp only [storeCells, Sem.run_bind, hst, Result.andThen_ok, ih, setRow_setRow]
    congr 3
    have e := list_seg_step cur.toList (o + i) v rest (by simpa using hl')
    simpa [Array.toList_setIfInBounds, Nat.add_assoc] using e

section
variable (w : World)
theorem u8_info : ∃ i0 : TypeInfo, Try.prog.info? 5 = some i0 ∧ i0.zero = some (.int .u8 0) ∧ i0.size = 1 ∧ i0.bytes = 1 := by
  obtain ⟨i0, h⟩ := info_parts (show (Try.prog.info? 5).map (fun i => (i.zero, i.size, i.bytes)) = some (some (.int .u8 0), 1, 1) by kernel_rfl)
  exact ⟨i0, h⟩
/-- where a row of n + m cells lies behind an append that found room -/
theorem OwnB.room {base g cap : Nat} {cur : Array Value} {fz : Nat × Nat} {xs ys : List Nat} (hb : base ≤ g) (hg : w.heap[g]? = some (.cells cur 5 fz)) (hc : Clear fz cur.size) (hcap : xs.length + ys.length ≤ cap) (hm : cap ≤ maxLen) (hs : cur.size = cap) (ht : cur.toList.take xs.length = cl .u8 xs) :
    OwnB (w.setRow g (cur.toList.take xs.length ++ cl .u8 ys ++ cur.toList.drop (xs.length + ys.length)).toArray) base (.slice (some ⟨g, 0, none⟩) (xs.length + ys.length) cap) (xs ++ ys) := by
  have hsz : (cur.toList.take xs.length ++ cl .u8 ys ++ cur.toList.drop (xs.length + ys.length)).toArray.size = cur.size := by
    simp only [List.size_toArray, List.length_append, List.length_take, List.length_drop, Array.length_toList, cl_length]
    omega
  refine .inr ⟨g, cap, _, fz, by rw [List.length_append], hb, setRow_heap w g cur _ _ _ hg, by rw [hsz]; exact hc, by rw [List.length_append]; exact hcap, hm, hsz.trans hs, ?_⟩
  rw [ht]
  have e : cl .u8 (xs ++ ys) = cl .u8 xs ++ cl .u8 ys := by simp [cl]
  rw [e, ← cl_length .u8 (xs ++ ys), e]
  exact List.take_left
theorem grown_setRow (g : Nat) (cs : Array Value) : w.grownBy (w.setRow g cs) (some g) := ⟨rfl, rfl, rfl, by simp, fun k _ hk => setRow_other w g k _ (fun e => hk (by rw [e]))⟩
/-- 'append(b, s...)' -/
theorem run_app_string (base : Nat) (v : Value) (xs : List Nat) (hown : OwnB w base v xs) (s : ByteArray) (ty : TypeId) (hl : xs.length + s.size ≤ 140737488355328) (hbase : base ≤ w.heap.size) :
    ∃ v' w', (Builtin.append_ #[38, 9] ty #[v, .string s]).run Try.prog w = .ok v' w' ∧ OwnB w' base v' (xs ++ nb s) ∧ w.grownBy w' v.ownBlock := by
  obtain ⟨i0, hi, hz, hs1, hb1⟩ := u8_info
  have hcs : Lib.strCells s = cl .u8 (nb s) := by
    unfold Lib.strCells cl nb
    rw [List.map_map]
    rfl
  have hml : xs.length + s.size ≤ maxLen := by simp only [maxLen]; omega
  rcases hown with ⟨rfl, rfl⟩ | ⟨g, cap, cur, fz, rfl, hb, hg, hc, hcap, hm, hs, ht⟩
  · obtain ⟨v', w', h1, h2, h3, _⟩ := Lib.run_append_own_string (P := Try.prog) w base 38 9 ty 5 i0 Try.underlying38 Try.underlying9 hi hz hs1 hb1 (.slice none 0 0) 0 [] (World.ownsRow_nil _ _ _ _) s (by simpa using hml) (by simpa using hl) hbase
    refine ⟨v', w', h1, OwnB.of ?_, h3⟩
    rw [List.nil_append, nb_length, ← hcs]
    simpa using h2
  · by_cases hroom : xs.length + s.size ≤ cap
    · have hf := Lib.run_firstCells_string (P := Try.prog) w 1 s
      have hst := store_ahead Try.prog g xs.length 5 fz (Lib.strCells s) 0 cur w hg hc (by rw [Lib.strCells_length]; omega) (Lib.strCells_oneCell s)
      simp only [Nat.add_zero, Lib.strCells_length] at hst
      have hr : (Builtin.append_ #[38, 9] ty #[.slice (some ⟨g, 0, none⟩) xs.length cap, .string s]).run Try.prog w =
          .ok (.slice (some ⟨g, 0, none⟩) (xs.length + s.size) cap) (w.setRow g (cur.toList.take xs.length ++ Lib.strCells s ++ cur.toList.drop (xs.length + s.size)).toArray) := by
        simp [Builtin.append_, run_underlying Try.underlying38, run_underlying Try.underlying9, sizeOf, typeInfo, hi, hs1, Builtin.lenOf, hroom, hf, Addr.add_lit, hst]
      refine ⟨_, _, hr, ?_, grown_setRow w g _⟩
      have h2 := OwnB.room w (ys := nb s) hb hg hc (by rw [nb_length]; exact hroom) hm hs ht
      rw [nb_length, ← hcs] at h2
      exact h2
    · have holds := OwnB.cells (w := w) (base := base) (xs := xs) (.inr ⟨g, cap, cur, fz, rfl, hb, hg, hc, hcap, hm, hs, ht⟩) (g := g) rfl
      have hr := Lib.run_append_grow_string (P := Try.prog) w 38 9 ty 5 i0 (.int .u8 0) Try.underlying38 Try.underlying9 hi hz ⟨g, 0, none⟩ xs.length cap (cl .u8 xs) (by rw [hs1, cl_length]; omega) holds s (by omega) (by omega) (by rw [hb1]; exact growslice_fits (by omega) (by omega))
      have hge := grownCap_ge w (xs.length + s.size) cap 5
      refine ⟨_, _, hr, ?_, ⟨rfl, rfl, rfl, by simp, fun k hk _ => Below.heap_alloc w.drew _ k hk⟩⟩
      refine .inr ⟨w.heap.size, _, _, (0, 0), by rw [List.length_append, nb_length], hbase, heap_alloc_new w.drew _, .inl rfl, by rw [List.length_append, nb_length]; exact hge, grownCap_le_maxLen w _ _ _ hml, ?_, ?_⟩
      · have hz1 : (Value.int IntKind.u8 0).cells.size = 1 := rfl
        simp only [Array.size_append, List.size_toArray, size_zeroCells, hz1, cl_length, Lib.strCells_length]
        omega
      · rw [hcs]
        have e : cl .u8 (xs ++ nb s) = cl .u8 xs ++ cl .u8 (nb s) := by simp [cl]
        simp only [Array.toList_append, List.append_assoc]
        rw [← List.append_assoc, ← cl_length .u8 (xs ++ nb s), e]
        exact List.take_left
/-- 'append(b, x, y, ..)': the elements lie in a row of their own -/
theorem run_app_bytes (base : Nat) (v : Value) (xs : List Nat) (hown : OwnB w base v xs) (ad : Addr) (ys : List Nat) (c : Nat) (ty : TypeId) (hnews : ∀ j u, (cl .u8 ys)[j]? = some u → w.cell? (ad.add j) = some u) (hl : xs.length + ys.length ≤ 140737488355328) (hbase : base ≤ w.heap.size) :
    ∃ v' w', (Builtin.append_ #[38, 38] ty #[v, .slice (some ad) ys.length c]).run Try.prog w = .ok v' w' ∧ OwnB w' base v' (xs ++ ys) ∧ w.grownBy w' v.ownBlock ∧ (v'.ownBlock = v.ownBlock ∨ v'.ownBlock = some w.heap.size) := by
  obtain ⟨i0, hi, hz, hs1, hb1⟩ := u8_info
  have hml : xs.length + ys.length ≤ maxLen := by simp only [maxLen]; omega
  have hyl : (cl .u8 ys).length = ys.length * i0.size := by rw [cl_length, hs1]; omega
  rcases hown with ⟨rfl, rfl⟩ | ⟨g, cap, cur, fz, rfl, hb, hg, hc, hcap, hm, hs, ht⟩
  · obtain ⟨v', w', h1, h2, h3, _, h5⟩ := run_append_own_at (P := Try.prog) w base 38 ty 5 i0 (.int .u8 0) 1 1 Try.underlying38 hi hz hs1 hb1 rfl (by decide) (.slice none 0 0) 0 [] (World.ownsRow_nil _ _ _ _) ad ys.length c (cl .u8 ys) (by rw [cl_length]; omega) hnews (cl_one .u8 ys) (by simpa using hml) (by simpa using hl) hbase
    refine ⟨v', w', h1, OwnB.of ?_, h3, h5⟩
    simpa using h2
  · by_cases hroom : xs.length + ys.length ≤ cap
    · have hf := run_firstCells_some (P := Try.prog) w i0.size ys.length ad ys.length c (cl .u8 ys) hyl hnews
      rw [hs1] at hf
      have hst := store_ahead Try.prog g xs.length 5 fz (cl .u8 ys) 0 cur w hg hc (by rw [cl_length]; omega) (cl_one .u8 ys)
      simp only [Nat.add_zero, cl_length] at hst
      have hr : (Builtin.append_ #[38, 38] ty #[.slice (some ⟨g, 0, none⟩) xs.length cap, .slice (some ad) ys.length c]).run Try.prog w =
          .ok (.slice (some ⟨g, 0, none⟩) (xs.length + ys.length) cap) (w.setRow g (cur.toList.take xs.length ++ cl .u8 ys ++ cur.toList.drop (xs.length + ys.length)).toArray) := by
        simp [Builtin.append_, run_underlying Try.underlying38, sizeOf, typeInfo, hi, hs1, Builtin.lenOf, hroom, hf, Addr.add_lit, hst]
      exact ⟨_, _, hr, OwnB.room w hb hg hc hroom hm hs ht, grown_setRow w g _, .inl rfl⟩
    · have holds := OwnB.cells (w := w) (base := base) (xs := xs) (.inr ⟨g, cap, cur, fz, rfl, hb, hg, hc, hcap, hm, hs, ht⟩) (g := g) rfl
      have hr := run_append_grow (P := Try.prog) w 38 ty 5 i0 (.int .u8 0) Try.underlying38 hi hz ⟨g, 0, none⟩ xs.length cap (cl .u8 xs) (by rw [hs1, cl_length]; omega) holds ad ys.length c (cl .u8 ys) hyl hnews (by omega) (by omega) (by rw [hb1]; exact growslice_fits (by omega) (by omega))
      have hge := grownCap_ge w (xs.length + ys.length) cap 5
      refine ⟨_, _, hr, ?_, ⟨rfl, rfl, rfl, by simp, fun k hk _ => Below.heap_alloc w.drew _ k hk⟩, .inr rfl⟩
      refine .inr ⟨w.heap.size, _, _, (0, 0), by rw [List.length_append], hbase, heap_alloc_new w.drew _, .inl rfl, by rw [List.length_append]; exact hge, grownCap_le_maxLen w _ _ _ hml, ?_, ?_⟩
      · have hz1 : (Value.int IntKind.u8 0).cells.size = 1 := rfl
        simp only [Array.size_append, List.size_toArray, size_zeroCells, hz1, cl_length]
        omega
      · have e : cl .u8 (xs ++ ys) = cl .u8 xs ++ cl .u8 ys := by simp [cl]
        simp only [Array.toList_append, List.append_assoc]
        rw [← List.append_assoc, ← cl_length .u8 (xs ++ ys), e]
        exact List.take_left
/-- at the operation -/
theorem wp_app_string {o : Oper} {a : Act} {K : Act → World → Prop} {Q : Exit → Act → World → Prop} (sl x : Operand)
    (ho : o.op = .call { callee := .builtin .append, args := #[sl, x], argTypes := #[38, 9] })
    (base : Nat) (v : Value) (xs : List Nat) (hs : a.eval sl = v) (hown : OwnB w base v xs) (s : ByteArray) (hx : a.eval x = .string s) (hl : xs.length + s.size ≤ 140737488355328) (hbase : base ≤ w.heap.size)
    (h : ∀ v' w', OwnB w' base v' (xs ++ nb s) → w.grownBy w' v.ownBlock → K (a.put o.dst v') w') : o.wp Try.prog a w K Q := by
  obtain ⟨v', w', hr, h2, h3⟩ := run_app_string w base v xs hown s o.type hl hbase
  unfold Oper.wp execOp
  simp only [ho, resolve, invoke, builtin, Sem.run_bind, Sem.run_pure, Result.andThen_ok, List.map_toArray, List.map_cons, List.map_nil, hs, hx, hr]
  exact h v' w' h2 h3
theorem wp_app_bytes {o : Oper} {a : Act} {K : Act → World → Prop} {Q : Exit → Act → World → Prop} (sl x : Operand)
    (ho : o.op = .call { callee := .builtin .append, args := #[sl, x], argTypes := #[38, 38] })
    (base : Nat) (v : Value) (xs : List Nat) (hs : a.eval sl = v) (hown : OwnB w base v xs) (ad : Addr) (ys : List Nat) (c : Nat) (hx : a.eval x = .slice (some ad) ys.length c) (hnews : ∀ j u, (cl .u8 ys)[j]? = some u → w.cell? (ad.add j) = some u) (hl : xs.length + ys.length ≤ 140737488355328) (hbase : base ≤ w.heap.size)
    (h : ∀ v' w', OwnB w' base v' (xs ++ ys) → w.grownBy w' v.ownBlock → (v'.ownBlock = v.ownBlock ∨ v'.ownBlock = some w.heap.size) → K (a.put o.dst v') w') : o.wp Try.prog a w K Q := by
  obtain ⟨v', w', hr, h2, h3, h4⟩ := run_app_bytes w base v xs hown ad ys c o.type hnews hl hbase
  unfold Oper.wp execOp
  simp only [ho, resolve, invoke, builtin, Sem.run_bind, Sem.run_pure, Result.andThen_ok, List.map_toArray, List.map_cons, List.map_nil, hs, hx, hr]
  exact h v' w' h2 h3 h4
/-- at a plain region's list -/
theorem wpList_app_bytes {ops : Array Oper} {rest : List Oper} {o : Oper} {a : Act} {Q : Exit → Act → World → Prop} (hgd : o.guard = none) (sl x : Operand)
    (ho : o.op = .call { callee := .builtin .append, args := #[sl, x], argTypes := #[38, 38] })
    (base : Nat) (v : Value) (xs : List Nat) (hs : a.eval sl = v) (hown : OwnB w base v xs) (ad : Addr) (ys : List Nat) (c : Nat) (hx : a.eval x = .slice (some ad) ys.length c) (hnews : ∀ j u, (cl .u8 ys)[j]? = some u → w.cell? (ad.add j) = some u) (hl : xs.length + ys.length ≤ 140737488355328) (hbase : base ≤ w.heap.size)
    (h : ∀ v' w', OwnB w' base v' (xs ++ ys) → w.grownBy w' v.ownBlock → (v'.ownBlock = v.ownBlock ∨ v'.ownBlock = some w.heap.size) → wpList Try.prog ops Q rest (a.put o.dst v') w') : wpList Try.prog ops Q (o :: rest) a w :=
  wpList_plain hgd fun K hK => wp_app_bytes w sl x ho base v xs hs hown ad ys c hx hnews hl hbase fun v' w' h2 h3 h4 => hK _ _ (h v' w' h2 h3 h4)
theorem news_bytes (ys : List Nat) (t : TypeId) : ∀ j u, (cl .u8 ys)[j]? = some u → (w.alloc (.cells (cl .u8 ys).toArray t)).cell? ((⟨w.heap.size, 0, none⟩ : Addr).add j) = some u := by
  intro j u hj
  have hadd : (⟨w.heap.size, 0, none⟩ : Addr).add j = ⟨w.heap.size, j, none⟩ := by unfold Addr.add; split <;> simp_all
  rw [hadd, cell_of_row _ _ _ _ _ _ (heap_alloc_new w _)]
  simpa using hj
/-- 'string(p)' -/
theorem run_conv_own {base : Nat} {v : Value} {xs : List Nat} (h : OwnB w base v xs) (hb : Bytes xs) :
    (convert 38 9 v).run Try.prog w = .ok (.string (strOf xs)) w := by
  rcases h with ⟨rfl, rfl⟩ | ⟨g, cap, cur, fz, rfl, hbg, hg, hc, hcap, hm, hs, ht⟩
  · rw [run_convert_bytes_string w _ _ 5 _ 0 0 Try.underlying38 Try.underlying5 Try.underlying9]
    rfl
  · have holds := OwnB.cells (w := w) (base := base) (xs := xs) (.inr ⟨g, cap, cur, fz, rfl, hbg, hg, hc, hcap, hm, hs, ht⟩) (g := g) rfl
    have hl : (loadCells ⟨g, 0, none⟩ xs.length).run Try.prog w = .ok ((xs.map fun (n : Nat) => (n : Int)).map (Value.int .u8)).toArray w := by
      have := run_loadCells_list (P := Try.prog) w ⟨g, 0, none⟩ (cl .u8 xs) holds
      rw [cl_length] at this
      rw [this]
      simp [cl, Function.comp_def]
    have hr := run_bytesToString (P := Try.prog) w ⟨g, 0, none⟩ xs.length cap _ hl
    rw [run_convert_bytes_string w _ _ 5 _ xs.length cap Try.underlying38 Try.underlying5 Try.underlying9]
    rw [hr]
    congr 2
    rw [foldl_push_bytes]
    apply ByteArray.ext
    apply Array.ext'
    rw [List.map_map]
    show (ByteArray.empty.data ++ _).toList = _
    rw [Array.toList_append]
    show [] ++ _ = _
    rw [List.nil_append, strOf]
    apply List.map_congr_left
    intro x _
    simp
end
end Go.Proofs.Ytlcppkcclolgcaa

