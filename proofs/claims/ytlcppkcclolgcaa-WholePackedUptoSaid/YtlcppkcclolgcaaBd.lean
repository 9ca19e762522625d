/- The walks of strings.Builder inside nar's writer: copyCheck, WriteString. -/
import Derived.Test.YtlcppkcclolgcaaWj
import Derived.Test.YtlcppkcclolgcaaOwn
import Derived.Lib.Builder
import Derived.Lib.UnsafeStr
namespace Go.Proofs.Ytlcppkcclolgcaa
set_option linter.unusedVariables false
set_option linter.unusedSimpArgs false
open Go.RowKit

/-- the writer in block g holds the bytes xs in the row r -/
structure Bld (w : World) (B g : Nat) (xs : List Nat) (r : Option Nat) : Prop where
  hB : B ≤ g
  at_ : ∃ p v, (p = .pointer none ∨ p = .pointer (some ⟨g, 0, none⟩)) ∧ w.heap[g]? = some (.cells #[p, v] 84 (0, 0)) ∧ OwnB w B v xs ∧ v.ownBlock = r
  ne : r ≠ some g
/-- nothing has changed but block g, the row r and what is new; the row is r' now -/
structure Kp (w w' : World) (g : Nat) (r r' : Option Nat) : Prop where
  os : w'.os = w.os
  tape : w'.tape = w.tape
  output : w'.output = w.output
  size : w.heap.size ≤ w'.heap.size
  block : ∀ i, i < w.heap.size → i ≠ g → some i ≠ r → w'.heap[i]? = w.heap[i]?
  row : r' = r ∨ ∃ k, r' = some k ∧ w.heap.size ≤ k
theorem Kp.refl (w : World) (g : Nat) (r : Option Nat) : Kp w w g r r := ⟨rfl, rfl, rfl, Nat.le_refl _, fun _ _ _ _ => rfl, .inl rfl⟩
theorem Kp.trans {w w1 w2 : World} {g : Nat} {r r1 r2 : Option Nat} (h : Kp w w1 g r r1) (h2 : Kp w1 w2 g r1 r2) : Kp w w2 g r r2 := by
  refine ⟨h2.os.trans h.os, h2.tape.trans h.tape, h2.output.trans h.output, Nat.le_trans h.size h2.size, fun i hi hg hr => ?_, ?_⟩
  · rw [h2.block i (Nat.lt_of_lt_of_le hi h.size) hg ?_, h.block i hi hg hr]
    rcases h.row with e | ⟨k, e, hk⟩
    · rw [e]; exact hr
    · rw [e]; intro e2; injection e2 with e2; omega
  · rcases h2.row with e | ⟨k, e, hk⟩
    · rw [e]; exact h.row
    · exact .inr ⟨k, e, Nat.le_trans h.size hk⟩
theorem Kp.below {w w1 : World} {g : Nat} {r : Option Nat} (h : Below w.heap.size w w1) : Kp w w1 g r r := ⟨h.os, h.tape, h.output, h.size, fun i hi _ _ => h.block i hi, .inl rfl⟩
theorem Kp.set {w : World} {g : Nat} {r : Option Nat} (i : Nat) (v : Value) : Kp w (w.setCell ⟨g, i, none⟩ v) g r r :=
  ⟨rfl, rfl, rfl, by simp [World.setCell], fun k _ hk _ => Below.heap_setCell _ _ _ _ hk, .inl rfl⟩
theorem Bld.lt {w : World} {B g : Nat} {xs : List Nat} {r : Option Nat} (h : Bld w B g xs r) : g < w.heap.size := by
  obtain ⟨p, v, _, h1, _⟩ := h.at_
  exact lt_of_row h1
theorem Bld.low {w : World} {B g : Nat} {xs : List Nat} {r : Option Nat} (h : Bld w B g xs r) : ∀ k, r = some k → B ≤ k ∧ k < w.heap.size := by
  obtain ⟨p, v, _, _, h2, h3⟩ := h.at_
  intro k hk
  exact h2.lt k (h3.trans hk)
theorem Bld.later {w w' : World} {B g : Nat} {xs : List Nat} {r : Option Nat} (h : Bld w B g xs r) (hb : Below w.heap.size w w') : Bld w' B g xs r := by
  obtain ⟨p, v, hp, h1, h2, h3⟩ := h.at_
  exact ⟨h.hB, ⟨p, v, hp, (hb.block g (lt_of_row h1)).trans h1, h2.later hb, h3⟩, h.ne⟩
/-- all that has changed lies at B or above -/
theorem Kp.above {w0 w w' : World} {B g : Nat} {xs : List Nat} {r r' : Option Nat} (h : Bld w B g xs r) (hb : Below B w0 w) (hB : B ≤ w.heap.size) (hk : Kp w w' g r r') : Below B w0 w' :=
  ⟨hk.os.trans hb.os, hk.tape.trans hb.tape, hk.output.trans hb.output, Nat.le_trans hb.size hk.size, fun i hi => (hk.block i (by omega) (by have := h.hB; omega) (fun e => by have := (h.low i e.symm).1; omega)).trans (hb.block i hi)⟩
set_option maxRecDepth 100000 in
set_option maxHeartbeats 1000000 in
theorem copyCheck_any (w : World) (B g : Nat) (xs : List Nat) (r : Option Nat) (H : Bld w B g xs r) :
    Calls Try.prog 63 #[.pointer (some ⟨g, 0, none⟩)] w fun e w' => e = .returned (.tuple #[]) ∧ Bld w' B g xs r ∧ Kp w w' g r r := by
  obtain ⟨p, v, hp, h1, h2, h3⟩ := H.at_
  have c0 := cell_of_row w g 0 _ _ _ h1
  have f0 := frozen_of_row w g 0 _ _ h1
  rcases hp with rfl | rfl
  · have hB2 : Bld (w.setCell ⟨g, 0, none⟩ (.pointer (some ⟨g, 0, none⟩))) B g xs r := by
      refine ⟨H.hB, ⟨.pointer (some ⟨g, 0, none⟩), v, .inr rfl, (heap_setCell_same w g 0 _ _ _ h1).trans rfl, ?_, h3⟩, H.ne⟩
      exact h2.kept (only_setG (World.grownBy.refl w (some g)) 0 _) (by rw [h3]; exact .inr H.ne)
    have hsh : w.shape? g = some (84, 2) := by simp [World.shape?, h1]
    have hi82 : ∃ j, Try.prog.info? 82 = some j ∧ j.size ≠ 0 := by
      obtain ⟨j, hj, hjs⟩ := Option.map_eq_some_iff.1 (show (Try.prog.info? 82).map (·.size) = some 2 by kernel_rfl)
      exact ⟨j, hj, by rw [hjs]; decide⟩
    obtain ⟨j, hj, hjs⟩ := hi82
    have hu80 := Try.underlying80
    have hu143 := Try.underlying143
    have hto : ∀ q, (convert 80 143 (.pointer (some ⟨g, 0, none⟩))).run Try.prog q = (convert 80 143 (.pointer (some ⟨g, 0, none⟩))).run Try.prog q := fun _ => rfl
    have r1 : (convert 80 143 (.pointer (some ⟨g, 0, none⟩))).run Try.prog w = .ok (.pointer (some ⟨g, 0, none⟩)) w := Lib.run_to_unsafe w ⟨g, 0, none⟩ hu80 hu143 hj hjs hsh (Nat.zero_lt_succ 1)
    have r2 : (convert 143 80 (.pointer (some ⟨g, 0, none⟩))).run Try.prog w = .ok (.pointer (some ⟨g, 0, none⟩)) w := Lib.run_from_unsafe w ⟨g, 0, none⟩ hu143 hu80 hj hsh (by kernel_rfl)
    have HB2 := Lib.hid hB2
    clear hB2 h1 h2 h3 H hsh hto
    go_enter Try.func63, Try.ntmps63
    go_wp2_with fail
    rw [run_callFunc_extern Try.func72 (by kernel_rfl) (by kernel_rfl) (by kernel_rfl) (e := Extern.AbiNoEscape.same) (by kernel_rfl)]
    rw [Lib.run_noEscape]
    simp only [Result.andThen]
    rw [Oper.upon_value]
    go_wp2_with fail
    go_end0
    exact ⟨rfl, HB2.out, Kp.set 0 _⟩
  · have hne := fun q => Lib.run_neq_ptr_same (P := Try.prog) q (tp := 80) (te := 82) (j := Classical.choose (Option.isSome_iff_exists.1 (show (Try.prog.info? 82).isSome = true by kernel_rfl))) ⟨g, 0, none⟩ Try.underlying80 (Classical.choose_spec (Option.isSome_iff_exists.1 (show (Try.prog.info? 82).isSome = true by kernel_rfl)))
    have HH := Lib.hid H
    clear H h1 h2 h3
    go_enter Try.func63, Try.ntmps63
    go_wp2_with fail
    go_end0
    exact ⟨rfl, HH.out, Kp.refl _ _ _⟩
theorem run_app_str5 (w : World) (base : Nat) (v : Value) (xs : List Nat) (hown : OwnB w base v xs) (s : ByteArray) (ty : TypeId) (hl : xs.length + s.size ≤ 140737488355328) (hbase : base ≤ w.heap.size) :
    ∃ v' w', (Builtin.append_ #[38, 9] ty #[v, .string s]).run Try.prog w = .ok v' w' ∧ OwnB w' base v' (xs ++ nb s) ∧ w.grownBy w' v.ownBlock ∧ (v'.ownBlock = v.ownBlock ∨ ∃ k, v'.ownBlock = some k ∧ w.heap.size ≤ k) := by
  obtain ⟨i0, hi, hz, hs1, hb1⟩ := u8_info
  have hcs : Lib.strCells s = cl .u8 (nb s) := by
    unfold Lib.strCells cl nb
    rw [List.map_map]
    rfl
  have hml : xs.length + s.size ≤ maxLen := by simp only [maxLen]; omega
  rcases hown with ⟨rfl, rfl⟩ | ⟨g, cap, cur, fz, rfl, hb, hg, hc, hcap, hm, hs, ht⟩
  · obtain ⟨v', w', h1, h2, h3, _⟩ := Lib.run_append_own_string (P := Try.prog) w w.heap.size 38 9 ty 5 i0 Try.underlying38 Try.underlying9 hi hz hs1 hb1 (.slice none 0 0) 0 [] (World.ownsRow_nil _ _ _ _) s (by simpa using hml) (by simpa using hl) (Nat.le_refl _)
    have ho : OwnB w' w.heap.size v' ([] ++ nb s) := by
      refine OwnB.of ?_
      rw [List.nil_append, nb_length, ← hcs]
      simpa using h2
    refine ⟨v', w', h1, ho.mono hbase, h3, ?_⟩
    cases hv : v'.ownBlock with
    | none => exact .inl rfl
    | some k => exact .inr ⟨k, rfl, (ho.lt k hv).1⟩
  · by_cases hroom : xs.length + s.size ≤ cap
    · have hf := Lib.run_firstCells_string (P := Try.prog) w 1 s
      have hst := store_ahead Try.prog g xs.length 5 fz (Lib.strCells s) 0 cur w hg hc (by rw [Lib.strCells_length]; omega) (Lib.strCells_oneCell s)
      simp only [Nat.add_zero, Lib.strCells_length] at hst
      have hr : (Builtin.append_ #[38, 9] ty #[.slice (some ⟨g, 0, none⟩) xs.length cap, .string s]).run Try.prog w =
          .ok (.slice (some ⟨g, 0, none⟩) (xs.length + s.size) cap) (w.setRow g (cur.toList.take xs.length ++ Lib.strCells s ++ cur.toList.drop (xs.length + s.size)).toArray) := by
        simp [Builtin.append_, run_underlying Try.underlying38, run_underlying Try.underlying9, sizeOf, typeInfo, hi, hs1, Builtin.lenOf, hroom, hf, Addr.add_lit, hst]
      refine ⟨_, _, hr, ?_, grown_setRow w g _, .inl rfl⟩
      have h2 := OwnB.room w (ys := nb s) hb hg hc (by rw [nb_length]; exact hroom) hm hs ht
      rw [nb_length, ← hcs] at h2
      exact h2
    · have holds := OwnB.cells (w := w) (base := base) (xs := xs) (.inr ⟨g, cap, cur, fz, rfl, hb, hg, hc, hcap, hm, hs, ht⟩) (g := g) rfl
      have hr := Lib.run_append_grow_string (P := Try.prog) w 38 9 ty 5 i0 (.int .u8 0) Try.underlying38 Try.underlying9 hi hz ⟨g, 0, none⟩ xs.length cap (cl .u8 xs) (by rw [hs1, cl_length]; omega) holds s (by omega) (by omega) (by rw [hb1]; exact growslice_fits (by omega) (by omega))
      have hge := grownCap_ge w (xs.length + s.size) cap 5
      refine ⟨_, _, hr, ?_, ⟨rfl, rfl, rfl, by simp, fun k hk _ => Below.heap_alloc w.drew _ k hk⟩, .inr ⟨_, rfl, Nat.le_refl _⟩⟩
      refine .inr ⟨w.heap.size, _, _, (0, 0), by rw [List.length_append, nb_length], hbase, heap_alloc_new w.drew _, .inl rfl, by rw [List.length_append, nb_length]; exact hge, grownCap_le_maxLen w _ _ _ hml, ?_, ?_⟩
      · have hz1 : (Value.int IntKind.u8 0).cells.size = 1 := rfl
        simp only [Array.size_append, List.size_toArray, size_zeroCells, hz1, cl_length, Lib.strCells_length]
        omega
      · rw [hcs]
        have e : cl .u8 (xs ++ nb s) = cl .u8 xs ++ cl .u8 (nb s) := by simp [cl]
        simp only [Array.toList_append, List.append_assoc]
        rw [← List.append_assoc, ← cl_length .u8 (xs ++ nb s), e]
        exact List.take_left
theorem wpList_app_str5 (w : World) {ops : Array Oper} {rest : List Oper} {o : Oper} {a : Act} {Q : Exit → Act → World → Prop} (hgd : o.guard = none) (sl x : Operand)
    (ho : o.op = .call { callee := .builtin .append, args := #[sl, x], argTypes := #[38, 9] })
    (base : Nat) (v : Value) (xs : List Nat) (hs : a.eval sl = v) (hown : OwnB w base v xs) (s : ByteArray) (hx : a.eval x = .string s) (hl : xs.length + s.size ≤ 140737488355328) (hbase : base ≤ w.heap.size)
    (h : ∀ v' w', OwnB w' base v' (xs ++ nb s) → w.grownBy w' v.ownBlock → (v'.ownBlock = v.ownBlock ∨ ∃ k, v'.ownBlock = some k ∧ w.heap.size ≤ k) → wpList Try.prog ops Q rest (a.put o.dst v') w') : wpList Try.prog ops Q (o :: rest) a w :=
  wpList_plain hgd fun K hK => by
    obtain ⟨v', w', hr, h2, h3, h4⟩ := run_app_str5 w base v xs hown s o.type hl hbase
    unfold Oper.wp execOp
    simp only [ho, resolve, invoke, builtin, Sem.run_bind, Sem.run_pure, Result.andThen_ok, List.map_toArray, List.map_cons, List.map_nil, hs, hx, hr]
    exact hK _ _ (h v' w' h2 h3 h4)
set_option maxRecDepth 100000 in
set_option maxHeartbeats 1000000 in
theorem write_any (w : World) (B g : Nat) (xs : List Nat) (r : Option Nat) (s : ByteArray) (hl : xs.length + s.size ≤ 140737488355328) (hB : B ≤ w.heap.size) (H : Bld w B g xs r) :
    Calls Try.prog 51 #[.pointer (some ⟨g, 0, none⟩), .string s] w fun e w' => e = .returned (.tuple #[.int .i64 (s.size : Int), .nilIface]) ∧ ∃ r', Bld w' B g (xs ++ nb s) r' ∧ Kp w w' g r r' := by
  have KC := Lib.hid (copyCheck_any w B g xs r H)
  clear H
  go_enter Try.func51, Try.ntmps51
  go_upto_region 2 with (go_at_call 63; refine KC.out.mono ?_; rintro e w1 ⟨rfl, H1, K1⟩)
  obtain ⟨p, v, hp, h1, h2, h3⟩ := H1.at_
  have c1 := cell_of_row w1 g 1 _ _ _ h1
  have hB1 : B ≤ w1.heap.size := Nat.le_trans hB K1.size
  go_wp2_with (at_builtin; refine wpList_app_str5 _ rfl (.tmp 12) (.tmp 13) rfl B _ xs rfl h2 s rfl hl hB1 ?_; intro v2 w2 ho2 hg2 hr2; obtain ⟨A2, k2, hv2⟩ := ho2.slice; generalize (xs ++ nb s).length = l2 at hv2; subst hv2; have hx2 : w2.heap[g]? = some (.cells #[p, v] 84 (0, 0)) := (hg2.block g (lt_of_row h1) (by show some g ≠ v.ownBlock; rw [h3]; exact fun e => H1.ne e.symm)).trans h1; have f1 := frozen_of_row w2 g 1 _ _ hx2; have d1 := cell_of_row w2 g 1 _ _ _ hx2; have HX2 := Lib.hid hx2; have HG2 : Hid (w1.grownBy w2 v.ownBlock) := Lib.hid hg2; have HR2 : Hid ((Value.slice A2 l2 k2).ownBlock = v.ownBlock ∨ ∃ k, (Value.slice A2 l2 k2).ownBlock = some k ∧ w1.heap.size ≤ k) := Lib.hid hr2; have HO2 := Lib.hid ho2; clear hx2 hg2 hr2 ho2)
  go_ret2
  have ht := HG2.out
  have hne : ∀ k, (Value.slice A2 l2 k2).ownBlock = some k → k ≠ g := by
    intro k hk e
    subst e
    rcases HR2.out with h | ⟨k', h, hk'⟩
    · exact H1.ne (by rw [← h3, ← h, hk])
    · have := lt_of_row h1
      rw [hk] at h
      injection h with h
      omega
  refine ⟨rfl, (Value.slice A2 l2 k2).ownBlock, ⟨H1.hB, ⟨p, _, hp, (heap_setCell_same w2 g 1 _ _ _ HX2.out).trans rfl, ?_, rfl⟩, ?_⟩, K1.trans ⟨ht.os, ht.tape, ht.output, by simpa [World.setCell] using ht.size, fun i hi hig hir => ?_, ?_⟩⟩
  · exact HO2.out.kept (only_setG (World.grownBy.refl w2 (some g)) 1 _) (by
      cases hk : (Value.slice A2 l2 k2).ownBlock with
      | none => exact .inl rfl
      | some k => exact .inr (fun e => hne k hk (by injection e)))
  · intro e
    exact hne g e rfl
  · rw [Below.heap_setCell _ _ _ _ hig, ht.block i hi (by rw [h3]; exact hir)]
  · rw [← h3]
    exact HR2.out
end Go.Proofs.Ytlcppkcclolgcaa

