/- The walk of the parser's name. -/
import Derived.Test.YtlcppkcclolgcaaPr
namespace Go.Proofs.Ytlcppkcclolgcaa
set_option linter.unusedVariables false
set_option linter.unusedSimpArgs false
open Go.RowKit

theorem cmp_le : ∀ (a b : List UInt8), 0 ≤ Lib.compareBytes a b ↔ (Op.bytesLess b a || b == a) = true
  | [], [] => by simp [Lib.compareBytes]
  | [], y :: b => by simp [Lib.compareBytes, Op.bytesLess]
  | x :: a, [] => by simp [Lib.compareBytes, Op.bytesLess]
  | x :: a, y :: b => by
    have ih := cmp_le a b
    unfold Lib.compareBytes Op.bytesLess
    by_cases h1 : x < y
    · rw [if_pos h1]
      have h2 : ¬ y < x := fun h => by
        rw [UInt8.lt_iff_toNat_lt] at h h1
        omega
      have h3 : (y == x) = false := by
        rw [beq_eq_false_iff_ne]
        rintro rfl
        exact h2 h1
      simp [h2, h3]
    · rw [if_neg h1]
      by_cases h2 : y < x
      · rw [if_pos h2]
        simp [h2]
      · rw [if_neg h2]
        have h3 : y = x := by
          apply UInt8.toNat_inj.1
          rw [UInt8.lt_iff_toNat_lt] at h1 h2
          omega
        subst h3
        rw [ih]
        simp
theorem cmp_leB (a b : ByteArray) : decide (0 ≤ Lib.compareBytes a.data.toList b.data.toList) = leB b a := by
  unfold leB
  rw [toList_data, toList_data, Bool.eq_iff_iff, decide_eq_true_iff]
  exact cmp_le _ _
/-- the last kid's name in its cell -/
theorem last_cell {w : World} {B : Nat} {S : Nat → Prop} {n : ND} {kv : Value} {ks : List Value} (ho : w.ownsRow B 79 5 kv n.cnt ks) (hk : n.KC S w ks) (h0 : 0 < n.cnt) :
    ∃ g cap, kv = .slice (some ⟨g, 0, none⟩) n.cnt cap ∧ w.cell? ⟨g, (n.cnt - 1) * 5, none⟩ = some (.string n.last) := by
  have hc := ho
  obtain ⟨_, ⟨_, h⟩ | ⟨g, cap, cur, rfl, _⟩⟩ := ho
  · omega
  · refine ⟨g, cap, rfl, ?_⟩
    cases n with
    | leaf => simp [ND.cnt] at h0
    | add p s c =>
      obtain ⟨cp, a, cap', rfl, h4, h5⟩ := hk
      have hp := ND.KC.len h4
      have := hc.cells (g := g) rfl (p.cnt * 5) (.string s) (by rw [List.getElem?_append_right (by omega), show p.cnt * 5 - cp.length = 0 by omega]; rfl)
      rw [addr_add0] at this
      exact this
theorem ncmp_any (a b : ByteArray) (w : World) : Calls Try.prog 59 #[.string a, .string b] w fun e w' => e = .returned (.int .i64 (Lib.compareBytes a.data.toList b.data.toList)) ∧ w = w' := by
  have C : Hid (∀ w, Calls Try.prog 67 #[.string a, .string b] w fun e w' => e = .returned (.int .i64 (Lib.compareBytes a.data.toList b.data.toList)) ∧ w' = w) := fun w => Go.Proofs.Try.strings_Compare a b w
  generalize Lib.compareBytes a.data.toList b.data.toList = q at *
  go_enter Try.func59, Try.ntmps59
  go_wp2_with (go_at_call 67; refine (C.out _).mono ?_; rintro e w' ⟨rfl, rfl⟩)
  go_ret
  exact ⟨rfl, rfl⟩
theorem TopS.later {w w' : World} {B : Nat} {fl : Nat → Nat} {l : Lv} {n : Nat} {sv : Value} {gs cap : Nat} {kv : Value} {ks : List Value} (T : TopS w B fl l n sv gs cap kv ks) (hb : Below w.heap.size w w') : TopS w' B fl l n sv gs cap kv ks :=
  ⟨T.sv, T.lab, fun j hj => (hb.cell (p := ⟨gs, n * 5 + j, none⟩) T.lt).trans (T.cell j hj), fun j => (hb.frozen (p := ⟨gs, j, none⟩) T.lt).trans (T.free j), Nat.lt_of_lt_of_le T.lt hb.size, owns_kept T.own (fun b hl _ => hb.block b hl), T.kc.kept (fun b hl h => ⟨hb.block b hl, h⟩), T.klab⟩
theorem below_drw (w : World) (n : Nat) : Below w.heap.size w (w.drewN n) := ⟨rfl, rfl, rfl, Nat.le_refl _, fun _ _ => rfl⟩
set_option maxRecDepth 100000 in
set_option maxHeartbeats 4000000 in
theorem pname_any (w0 : World) (S : Nat → Prop) (B gp : Nat) (fl : Nat → Nat) (p : PS) (gf : Nat) (sv rv : Value) (s : ByteArray) (w : World) (H : PaW w0 S w B gp fl p gf sv rv) (hn : p.x.next = 14) (l : Lv) (r : List Lv) (hs : p.x.stack = l :: r) (hr : r.length ≤ 32) (hsz : s.size ≤ 1048576) (hcn : l.node.cnt ≤ 1048576) :
    Calls Try.prog 48 #[.pointer (some ⟨gp, 0, none⟩), .string s] w fun e w' => WordR w0 S B gp p gf (p.x.word s) e w' := by
  have hw : p.x.word s = if nm s ≠ 0 then .error (nm s) else if 0 < l.node.cnt ∧ leB s l.node.last = true then .error 64 else .ok { p.x with stack := kidSet s l :: r, next := 15 } := by
    unfold WS.word
    rw [hn, hs]
    simp only [plainW, Nat.reduceEqDiff, if_false, if_true, topND, WS.put, hs, topSet]
  rw [hw]
  clear hw
  obtain ⟨gs, cap, kv, ks, T⟩ := H.top hs
  obtain ⟨R, hR⟩ : ∃ R, (if nm s ≠ 0 then .error (nm s) else if 0 < l.node.cnt ∧ leB s l.node.last = true then .error 64 else .ok { p.x with stack := kidSet s l :: r, next := 15 } : Except Int WS) = R := ⟨_, rfl⟩
  rw [hR]
  have CT := ptop_any w0 S B gp fl p gf sv rv w H gs r.length cap T.sv (by omega)
  have CC : ∀ w, Calls Try.prog 58 #[.string s] w fun e w' => e = .returned (.int .i64 (nm s)) ∧ Below w.heap.size w w' := fun w => name_any s w hsz
  have CT := Lib.hid CT
  have CC := Lib.hid CC
  have HR := Lib.hid hR
  have HH := Lib.hid H
  have HT := Lib.hid T
  clear H T hR
  go_enter Try.func48, Try.ntmps48
  go_upto_region 3 with (first | (go_at_call 46; refine CT.out.mono ?_; rintro e w1 ⟨rfl, k1, rfl⟩) | (go_at_call 58; refine (CC.out _).mono ?_; rintro e w3 ⟨rfl, h3⟩; have H3 := Lib.hid h3; clear h3))
  have hb3 : Below w.heap.size w w3 := (below_drw w k1).trans H3.out
  have HX := Lib.hid (HH.out.later hb3)
  have TX := Lib.hid (HT.out.later hb3)
  clear hb3 H3
  have c1 := HX.out.c1
  by_cases h1 : nm s = 0
  · have hr1 := HR.out.symm.trans (if_neg (by simpa using h1))
    have h1I : (nm s != 0) = false := by simpa using h1
    have d3 : w3.cell? ⟨gs, r.length * 5 + 3, none⟩ = some kv := TX.out.cell 3 (by omega)
    have d4 : w3.cell? ⟨gs, r.length * 5 + 4, none⟩ = some (.string l.kid) := TX.out.cell 4 (by omega)
    have f4 := TX.out.free (r.length * 5 + 4)
    have hk := HX.out.topSet hs TX.out.sv (l' := kidSet s l) 4 (by omega) (.string s) (fun kv => rfl) rfl (fun _ _ _ h => h)
    have HK := Lib.hid hk
    have hcn0 : (0 : Int) ≤ l.node.cnt := by omega
    have hcn1 : (l.node.cnt : Int) ≤ 1048576 := by omega
    clear hk
    by_cases h2 : 0 < l.node.cnt
    · obtain ⟨gk, kc, hkv, hlast⟩ := last_cell TX.out.own TX.out.kc h2
      rw [hkv] at d3
      have h2I : (0 : Int) < l.node.cnt := by omega
      have h2N : (l.node.cnt : Int) - 1 = ((l.node.cnt - 1 : Nat) : Int) := by omega
      have ha := addr_add0 gk ((l.node.cnt - 1) * 5)
      have hcmp := cmp_leB l.node.last s
      have KM := Lib.hid (fun w => ncmp_any l.node.last s w)
      by_cases h3 : leB s l.node.last = true
      · have hr2 := hr1.trans (if_pos ⟨h2, h3⟩)
        subst hr2
        rw [h3] at hcmp
        clear HR h1 h2 h3 hr1 hkv HK
        go_wp2_with (first | (go_at_call 59; refine (KM.out _).mono ?_; rintro e w' ⟨rfl, rfl⟩) | (go_at_call 24; refine (pfail_any w0 S B gp fl p gf sv rv 64 p.start _ HX.out).mono ?_; rintro e w6 ⟨rfl, hf⟩; have HF := Lib.hid hf; clear hf))
        go_ret
        exact ⟨rfl, _, _, _, HF.out⟩
      · have hr2 := hr1.trans (if_neg (fun h => h3 h.2))
        subst hr2
        have h3' : leB s l.node.last = false := by simpa using h3
        rw [h3'] at hcmp
        clear HR h1 h2 h3 h3' hr1 hkv
        go_upto_region 9 with (go_at_call 59; refine (KM.out _).mono ?_; rintro e w' ⟨rfl, rfl⟩)
        generalize w3.setCell ⟨gs, r.length * 5 + 4, none⟩ (.string s) = w4 at *
        have c7 := HK.out.c7
        have f7 := HK.out.free 7
        have hq := HK.out.put (p' := { p with x := { p.x with stack := kidSet s l :: r, next := 15 } }) 7 (.int .i64 (15 : Nat)) rfl rfl rfl
        have HQ := Lib.hid hq
        clear hq d4 d3 f4 hlast
        go_wp2_with fail
        go_ret
        exact ⟨rfl, _, _, _, HQ.out⟩
    · have hr2 := hr1.trans (if_neg (fun h => h2 h.1))
      subst hr2
      have h2I : ¬ (0 : Int) < l.node.cnt := by omega
      have h2D : decide ((0 : Int) < l.node.cnt) = false := decide_eq_false h2I
      obtain ⟨A3, l3, k3, hkv⟩ := owns_slice TX.out.own
      have hl3 : l3 = l.node.cnt := by
        obtain ⟨_, ⟨h, h'⟩ | ⟨g, cap, cur, h, _⟩⟩ := TX.out.own
        · rw [hkv] at h; injection h with _ e _; omega
        · rw [hkv] at h; injection h
      rw [hkv, hl3] at d3
      clear HR h1 h2 hr1 hkv hl3
      go_upto_region 9 with fail
      generalize w3.setCell ⟨gs, r.length * 5 + 4, none⟩ (.string s) = w4 at *
      have c7 := HK.out.c7
      have f7 := HK.out.free 7
      have hq := HK.out.put (p' := { p with x := { p.x with stack := kidSet s l :: r, next := 15 } }) 7 (.int .i64 (15 : Nat)) rfl rfl rfl
      have HQ := Lib.hid hq
      clear hq d4 d3 f4
      go_wp2_with fail
      go_ret
      exact ⟨rfl, _, _, _, HQ.out⟩
  · have hr1 := HR.out.symm.trans (if_pos h1)
    subst hr1
    have h1I : (nm s != 0) = true := by simpa using h1
    clear HR h1 TX
    go_wp2_with (go_at_call 24; refine (pfail_any w0 S B gp fl p gf sv rv (nm s) p.start _ HX.out).mono ?_; rintro e w6 ⟨rfl, hf⟩; have HF := Lib.hid hf; clear hf)
    go_ret
    exact ⟨rfl, _, _, _, HF.out⟩
end Go.Proofs.Ytlcppkcclolgcaa

