/- The walks of the parser's open and name. -/
import Derived.Test.YtlcppkcclolgcaaPq
namespace Go.Proofs.Ytlcppkcclolgcaa
set_option linter.unusedVariables false
set_option linter.unusedSimpArgs false
open Go.RowKit

theorem str_ne {s t : ByteArray} {l : List UInt8} (ht : t.data.toList = l) (h : s ≠ t) : (s.toList == l) = false := by
  rw [toList_data]
  cases hb : (s.data.toList == l) with
  | false => rfl
  | true =>
    exfalso
    apply h
    apply ByteArray.ext
    apply Array.ext'
    rw [ht]
    exact eq_of_beq hb
theorem str_eq {t : ByteArray} {l : List UInt8} (ht : t.data.toList = l) : (t.toList == l) = true := by
  rw [toList_data, ht]
  exact beq_self_eq_true l
theorem owns_slice {w : World} {B : Nat} {e : TypeId} {sz : Nat} {v : Value} {n : Nat} {xs : List Value} (h : w.ownsRow B e sz v n xs) : ∃ A l c, v = .slice A l c := by
  obtain ⟨_, ⟨h, _⟩ | ⟨g, cap, cur, h, _⟩⟩ := h
  · exact ⟨_, _, _, h⟩
  · exact ⟨_, _, _, h⟩
theorem owns_set {w : World} {B : Nat} {e : TypeId} {sz g n cap : Nat} {xs : List Value} (h : w.ownsRow B e sz (.slice (some ⟨g, 0, none⟩) n cap) n xs) (j : Nat) (hj : j < xs.length) (u : Value) :
    (w.setCell ⟨g, j, none⟩ u).ownsRow B e sz (.slice (some ⟨g, 0, none⟩) n cap) n (xs.set j u) := by
  obtain ⟨h1, ⟨h2, _⟩ | ⟨g', cap', cur, hv, hb, hg, hn, hm, hs, ht⟩⟩ := h
  · cases h2
  · injection hv with e1 e2 e3
    injection e1 with e1
    injection e1 with e1 e4 e5
    subst e1
    subst e3
    refine ⟨by rw [List.length_set]; exact h1, .inr ⟨g, cap, cur.setIfInBounds j u, rfl, hb, heap_setCell_same w g j _ _ _ hg, hn, hm, by simpa using hs, ?_⟩⟩
    rw [Array.toList_setIfInBounds, ← ht, List.take_set]
/-- a cell of the innermost open node -/
theorem PaW.topSet {w0 w : World} {S : Nat → Prop} {B gp : Nat} {fl : Nat → Nat} {p : PS} {gf : Nat} {sv rv : Value} (H : PaW w0 S w B gp fl p gf sv rv) {l l' : Lv} {r : List Lv} (hs : p.x.stack = l :: r) {gs cap : Nat}
    (hsv : sv = .slice (some ⟨gs, 0, none⟩) (r.length + 1) cap) (j : Nat) (hj : j < 5) (u : Value) (hc : ∀ kv, (lvCells l kv).set j u = lvCells l' kv) (hcnt : l'.node.cnt = l.node.cnt) (hkc : ∀ S w cs, l.node.KC S w cs → l'.node.KC S w cs) :
    PaW w0 S (w.setCell ⟨gs, r.length * 5 + j, none⟩ u) B gp fl { p with x := { p.x with stack := l' :: r } } gf sv rv := by
  obtain ⟨cs, h1, h2, h3⟩ := H.stk
  obtain ⟨a, cap', e, h4⟩ := H.root
  have hlab := H.lab
  subst hsv
  have hgs : fl gs = 4 := h3 gs rfl
  have hlt := (h1.lt gs rfl).2
  have hne : gp ≠ gs := fun e => by rw [e] at hlab; omega
  rw [hs] at h1 h2
  obtain ⟨cr, kv, ks, rfl, g1, g2, g3, g4⟩ := h2
  have hl := g1.len
  have hk : ∀ b, b ≠ gs → (w.setCell ⟨gs, r.length * 5 + j, none⟩ u).heap[b]? = w.heap[b]? := fun b hb => Below.heap_setCell _ _ _ _ hb
  refine ⟨(hk gp hne).trans H.row, hlab, fun k h => ⟨(H.hB k h).1, by simpa [World.setCell] using (H.hB k h).2⟩, H.sl, H.away.set gs _ u (H.sl gs (by omega)), ⟨cr ++ lvCells l' kv, ?_, ⟨cr, kv, ks, rfl, ?_, ?_, ?_, g4⟩, h3⟩, a, cap', e, ?_⟩
  · have hset := owns_set h1 (r.length * 5 + j) (by simp [lvCells]; omega) u
    rw [List.set_append_right _ _ (by omega), show r.length * 5 + j - cr.length = j by omega, hc] at hset
    exact hset
  · exact g1.kept (fun b _ h0 => ⟨hk b (fun e => by rw [e] at h0; omega), h0⟩) (fun b _ h5 _ => ⟨hk b (fun e => by rw [e] at h5; omega), rfl⟩)
  · rw [hcnt]
    exact owns_kept g2 (fun b _ hv => hk b (fun e => by have := g4 b hv; rw [e] at this; omega))
  · exact hkc _ _ _ (g3.kept (fun b _ h0 => ⟨hk b (fun e => by rw [e] at h0; omega), h0⟩))
  · exact h4.kept (fun b _ h0 => ⟨hk b (fun e => by rw [e] at h0; omega), h0⟩)
/-- how a word ends -/
def WordR (w0 : World) (S : Nat → Prop) (B gp : Nat) (p : PS) (gf : Nat) (R : Except Int WS) (e : Ending) (w' : World) : Prop :=
  match R with
  | .ok y => e = .returned (.bool true) ∧ ∃ fl' sv' rv', PaW w0 S w' B gp fl' { p with x := y } gf sv' rv'
  | .error q => e = .returned (.bool false) ∧ ∃ fl' sv' rv', PaW w0 S w' B gp fl' (p.bad q p.start) gf sv' rv'
/-- labels behind a new row -/
def lbl (fl : Nat → Nat) (v : Value) (n : Nat) : Nat → Nat :=
  match v.ownBlock with
  | some k => upd fl k n
  | none => fl
theorem lbl_own {fl : Nat → Nat} {v : Value} {n k : Nat} (h : v.ownBlock = some k) : lbl fl v n k = n := by
  unfold lbl
  rw [h]
  exact upd_same _ _ _
theorem lbl_other {fl : Nat → Nat} {v : Value} {n b : Nat} (h : v.ownBlock ≠ some b) : lbl fl v n b = fl b := by
  unfold lbl
  cases hv : v.ownBlock with
  | none => rfl
  | some k => exact upd_ne _ _ _ _ (fun e => h (by rw [hv, e]))
/-- a node more is open -/
theorem PaW.push {w0 w w4 w5 : World} {S : Nat → Prop} {B gp : Nat} {fl : Nat → Nat} {p : PS} {gf : Nat} {sv rv v5 : Value} {cs : List Value} (H : PaW w0 S w B gp fl p gf sv rv) (hb : Below w.heap.size w w4)
    (h2 : StC fl w B p.x.stack cs) (h3 : ∀ k, sv.ownBlock = some k → fl k = 4) (ho : w5.ownsRow B 110 5 v5 (p.x.stack.length + 1) (cs ++ lvCells ⟨.leaf 0 false emp, emp⟩ (.slice none 0 0))) (hg : w4.grownBy w5 sv.ownBlock) (hat : v5.ownBlock = sv.ownBlock ∨ v5.ownBlock = some w4.heap.size) (hsvl : ∀ k, sv.ownBlock = some k → k < w.heap.size) :
    PaW w0 S (w5.setCell ⟨gp, 9, none⟩ v5) B gp (lbl fl v5 4) { p with x := { p.x with stack := ⟨.leaf 0 false emp, emp⟩ :: p.x.stack, next := p.x.next } } gf v5 rv := by
  obtain ⟨a, cap', e, h4⟩ := H.root
  have hlab := H.lab
  have hlt := H.lt
  have hz := hb.size
  have hz5 := hg.size
  have hsz := H.away.size
  have hf : ∀ b, b < w.heap.size → fl b ≠ 4 → v5.ownBlock ≠ some b := fun b hb' h4 e => by
    rcases hat with h | h
    · exact h4 (h3 b (by rw [← h, e]))
    · rw [e] at h; injection h with h; omega
  have hk : ∀ b, b < w.heap.size → fl b ≠ 4 → b ≠ gp → (w5.setCell ⟨gp, 9, none⟩ v5).heap[b]? = w.heap[b]? := fun b hb' h4 hne => by
    rw [Below.heap_setCell _ _ _ _ hne, hg.block b (by omega) (fun e => h4 (h3 b e.symm)), hb.block b hb']
  have hgp4 : fl gp ≠ 4 := by omega
  have hrow5 : w5.heap[gp]? = some (.cells (pcells p gf sv rv) 52 (0, 0)) := by
    rw [hg.block gp (by omega) (fun e => hgp4 (h3 gp e.symm)), hb.block gp hlt, H.row]
  have hvb : ∀ k, v5.ownBlock = some k → B ≤ k ∧ k < w5.heap.size := fun k hk => ho.lt k hk
  refine ⟨?_, ?_, fun k h => ?_, fun k h hl => ?_, ?_, ⟨cs ++ lvCells ⟨.leaf 0 false emp, emp⟩ (.slice none 0 0), ?_, ⟨cs, .slice none 0 0, [], rfl, ?_, World.ownsRow_nil _ _ _ _, rfl, fun b h => by simp [Value.ownBlock] at h⟩, fun k h => lbl_own h⟩, a, cap', e, ?_⟩
  · rw [heap_setCell_same w5 gp 9 _ _ _ hrow5]
    rfl
  · rw [lbl_other (hf gp hlt hgp4)]; exact hlab
  · by_cases hv : v5.ownBlock = some k
    · have := hvb k hv
      exact ⟨this.1, by simpa [World.setCell] using this.2⟩
    · rw [lbl_other hv] at h
      have := H.hB k h
      exact ⟨this.1, by simp [World.setCell]; omega⟩
  · by_cases hv : v5.ownBlock = some k
    · rcases hat with h' | h'
      · exact H.sl k (by rw [h3 k (by rw [← h', hv])]; omega) hl
      · rw [hv] at h'; injection h' with h'; omega
    · rw [lbl_other hv] at h
      exact H.sl k h hl
  · refine (((H.away.later hb).grown hg (fun k e hl => H.sl k (by rw [h3 k e]; omega) hl)).set gp 9 v5 (H.sl gp (by omega)))
  · refine owns_kept ho (fun b hb' hv => Below.heap_setCell _ _ _ _ (fun e => ?_))
    subst e
    exact hf b hlt hgp4 hv
  · refine h2.kept (fun b hb' h0 => ⟨hk b hb' (by omega) (fun e => by rw [e] at h0; omega), ?_⟩) (fun b hb' h5 _ => ⟨hk b hb' (by omega) (fun e => by rw [e] at h5; omega), ?_⟩)
    · rw [lbl_other (hf b hb' (by omega))]; exact h0
    · rw [lbl_other (hf b hb' (by omega))]
  · refine h4.kept (fun b hb' h0 => ⟨hk b hb' (by omega) (fun e => by rw [e] at h0; omega), ?_⟩)
    rw [lbl_other (hf b hb' (by omega))]; exact h0
theorem lv0_one : ∀ u ∈ lvCells ⟨.leaf 0 false emp, emp⟩ (.slice none 0 0), u.oneCell' = true := by
  intro u hu
  simp only [lvCells, ND.kind, ND.exec, ND.text, List.mem_cons, List.not_mem_nil, or_false] at hu
  rcases hu with rfl | rfl | rfl | rfl | rfl <;> rfl
set_option maxRecDepth 100000 in
set_option maxHeartbeats 4000000 in
theorem open_any (w0 : World) (S : Nat → Prop) (B gp : Nat) (fl : Nat → Nat) (p : PS) (gf : Nat) (sv rv : Value) (s : ByteArray) (w : World) (H : PaW w0 S w B gp fl p gf sv rv) (hn : p.x.next = 1) (hl : p.x.stack.length ≤ 32) :
    Calls Try.prog 44 #[.pointer (some ⟨gp, 0, none⟩), .string s] w fun e w' => WordR w0 S B gp p gf (p.x.word s) e w' := by
  have hw : p.x.word s = if s ≠ wOpen then .error 70 else if p.x.stack.length = 32 then .error 61 else .ok { p.x with stack := ⟨.leaf 0 false emp, emp⟩ :: p.x.stack, next := 2 } := by
    unfold WS.word
    rw [hn]
    rfl
  rw [hw]
  clear hw
  by_cases h1 : s = wOpen
  · rw [if_neg (by simpa using h1)]
    subst h1
    have he := str_eq (t := wOpen) (l := [40]) rfl
    unfold wOpen at he ⊢
    obtain ⟨cs, o1, o2, o3⟩ := H.stk
    have hsvl : ∀ k, sv.ownBlock = some k → k < w.heap.size := fun k h => (o1.lt k h).2
    have c9 := H.c9
    have c1 := H.c1
    obtain ⟨A9, k9, hv9⟩ : ∃ A k, sv = .slice A p.x.stack.length k := by
      obtain ⟨_, ⟨h, h0⟩ | ⟨g, cap, cur, h, _⟩⟩ := o1
      · exact ⟨_, _, by rw [h, h0]⟩
      · exact ⟨_, _, h⟩
    obtain ⟨n, hnn⟩ : ∃ n, p.x.stack.length = n := ⟨_, rfl⟩
    rw [hnn] at hv9 hl o1
    rw [hv9] at c9
    by_cases h2 : n = 32
    · rw [if_pos (by rw [hnn]; exact h2)]
      have h2I : ((n : Int) == 32) = true := by simp; omega
      have HH := Lib.hid H
      clear H o1 o2 o3 hsvl hv9
      go_enter Try.func44, Try.ntmps44
      go_wp2_with (go_at_call 24; refine (pfail_any w0 S B gp fl p gf sv rv 61 p.start _ HH.out).mono ?_; rintro e w3 ⟨rfl, hf⟩; have HF := Lib.hid hf; clear hf)
      go_ret
      exact ⟨rfl, _, _, _, HF.out⟩
    · rw [if_neg (by rw [hnn]; exact h2)]
      have h2I : ((n : Int) == 32) = false := by simp; omega
      obtain ⟨i0, hi0, hz0, hz1, hz2⟩ := info_parts (show (Try.prog.info? 110).map (fun i => (i.zero, i.size, i.bytes)) = some (some (.agg #[.int .i64 0, .bool false, .string ⟨#[]⟩, .slice none 0 0, .string ⟨#[]⟩]), 5, 72) by kernel_rfl)
      have o5 := o1.alloc (.cells #[.int .i64 0, .bool false, .string ⟨#[]⟩, .slice none 0 0, .string ⟨#[]⟩] 110)
      have hnew := news_cells w [.int .i64 0, .bool false, .string ⟨#[]⟩, .slice none 0 0, .string ⟨#[]⟩] 110
      have hba : Below w.heap.size w (w.alloc (.cells #[.int .i64 0, .bool false, .string ⟨#[]⟩, .slice none 0 0, .string ⟨#[]⟩] 110)) := (Below.refl _ _).alloc (Nat.le_refl _) _
      have hbb : B ≤ (w.alloc (.cells #[.int .i64 0, .bool false, .string ⟨#[]⟩, .slice none 0 0, .string ⟨#[]⟩] 110)).heap.size := by
        have := H.hB gp (by rw [H.lab]; omega)
        simp
        omega
      have hlt := H.lt
      have hm63 : n + 1 ≤ maxLen := by unfold maxLen; omega
      have hm47 : (n + 1) * 72 ≤ 140737488355328 := by omega
      have hgp4 : sv.ownBlock ≠ some gp := fun e => by have := o3 gp e; have := H.lab; omega
      have HH := Lib.hid H
      have O2 := Lib.hid o2
      have O3 := Lib.hid o3
      have O5 := Lib.hid o5
      have HNEW := Lib.hid hnew
      have HBA := Lib.hid hba
      have HBB := Lib.hid hbb
      have HV9 := Lib.hid hv9
      have HSVL := Lib.hid hsvl
      have HNN := Lib.hid hnn
      have HGP := Lib.hid hgp4
      clear H o1 o2 o3 o5 hnew hba hbb hv9 hsvl hnn hgp4
      go_enter Try.func44, Try.ntmps44
      go_upto_region 6 with (at_builtin; refine wpList_append_own_at _ rfl (.tmp 33) (.tmp 35) 50 rfl B 110 i0 (.agg #[.int .i64 0, .bool false, .string ⟨#[]⟩, .slice none 0 0, .string ⟨#[]⟩]) 5 72 Try.underlying50 hi0 hz0 hz1 hz2 rfl (by decide) sv n _ (by first | exact HV9.out.symm | rfl) O5.out ⟨w.heap.size, 0, none⟩ 1 1 [.int .i64 0, .bool false, .string ⟨#[]⟩, .slice none 0 0, .string ⟨#[]⟩] rfl rfl HNEW.out lv0_one hm63 hm47 HBB.out ?_; intro v5 w5 ho5 hg5 _ ha5; obtain ⟨A5, l5, k5, hv5⟩ := owns_slice ho5; subst hv5; have hx5 := (hg5.block gp (by simp; omega) (fun e => HGP.out e.symm)).trans (row_past HH.out.row _); have d9 := cell_of_row w5 gp 9 _ _ _ hx5; have f9 := frozen_of_row w5 gp 9 _ _ hx5; have HO5 := Lib.hid ho5; have HG5 := Lib.hid hg5; have HA5 := Lib.hid ha5; clear ho5 hg5 ha5 hx5)
      have hp := HH.out.push HBA.out O2.out O3.out (by rw [HNN.out]; exact HO5.out) HG5.out HA5.out HSVL.out
      have HP := Lib.hid hp
      clear hp d9 f9 c9 c1
      generalize w5.setCell ⟨gp, 9, none⟩ (.slice A5 l5 k5) = w6 at *
      have c7 := HP.out.c7
      have f7 := HP.out.free 7
      have hq := HP.out.put (p' := { p with x := { p.x with stack := ⟨.leaf 0 false emp, emp⟩ :: p.x.stack, next := 2 } }) 7 (.int .i64 (2 : Nat)) rfl rfl rfl
      have HQ := Lib.hid hq
      clear hq
      go_wp2_with fail
      go_ret
      exact ⟨rfl, _, _, _, HQ.out⟩
  · rw [if_pos h1]
    have he := str_ne (t := wOpen) (l := [40]) rfl h1
    have hp := Lib.hid (fun w' H' => pfail_any w0 S B gp fl p gf sv rv 70 p.start w' H')
    have c1 := H.c1
    have HH := Lib.hid H
    clear H h1
    go_enter Try.func44, Try.ntmps44
    go_wp2_with (go_at_call 24; refine (hp.out _ HH.out).mono ?_; rintro e w3 ⟨rfl, hf⟩; have HF := Lib.hid hf; clear hf)
    go_ret
    exact ⟨rfl, _, _, _, HF.out⟩
end Go.Proofs.Ytlcppkcclolgcaa

