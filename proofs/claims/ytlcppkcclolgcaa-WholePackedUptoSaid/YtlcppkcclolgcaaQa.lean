/- A parser in memory with its reader. -/
import Derived.Test.YtlcppkcclolgcaaPz
namespace Go.Proofs.Ytlcppkcclolgcaa
set_option linter.unusedVariables false
set_option linter.unusedSimpArgs false
open Go.RowKit

structure PaS (w0 : World) (S : Nat → Prop) (w : World) (B gp : Nat) (fl : Nat → Nat) (p : PS) (gf : Nat) (sv rv : Value) : Prop where
  paw : PaW w0 S w B gp fl p gf sv rv
  rdr : p.code = 0 → p.x.whole = false → ∃ v, RdS w (MineR gf v) w B gf v (rcOf p.ws) ∧ fl gf = 2 ∧ ∀ k, v.ownBlock = some k → fl k = 3
def PaX (w0 : World) (S : Nat → Prop) (w : World) (B gp : Nat) (p : PS) : Prop := ∃ fl gf sv rv, PaS w0 S w B gp fl p gf sv rv
section
variable {w0 w w' : World} {S : Nat → Prop} {B gp : Nat} {fl : Nat → Nat} {p : PS} {gf : Nat} {sv rv : Value}
theorem PaS.later (H : PaS w0 S w B gp fl p gf sv rv) (hb : Below w.heap.size w w') : PaS w0 S w' B gp fl p gf sv rv :=
  ⟨H.paw.later hb, fun h1 h2 => by
    obtain ⟨v, h, h3, h4⟩ := H.rdr h1 h2
    exact ⟨v, (h.later hb).rebase, h3, h4⟩⟩
/-- a fault, or the end: the reader counts no more -/
theorem PaS.of_bad (H : PaW w0 S w B gp fl p gf sv rv) (h : p.code ≠ 0) : PaS w0 S w B gp fl p gf sv rv := ⟨H, fun h0 => absurd h0 h⟩
/-- the reader has been fed -/
theorem PaS.fed {v v' : Value} {c' : RC} (H : PaW w0 S w B gp fl p gf sv rv) (h2 : fl gf = 2) (h3 : ∀ k, v.ownBlock = some k → fl k = 3) (hR : RdS w (MineR gf v) w' B gf v' c') :
    PaW w0 S w' B gp (lbl fl v' 3) p gf sv rv ∧ lbl fl v' 3 gf = 2 ∧ ∀ k, v'.ownBlock = some k → lbl fl v' 3 k = 3 := by
  have hm : ∀ k, MineR gf v k → fl k = 2 ∨ fl k = 3 := fun k h => by
    rcases h with rfl | h
    · exact .inl h2
    · exact .inr (h3 k h)
  have hv' : ∀ k, k < w.heap.size → v'.ownBlock = some k → fl k = 2 ∨ fl k = 3 := fun k hk h => hm k (hR.sv k h hk)
  have hlab := H.lab
  refine ⟨H.kept ?_ (H.away.join hR.away (fun k hk h => H.sl k (by rcases hm k h with h | h <;> omega) hk)) (fun b hb h2' h3' => ⟨lbl_other (fun e => by rcases hv' b hb e with h | h; exact h2' h; exact h3' h), fun _ => hR.away.block b hb (fun h => by rcases hm b h with h | h; exact h2' h; exact h3' h)⟩) (fun k hk => ?_) (fun k hk hl => ?_) rfl rfl, ?_, fun k h => lbl_own h⟩
  · exact (hR.away.block gp H.lt (fun h => by rcases hm gp h with h | h <;> omega)).trans H.row
  · by_cases hv : v'.ownBlock = some k
    · exact hR.own.lt k hv
    · rw [lbl_other hv] at hk
      exact ⟨(H.hB k hk).1, Nat.lt_of_lt_of_le (H.hB k hk).2 hR.away.size⟩
  · by_cases hv : v'.ownBlock = some k
    · have hlw : k < w.heap.size := Nat.lt_of_lt_of_le hl H.away.size
      exact H.sl k (by rcases hv' k hlw hv with h | h <;> omega) hl
    · rw [lbl_other hv] at hk
      exact H.sl k hk hl
  · rw [lbl_other hR.vg]; exact h2
/-- a new reader -/
theorem PaW.newFrame {w1 : World} {p' : PS} (H : PaW w0 S w B gp fl p gf sv rv) (hr : RdS w (fun _ => False) w1 w.heap.size w.heap.size (.slice none 0 0) (rcOf [])) (hp : p' = { p with ws := [] }) :
    PaS w0 S (w1.setCell ⟨gp, 8, none⟩ (.pointer (some ⟨w.heap.size, 0, none⟩))) B gp (upd fl w.heap.size 2) p' w.heap.size sv rv := by
  subst hp
  have hlt := H.lt
  have hb : Below w.heap.size w w1 := ⟨hr.away.os, hr.away.tape, hr.away.output, hr.away.size, fun k hk => hr.away.block k hk (fun h => h)⟩
  have hne : gp ≠ w.heap.size := by omega
  have hBw : B ≤ w.heap.size := by have := (H.hB gp (by rw [H.lab]; omega)).1; omega
  have hsz : w.heap.size < w1.heap.size := hr.lt
  have h1 : PaW w0 S w1 B gp (upd fl w.heap.size 2) p gf sv rv := by
    refine H.kept ((hb.block gp hlt).trans H.row) (H.away.later hb) (fun b hl _ _ => ⟨upd_ne _ _ _ _ (by omega), fun _ => hb.block b hl⟩) (fun k hk => ?_) (fun k hk hl => ?_) rfl rfl
    · by_cases e : k = w.heap.size
      · subst e; exact ⟨hBw, hsz⟩
      · rw [upd_ne _ _ _ _ e] at hk
        exact ⟨(H.hB k hk).1, Nat.lt_of_lt_of_le (H.hB k hk).2 hb.size⟩
    · by_cases e : k = w.heap.size
      · have := H.away.size; omega
      · rw [upd_ne _ _ _ _ e] at hk
        exact H.sl k hk hl
  refine ⟨h1.put (p' := { p with ws := [] }) (gf' := w.heap.size) 8 _ rfl rfl rfl, fun _ _ => ⟨.slice none 0 0, ⟨(Below.heap_setCell _ _ _ _ (fun e => hne e.symm)).trans hr.row, OwnB.nil _ _, hBw, Away.refl _ _, fun _ => .inl rfl, fun k e _ => .inr e⟩, upd_same _ _ _, fun k h => by simp [Value.ownBlock] at h⟩⟩
/-- another base -/
theorem PaS.rebase (H : PaS w0 S w B gp fl p gf sv rv) : PaS w (fun k => fl k ≠ 0) w B gp fl p gf sv rv :=
  ⟨⟨H.paw.row, H.paw.lab, H.paw.hB, fun k h _ => h, Away.refl _ _, H.paw.stk, H.paw.root⟩, H.rdr⟩
theorem PaS.join {fl' : Nat → Nat} {p' : PS} {gf' : Nat} {sv' rv' : Value} (H : PaS w0 S w B gp fl p gf sv rv) (H' : PaS w (fun k => fl k ≠ 0) w' B gp fl' p' gf' sv' rv') : PaS w0 S w' B gp fl' p' gf' sv' rv' :=
  ⟨⟨H'.paw.row, H'.paw.lab, H'.paw.hB, fun k h hl => H.paw.sl k (H'.paw.sl k h (Nat.lt_of_lt_of_le hl H.paw.away.size)) hl, H.paw.away.join H'.paw.away (fun k hl h => H.paw.sl k h hl), H'.paw.stk, H'.paw.root⟩, H'.rdr⟩
end
/-- bytes that lie in a block that the parser leaves alone -/
structure RdB (w0 : World) (S : Nat → Prop) (gb : Nat) (ps : List Nat) : Prop where
  lt : gb < w0.heap.size
  far : ¬ S gb
  cell : ∀ j, j < ps.length → w0.cell? ⟨gb, j, none⟩ = some (.int .u8 (ps.getD j 0 : Nat))
theorem RdB.at {w0 w : World} {S : Nat → Prop} {gb : Nat} {ps : List Nat} (h : RdB w0 S gb ps) (hf : Away w0 S w) (j : Nat) (hj : j < ps.length) : w.cell? ⟨gb, j, none⟩ = some (.int .u8 (ps.getD j 0 : Nat)) :=
  (World.cell?_of_block (hf.block gb h.lt h.far)).trans (h.cell j hj)
theorem drop_cons8 (ps : List Nat) (k : Nat) (h : k < ps.length) : ps.drop k = ps.getD k 0 :: ps.drop (k + 1) := by
  rw [List.drop_eq_getElem_cons h]
  congr 1
  simp [List.getD_eq_getElem?_getD, h]
theorem take_snoc8 (ps : List Nat) (k : Nat) (h : k < ps.length) : ps.take (k + 1) = ps.take k ++ [ps.getD k 0] := by
  rw [List.take_add_one]
  congr 1
  simp [List.getD_eq_getElem?_getD, h]
end Go.Proofs.Ytlcppkcclolgcaa

