/- The walks of the parser's small functions: fail, top, plainWord, open. -/
import Derived.Test.YtlcppkcclolgcaaPp
namespace Go.Proofs.Ytlcppkcclolgcaa
set_option linter.unusedVariables false
set_option linter.unusedSimpArgs false
open Go.RowKit

def PS.bad (p : PS) (q : Int) (a : Nat) : PS := { p with code := q, fat := a }
set_option maxRecDepth 100000 in
set_option maxHeartbeats 1000000 in
theorem pfail_any (w0 : World) (S : Nat → Prop) (B gp : Nat) (fl : Nat → Nat) (p : PS) (gf : Nat) (sv rv : Value) (q : Int) (a : Nat) (w : World) (H : PaW w0 S w B gp fl p gf sv rv) :
    Calls Try.prog 24 #[.pointer (some ⟨gp, 0, none⟩), .int .i64 q, .int .i64 (a : Int)] w fun e w' => e = .returned (.bool false) ∧ PaW w0 S w' B gp fl (p.bad q a) gf sv rv := by
  have c2 := H.c2
  have c3 := H.c3
  have f2 := H.free 2
  have f3 := H.free 3
  have hfin : PaW w0 S ((w.setCell ⟨gp, 2, none⟩ (.int .i64 q)).setCell ⟨gp, 3, none⟩ (.int .i64 (a : Int))) B gp fl (p.bad q a) gf sv rv := (H.put (p' := { p with code := q }) 2 (.int .i64 q) rfl rfl rfl).put 3 _ rfl rfl rfl
  have HF := Lib.hid hfin
  clear H hfin
  go_enter Try.func24, Try.ntmps24
  go_wp2_with fail
  go_ret
  exact ⟨rfl, HF.out⟩
/-- the innermost open node in memory -/
structure TopS (w : World) (B : Nat) (fl : Nat → Nat) (l : Lv) (n : Nat) (sv : Value) (gs cap : Nat) (kv : Value) (ks : List Value) : Prop where
  sv : sv = .slice (some ⟨gs, 0, none⟩) (n + 1) cap
  lab : fl gs = 4
  cell : ∀ j, j < 5 → w.cell? ⟨gs, n * 5 + j, none⟩ = (lvCells l kv)[j]?
  free : ∀ j, w.frozen? ⟨gs, j, none⟩ = false
  lt : gs < w.heap.size
  own : w.ownsRow B 79 5 kv l.node.cnt ks
  kc : l.node.KC (fun b => fl b = 0) w ks
  klab : ∀ b, kv.ownBlock = some b → fl b = 5 + n
theorem PaW.top {w0 w : World} {S : Nat → Prop} {B gp : Nat} {fl : Nat → Nat} {p : PS} {gf : Nat} {sv rv : Value} (H : PaW w0 S w B gp fl p gf sv rv) {l : Lv} {r : List Lv} (hs : p.x.stack = l :: r) :
    ∃ gs cap kv ks, TopS w B fl l r.length sv gs cap kv ks := by
  obtain ⟨cs, h1, h2, h3⟩ := H.stk
  rw [hs] at h1 h2
  obtain ⟨cr, kv, ks, e, h4, h5, h6, h7⟩ := h2
  have hl := h4.len
  have hc := h1
  obtain ⟨_, ⟨_, h0⟩ | ⟨gs, cap, cur, rfl, hb, hg, hn, hm, hsz, ht⟩⟩ := h1
  · simp at h0
  · refine ⟨gs, cap, kv, ks, rfl, h3 gs rfl, fun j hj => ?_, fun j => frozen_of_row w gs j _ _ hg, lt_of_row hg, h5, h6, h7⟩
    have hget : cs[r.length * 5 + j]? = (lvCells l kv)[j]? := by
      rw [e, List.getElem?_append_right (by omega), show r.length * 5 + j - cr.length = j by omega]
    have hjl : j < (lvCells l kv).length := by simpa [lvCells] using hj
    rw [← hget]
    have := hc.cells (g := gs) rfl (r.length * 5 + j) _ (hget.trans (List.getElem?_eq_getElem hjl))
    rw [addr_add0] at this
    rw [this, hget, List.getElem?_eq_getElem hjl]
set_option maxRecDepth 100000 in
set_option maxHeartbeats 1000000 in
theorem ptop_any (w0 : World) (S : Nat → Prop) (B gp : Nat) (fl : Nat → Nat) (p : PS) (gf : Nat) (sv rv : Value) (w : World) (H : PaW w0 S w B gp fl p gf sv rv) (gs n cap : Nat) (hsv : sv = .slice (some ⟨gs, 0, none⟩) (n + 1) cap) (hn : n ≤ 100) :
    Calls Try.prog 46 #[.pointer (some ⟨gp, 0, none⟩)] w fun e w' => e = .returned (.pointer (some ⟨gs, n * 5, none⟩)) ∧ ∃ k, w' = w.drewN k := by
  have c9 := H.c9
  rw [hsv] at c9
  have hn0 : (0 : Int) ≤ n := by omega
  have hn1 : (n : Int) ≤ 100 := by omega
  have e1 : ((n + 1 : Nat) : Int) = (n : Int) + 1 := by omega
  have ha := addr_add0 gs (n * 5)
  clear H hsv
  go_enter Try.func46, Try.ntmps46
  go_wp2_with fail
  go_quiet (fail)
  go_wp2_with fail
  go_ret
  exact ⟨rfl, _, rfl⟩
/-- the one word that may stand there -/
def plainV : Option (ByteArray × Nat) → Value
  | some (s, t) => .tuple #[.string s, .int .i64 (t : Int), .bool true]
  | none => .tuple #[.string emp, .int .i64 0, .bool false]
set_option maxRecDepth 100000 in
set_option maxHeartbeats 4000000 in
theorem plain_any (x : Nat) (w : World) : Calls Try.prog 43 #[.int .i64 (x : Int)] w fun e w' => e = .returned (plainV (plainW x)) ∧ w = w' := by
  by_cases h : x = 0 ∨ x = 2 ∨ x = 5 ∨ x = 6 ∨ x = 8 ∨ x = 12 ∨ x = 13 ∨ x = 15 ∨ x = 16
  · rcases h with rfl | rfl | rfl | rfl | rfl | rfl | rfl | rfl | rfl
    all_goals
      go_enter Try.func43, Try.ntmps43
      go_wp2_with fail
      go_ret3
      exact ⟨rfl, rfl⟩
  · have hn : plainW x = none := by
      unfold plainW
      repeat' (first | rw [if_neg (by omega)] | rfl)
    rw [hn]
    have k0 : ((x : Int) == 0) = false := by simp; omega
    have k2 : ((x : Int) == 2) = false := by simp; omega
    have k5 : ((x : Int) == 5) = false := by simp; omega
    have k6 : ((x : Int) == 6) = false := by simp; omega
    have k8 : ((x : Int) == 8) = false := by simp; omega
    have k12 : ((x : Int) == 12) = false := by simp; omega
    have k13 : ((x : Int) == 13) = false := by simp; omega
    have k15 : ((x : Int) == 15) = false := by simp; omega
    have k16 : ((x : Int) == 16) = false := by simp; omega
    clear h hn
    go_enter Try.func43, Try.ntmps43
    go_wp2_with fail
    go_ret3
    exact ⟨rfl, rfl⟩
end Go.Proofs.Ytlcppkcclolgcaa

