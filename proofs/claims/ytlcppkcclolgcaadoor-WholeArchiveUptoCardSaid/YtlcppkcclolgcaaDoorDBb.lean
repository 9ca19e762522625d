/- The walks of wire.Framed and tree.framed. The walks of tree.Target and tree.fields. The walks of tree's walker: add, below. The walk of tree's walker over a node. UNDER WAY. The walk of tree's walker over a directory. UNDER WAY. The walk of tree's walker over every node. The walks of tree.walk (it defers a closure that recovers) and tree.Check. UNDER WAY. The walks of tree.walk and tree.Check. -/
import Derived.Test.YtlcppkcclolgcaaDoorDBa
import Derived.Defers
import Derived.Recover
import Derived.RegionTactic
import Derived.BigRegion
import Derived.Deep.RegionHeld3
namespace Go.Proofs.YtlcppkcclolgcaaDoor
set_option linter.unusedVariables false
set_option linter.unusedSimpArgs false
open Go.RowKit

/-- a row of strings of the call's own -/
def strs (ss : List ByteArray) : Array Value := (ss.map Value.string).toArray
theorem strs_get (ss : List ByteArray) (i : Nat) (h : i < ss.length) : (strs ss)[i]? = some (.string ss[i]) := by
  simp [strs, List.getElem?_eq_getElem h]
theorem Framed_any (n : Nat) (hn : n ≤ 1048576) (w : World) :
    Calls Tryd.prog 54 #[.int .i64 (n : Int)] w fun e w' => e = .returned (.int .i64 ((fr n : Nat) : Int)) ∧ w = w' := by
  have e1 : (8 : Int) + ((n : Int) + 7) / 8 * 8 = ((fr n : Nat) : Int) := by unfold fr; omega
  have e2 : (n : Int) ≤ 1048576 := by omega
  have e3 : (0 : Int) ≤ n := by omega
  go_enter Tryd.func54, Tryd.ntmps54
  go_wp2_with fail
  go_ret
  exact ⟨rfl, rfl⟩
theorem frSum_le (ss : List ByteArray) (h : ∀ s ∈ ss, s.size ≤ 1048576) : frSum ss ≤ ss.length * 1048592 := by
  induction ss with
  | nil => simp [frSum]
  | cons s r ih =>
    have h1 := ih fun x hx => h x (List.mem_cons_of_mem _ hx)
    have h2 := h s (List.mem_cons_self ..)
    have h3 : frSum (s :: r) = fr s.size + frSum r := by simp [frSum]
    rw [h3, List.length_cons]
    unfold fr
    omega
theorem frSum_take (ss : List ByteArray) (i : Nat) (h : i < ss.length) : frSum (ss.take (i + 1)) = frSum (ss.take i) + fr ss[i].size := by
  rw [List.take_add_one, frSum_append]
  simp [frSum, List.getElem?_eq_getElem h]
set_option maxRecDepth 100000 in
set_option maxHeartbeats 2000000 in
theorem framed_any (ss : List ByteArray) (g len cap : Nat) (t : TypeId) (w : World) (hrow : w.heap[g]? = some (.cells (strs ss) t (0, 0))) (hs : ∀ s ∈ ss, s.size ≤ 1048576) (hl : ss.length ≤ 10) (hlen : len = ss.length) :
    Calls Tryd.prog 36 #[.slice (some ⟨g, 0, none⟩) len cap] w fun e w' => e = .returned (.int .i64 ((frSum ss : Nat) : Int)) ∧ w = w' := by
  have hcell : ∀ i, (h : i < ss.length) → w.cell? ⟨g, i, none⟩ = some (.string ss[i]) := fun i h => (cell_of_row w g i _ _ _ hrow).trans (strs_get ss i h)
  have HC := Lib.hid hcell
  have HS := Lib.hid hs
  have HL := Lib.hid hlen
  have hl2 : len ≤ 10 := by omega
  clear hcell hrow hs hlen
  go_enter Tryd.func36, Tryd.ntmps36
  go_wp2_with fail
  go_loopw [3, 8] (fun x3 x8 wr => ∃ i : Nat, i ≤ len ∧ x3 = .int .i64 ((frSum (ss.take i) : Nat) : Int) ∧ x8 = .int .i64 (i : Int) ∧ wr = w) (fun _ x8 _ => len - (intOf x8).toNat)
  case atStart => exact ⟨0, Nat.zero_le _, by simp [frSum], rfl, rfl⟩
  case round =>
    obtain ⟨i, hi, rfl, rfl, rfl⟩ := hrel
    have hi0 : (0 : Int) ≤ i := by omega
    have hb := frSum_le (ss.take i) fun s hm => HS.out s (List.mem_of_mem_take hm)
    rw [List.length_take] at hb
    have hb2 : ((frSum (ss.take i) : Nat) : Int) ≤ 20000000 := by have := hl2; omega
    have hb0 : (0 : Int) ≤ ((frSum (ss.take i) : Nat) : Int) := by omega
    by_cases hlt : i < len
    · have hlt2 : i < ss.length := by rw [← HL.out]; exact hlt
      have c0 := HC.out i hlt2
      have hsz := HS.out ss[i] (List.getElem_mem _)
      have hn := frSum_take ss i hlt2
      have CF := Lib.hid (fun w => Framed_any ss[i].size hsz w)
      have hfr : fr ss[i].size ≤ 1048592 := by unfold fr; omega
      have hfrI : ((fr ss[i].size : Nat) : Int) ≤ 1048592 := by omega
      have hfr0 : (0 : Int) ≤ ((fr ss[i].size : Nat) : Int) := by omega
      have hltI : (i : Int) < len := by omega
      have HN := Lib.hid hn
      generalize ss[i] = s at *
      clear hn hlt2
      go_wp2_with (go_at_call 54; refine (CF.out _).mono ?_; rintro e w' ⟨rfl, rfl⟩)
      go_roundw
      case rel => exact ⟨i + 1, by omega, by rw [HN.out]; go_num, by go_num, trivial⟩
      case measure => simp [intOf]; omega
    · have hltI : ¬ (i : Int) < len := by omega
      have hfin : frSum ss = frSum (ss.take i) := by rw [List.take_of_length_le (by rw [← HL.out]; omega)]
      go_wp2_with fail
      go_ret
      exact ⟨rfl, rfl⟩
end Go.Proofs.YtlcppkcclolgcaaDoor

namespace Go.Proofs.YtlcppkcclolgcaaDoor
set_option linter.unusedVariables false
set_option linter.unusedSimpArgs false
open Go.RowKit

theorem toList_data (s : ByteArray) : s.toList = s.data.toList := ByteArray.toList_eq s
theorem toList_emp : (⟨#[]⟩ : ByteArray).toList.isEmpty = true := by rw [toList_data]; rfl
theorem toList_ne (s : ByteArray) (h : s ≠ ⟨#[]⟩) : s.toList.isEmpty = false := by
  rw [toList_data]
  cases hb : s.data.toList.isEmpty with
  | false => rfl
  | true =>
    exfalso
    apply h
    apply ByteArray.ext
    apply Array.ext'
    rw [List.isEmpty_iff.1 hb]
/-- what Target tells -/
def tgE (s : ByteArray) : Int := if s = ⟨#[]⟩ ∨ 0 ≤ Lib.indexByte s.data.toList 0 then 63 else 0
theorem target_any (s : ByteArray) (w : World) :
    Calls Tryd.prog 47 #[.string s] w fun e w' => e = .returned (.int .i64 (tgE s)) ∧ w = w' := by
  have C : Hid (∀ w, Calls Tryd.prog 60 #[.string s, .int .u8 0] w fun e w' => e = .returned (.int .i64 (Lib.indexByte s.data.toList 0)) ∧ w' = w) := fun w => Go.Proofs.Tryd.strings_IndexByte s 0 w
  by_cases h1 : s = ⟨#[]⟩
  · have e : tgE s = 63 := by unfold tgE; rw [if_pos (.inl h1)]
    rw [e]
    subst h1
    go_enter Tryd.func47, Tryd.ntmps47
    go_wp2_with fail
    go_ret
    exact ⟨rfl, rfl⟩
  · have h2 := toList_ne s h1
    by_cases h3 : 0 ≤ Lib.indexByte s.data.toList 0
    · have e : tgE s = 63 := by unfold tgE; rw [if_pos (.inr h3)]
      rw [e]
      generalize Lib.indexByte s.data.toList 0 = i at *
      go_enter Tryd.func47, Tryd.ntmps47
      go_wp2_with (go_at_call 60; refine (C.out _).mono ?_; rintro e w' ⟨rfl, rfl⟩)
      go_ret
      exact ⟨rfl, rfl⟩
    · have e : tgE s = 0 := by unfold tgE; rw [if_neg (by rintro (h | h); exact h1 h; exact h3 h)]
      rw [e]
      generalize Lib.indexByte s.data.toList 0 = i at *
      go_enter Tryd.func47, Tryd.ntmps47
      go_wp2_with (go_at_call 60; refine (C.out _).mono ?_; rintro e w' ⟨rfl, rfl⟩)
      go_ret
      exact ⟨rfl, rfl⟩
/-- what fields tells -/
def ND.fldE (n : ND) : Int :=
  if n.kind = 1 then (if 0 < n.cnt then 62 else 0)
  else if n.kind = 2 then (if n.exec = true ∨ 0 < n.cnt then 62 else tgE n.text)
  else if n.kind = 3 then (if n.exec = true ∨ n.text ≠ ⟨#[]⟩ then 62 else 0)
  else 60
set_option maxRecDepth 100000 in
set_option maxHeartbeats 2000000 in
theorem fields_any (n : ND) (a : Option Addr) (cap : Nat) (w : World) :
    Calls Tryd.prog 55 #[n.val a cap] w fun e w' => e = .returned (.int .i64 n.fldE) ∧ Below w.heap.size w w' := by
  have C := Lib.hid (fun w => target_any n.text w)
  unfold ND.val ND.fldE
  generalize n.kind = k at *
  generalize n.exec = x at *
  generalize n.text = t at *
  generalize n.cnt = c at *
  have hc0 : (0 : Int) ≤ c := by omega
  by_cases k1 : k = 1
  · subst k1
    rw [if_pos rfl]
    by_cases hc : 0 < c
    · rw [if_pos hc]
      have hcI : (0 : Int) < c := by omega
      go_enter Tryd.func55, Tryd.ntmps55
      go_wp2_with fail
      go_ret
      exact ⟨rfl, (Below.refl _ _).alloc (Nat.le_refl _) _⟩
    · rw [if_neg hc]
      have hcI : ¬ (0 : Int) < c := by omega
      go_enter Tryd.func55, Tryd.ntmps55
      go_wp2_with fail
      go_ret
      exact ⟨rfl, (Below.refl _ _).alloc (Nat.le_refl _) _⟩
  · have k1b : (k == 1) = false := by simpa using k1
    rw [if_neg k1]
    by_cases k2 : k = 2
    · subst k2
      rw [if_pos rfl]
      cases x with
      | true =>
        rw [if_pos (.inl rfl)]
        go_enter Tryd.func55, Tryd.ntmps55
        go_wp2_with fail
        go_ret
        exact ⟨rfl, (Below.refl _ _).alloc (Nat.le_refl _) _⟩
      | false =>
        by_cases hc : 0 < c
        · rw [if_pos (.inr hc)]
          have hcI : (0 : Int) < c := by omega
          go_enter Tryd.func55, Tryd.ntmps55
          go_wp2_with fail
          go_ret
          exact ⟨rfl, (Below.refl _ _).alloc (Nat.le_refl _) _⟩
        · rw [if_neg (by rintro (h | h); cases h; exact hc h)]
          have hcI : ¬ (0 : Int) < c := by omega
          generalize tgE t = q at *
          go_enter Tryd.func55, Tryd.ntmps55
          go_wp2_with (go_at_call 47; refine (C.out _).mono ?_; rintro e w' ⟨rfl, rfl⟩)
          go_ret
          exact ⟨rfl, (Below.refl _ _).alloc (Nat.le_refl _) _⟩
    · have k2b : (k == 2) = false := by simpa using k2
      rw [if_neg k2]
      by_cases k3 : k = 3
      · subst k3
        rw [if_pos rfl]
        cases x with
        | true =>
          rw [if_pos (.inl rfl)]
          go_enter Tryd.func55, Tryd.ntmps55
          go_wp2_with fail
          go_ret
          exact ⟨rfl, (Below.refl _ _).alloc (Nat.le_refl _) _⟩
        | false =>
          by_cases ht : t = ⟨#[]⟩
          · rw [if_neg (by rintro (h | h); cases h; exact h ht)]
            subst ht
            have te := toList_emp
            go_enter Tryd.func55, Tryd.ntmps55
            go_wp2_with fail
            go_ret
            exact ⟨rfl, (Below.refl _ _).alloc (Nat.le_refl _) _⟩
          · rw [if_pos (.inr ht)]
            have te := toList_ne t ht
            go_enter Tryd.func55, Tryd.ntmps55
            go_wp2_with fail
            go_ret
            exact ⟨rfl, (Below.refl _ _).alloc (Nat.le_refl _) _⟩
      · have k3b : (k == 3) = false := by simpa using k3
        rw [if_neg k3]
        go_enter Tryd.func55, Tryd.ntmps55
        go_wp2_with fail
        go_ret
        exact ⟨rfl, (Below.refl _ _).alloc (Nat.le_refl _) _⟩
end Go.Proofs.YtlcppkcclolgcaaDoor

namespace Go.Proofs.YtlcppkcclolgcaaDoor
set_option linter.unusedVariables false
set_option linter.unusedSimpArgs false
open Go.RowKit

/-- a walker in memory: block g, counting b bytes; below B nothing has changed since w0 -/
structure WkS (w0 : World) (B g : Nat) (b : Nat) (w : World) : Prop where
  row : w.heap[g]? = some (.cells #[.int .i64 (b : Int)] 109 (0, 0))
  bel : Below B w0 w
  hg : B ≤ g
section
variable {w0 w w' : World} {B g b : Nat}
theorem WkS.cell (H : WkS w0 B g b w) : w.cell? ⟨g, 0, none⟩ = some (.int .i64 (b : Int)) := cell_of_row w g 0 _ _ _ H.row
theorem WkS.free (H : WkS w0 B g b w) : w.frozen? ⟨g, 0, none⟩ = false := frozen_of_row w g 0 _ _ H.row
theorem WkS.lt (H : WkS w0 B g b w) : g < w.heap.size := lt_of_row H.row
theorem WkS.later (H : WkS w0 B g b w) (hb : Below w.heap.size w w') : WkS w0 B g b w' :=
  ⟨(hb.block _ H.lt).trans H.row, H.bel.trans (hb.mono (Nat.le_trans H.hg (Nat.le_of_lt H.lt))), H.hg⟩
theorem WkS.drew (H : WkS w0 B g b w) : WkS w0 B g b w.drew := H.later (Below.refl _ _).drew
theorem WkS.put (H : WkS w0 B g b w) (b' : Nat) : WkS w0 B g b' (w.setCell ⟨g, 0, none⟩ (.int .i64 (b' : Int))) :=
  ⟨by rw [heap_setCell_same w g 0 _ _ _ H.row]; rfl, H.bel.setCell H.hg _, H.hg⟩
end
/-- what a walk gives up with -/
def offV (path : ByteArray) (code : Int) : Value := .iface 111 (.agg #[.string path, .int .i64 code])
def addC (b n : Nat) : Except Int Nat := if b + n ≤ 1048576 then .ok (b + n) else .error 2
/-- how a part of the walk ends: it goes on, or gives up -/
def WkPost (w0 : World) (B g : Nat) (w : World) (R : Except Int Nat) (e : Ending) (w' : World) : Prop :=
  w.grownBy w' (some g) ∧ ((∃ b', R = .ok b' ∧ b' ≤ 1048576 ∧ e = .returned (.tuple #[]) ∧ WkS w0 B g b' w') ∨ (∃ c p b', R = .error c ∧ e = .panicked [{ v := offV p c, recovered := false }] ∧ WkS w0 B g b' w'))
theorem only_later {w wA w' : World} {g : Nat} (hb : Below w.heap.size w wA) (hg : wA.grownBy w' (some g)) : w.grownBy w' (some g) := only_trans (only_below (World.grownBy.refl w _) hb) hg
theorem only_of {w w' : World} {g : Nat} (hb : Below w.heap.size w w') : w.grownBy w' (some g) := only_below (World.grownBy.refl w _) hb
set_option maxRecDepth 100000 in
set_option maxHeartbeats 2000000 in
theorem add_any (w0 : World) (B g b n : Nat) (path : ByteArray) (w : World) (H : WkS w0 B g b w) (hb : b ≤ 1048576) (hn : n ≤ 100000000) :
    Calls Tryd.prog 56 #[.pointer (some ⟨g, 0, none⟩), .string path, .int .i64 (n : Int)] w fun e w' => (w.grownBy w' (some g) ∧ WkS w0 B g (b + n) w') ∧
      ((b + n ≤ 1048576 ∧ e = .returned (.tuple #[])) ∨ (1048576 < b + n ∧ e = .panicked [{ v := offV path 2, recovered := false }])) := by
  have c0 := H.cell
  have f0 := H.free
  have h1 := H.put (b + n)
  have k0 := h1.cell
  have HF := Lib.hid h1
  have HG := Lib.hid (only_setG (World.grownBy.refl w (some g)) 0 (.int .i64 ((b + n : Nat) : Int)))
  have e1 : ((b + n : Nat) : Int) = (b : Int) + n := by omega
  rw [e1] at k0
  have hb0 : (0 : Int) ≤ b := by omega
  have hn0 : (0 : Int) ≤ n := by omega
  have hb2 : (b : Int) ≤ 1048576 := by omega
  have hn2 : (n : Int) ≤ 100000000 := by omega
  have HE := Lib.hid e1
  clear h1 H e1
  by_cases hle : b + n ≤ 1048576
  · have hleI : (b : Int) + n ≤ 1048576 := by omega
    go_enter Tryd.func56, Tryd.ntmps56
    go_wp2_with fail
    go_end0
    have h := HF.out
    have h2 := HG.out
    rw [HE.out] at h h2
    exact ⟨⟨h2, h⟩, .inl ⟨hle, rfl⟩⟩
  · have hleI : 1048576 < (b : Int) + n := by omega
    go_enter Tryd.func56, Tryd.ntmps56
    go_wp2_with fail
    have h := HF.out
    have h2 := HG.out
    rw [HE.out] at h h2
    exact ⟨rfl, ⟨h2, h⟩, .inr ⟨by omega, rfl⟩⟩
theorem addP_any (w0 : World) (B g b n : Nat) (path : ByteArray) (w : World) (H : WkS w0 B g b w) (hb : b ≤ 1048576) (hn : n ≤ 100000000) :
    Calls Tryd.prog 56 #[.pointer (some ⟨g, 0, none⟩), .string path, .int .i64 (n : Int)] w fun e w' => WkPost w0 B g w (addC b n) e w' := by
  refine (add_any w0 B g b n path w H hb hn).mono ?_
  rintro e w' ⟨⟨hg, h⟩, ⟨h1, rfl⟩ | ⟨h1, rfl⟩⟩
  · exact ⟨hg, .inl ⟨b + n, if_pos h1, h1, rfl, h⟩⟩
  · exact ⟨hg, .inr ⟨2, path, b + n, if_neg (by omega), rfl, h⟩⟩
/-- the path of a kid -/
def belowV (path kid : ByteArray) (depth : Nat) : ByteArray := if depth = 1 then kid else path ++ ⟨#[47]⟩ ++ kid
theorem belowV_size (path kid : ByteArray) (depth : Nat) : (belowV path kid depth).size ≤ path.size + 1 + kid.size := by
  unfold belowV
  split
  · omega
  · rw [ByteArray.size_append, ByteArray.size_append]
    show path.size + 1 + kid.size ≤ _
    omega
theorem below_any (path kid : ByteArray) (depth : Nat) (hp : path.size ≤ 1099511627776) (hk : kid.size ≤ 1099511627776) (hd : depth ≤ 1000) (w : World) :
    Calls Tryd.prog 57 #[.string path, .string kid, .int .i64 (depth : Int)] w fun e w' => e = .returned (.string (belowV path kid depth)) ∧ w = w' := by
  have l1 : (path ++ (⟨#[47]⟩ : ByteArray)).size ≤ 1099511627777 := by
    rw [ByteArray.size_append]
    show path.size + 1 ≤ _
    omega
  unfold belowV
  by_cases h1 : depth = 1
  · subst h1
    rw [if_pos rfl]
    go_enter Tryd.func57, Tryd.ntmps57
    go_wp2_with fail
    go_ret
    exact ⟨rfl, rfl⟩
  · rw [if_neg h1]
    have hd1 : ((depth : Int) == 1) = false := by simp; omega
    go_enter Tryd.func57, Tryd.ntmps57
    go_wp2_with fail
    go_ret
    exact ⟨rfl, rfl⟩
end Go.Proofs.YtlcppkcclolgcaaDoor

namespace Go.Proofs.YtlcppkcclolgcaaDoor
set_option linter.unusedVariables false
set_option linter.unusedSimpArgs false
open Go.RowKit

theorem box_later {w w1 : World} {cs : Array Value} {t : TypeId} (h : Below (w.alloc (.cells cs t)).heap.size (w.alloc (.cells cs t)) w1) : w1.heap[w.heap.size]? = some (.cells cs t (0, 0)) :=
  (h.block _ (lt_of_row (heap_alloc_new w _))).trans (heap_alloc_new w _)
theorem ws_file (t : ByteArray) (ht : t.size ≤ 1048576) : ∀ s ∈ [wOpen, wType, wRegular, wContents, t, wClose], s.size ≤ 1048576 := by
  intro s hs
  simp only [List.mem_cons, List.not_mem_nil, or_false] at hs
  rcases hs with rfl | rfl | rfl | rfl | rfl | rfl
  all_goals first | exact ht | decide
theorem ws_exec : ∀ s ∈ [wExec, wEmpty], s.size ≤ 1048576 := by
  intro s hs
  simp only [List.mem_cons, List.not_mem_nil, or_false] at hs
  rcases hs with rfl | rfl
  all_goals first | decide
theorem ws_link (t : ByteArray) (ht : t.size ≤ 1048576) : ∀ s ∈ [wOpen, wType, wSymlink, wTarget, t, wClose], s.size ≤ 1048576 := by
  intro s hs
  simp only [List.mem_cons, List.not_mem_nil, or_false] at hs
  rcases hs with rfl | rfl | rfl | rfl | rfl | rfl
  all_goals first | exact ht | decide
theorem ws_dir : ∀ s ∈ [wOpen, wType, wDirectory, wClose], s.size ≤ 1048576 := by
  intro s hs
  simp only [List.mem_cons, List.not_mem_nil, or_false] at hs
  rcases hs with rfl | rfl | rfl | rfl
  all_goals first | decide
theorem ws_entry (t : ByteArray) (ht : t.size ≤ 1048576) : ∀ s ∈ [wEntry, wOpen, wName, t, wNode, wClose], s.size ≤ 1048576 := by
  intro s hs
  simp only [List.mem_cons, List.not_mem_nil, or_false] at hs
  rcases hs with rfl | rfl | rfl | rfl | rfl | rfl
  all_goals first | exact ht | decide
theorem cell_past {w : World} {p : Addr} {v : Value} (h : w.cell? p = some v) (o : Obj) : (w.alloc o).cell? p = some v :=
  (((Below.refl w.heap.size w).alloc (Nat.le_refl _) o).cell (block_lt_of_cell h)).trans h
theorem alloc_new2 (w : World) (o : Obj) (cs : Array Value) (t : TypeId) : ((w.alloc o).alloc (.cells cs t)).heap[w.heap.size + 1]? = some (.cells cs t (0, 0)) := by
  have h := heap_alloc_new (w.alloc o) (.cells cs t)
  rwa [show (w.alloc o).heap.size = w.heap.size + 1 by simp] at h
theorem q_exec : frSum [wExec, wEmpty] = 32 := by decide +kernel
theorem q_le (ss : List ByteArray) (h : ∀ s ∈ ss, s.size ≤ 1048576) (n m : Nat) (hn : ss.length = n) (hm : n * 1048592 ≤ m) : frSum ss ≤ m := by
  have h1 := frSum_le ss h
  rw [hn] at h1
  exact Nat.le_trans h1 hm
set_option maxRecDepth 100000 in
set_option maxHeartbeats 4000000 in
theorem node_file (w0 : World) (B g b d : Nat) (path t : ByteArray) (x : Bool) (a : Option Addr) (c cap : Nat) (w : World) (H : WkS w0 B g b w) (hb : b ≤ 1048576) (hd : d ≤ 32) (ht : t.size ≤ 1048576) (CF : ∀ w, Calls Tryd.prog 55 #[.agg #[.int .i64 1, .bool x, .string t, .slice a c cap]] w fun e w' => e = .returned (.int .i64 0) ∧ Below w.heap.size w w') :
    Calls Tryd.prog 38 #[.pointer (some ⟨g, 0, none⟩), .string path, .agg #[.int .i64 1, .bool x, .string t, .slice a c cap], .int .i64 (d : Int)] w
      fun e w' => WkPost w0 B g w (addC b (frSum [wOpen, wType, wRegular, wContents, t, wClose] + if x then frSum [wExec, wEmpty] else 0)) e w' := by
  have HF := Lib.hid CF
  have HK := Lib.hid H
  have hdI : ¬ 32 < (d : Int) := by omega
  have hq1 := q_le [wOpen, wType, wRegular, wContents, t, wClose] (ws_file t ht) 6 6291552 rfl (by omega)
  have hq2 := q_exec
  have C1 : ∀ k cp w, w.heap[k]? = some (.cells (strs [wOpen, wType, wRegular, wContents, t, wClose]) 9 (0, 0)) → Calls Tryd.prog 36 #[.slice (some ⟨k, 0, none⟩) 6 cp] w fun e w' => e = .returned (.int .i64 ((frSum [wOpen, wType, wRegular, wContents, t, wClose] : Nat) : Int)) ∧ w = w' :=
    fun k cp w hr => framed_any _ k 6 cp _ w hr (ws_file t ht) (by simp) rfl
  have C2 : ∀ k cp w, w.heap[k]? = some (.cells (strs [wExec, wEmpty]) 9 (0, 0)) → Calls Tryd.prog 36 #[.slice (some ⟨k, 0, none⟩) 2 cp] w fun e w' => e = .returned (.int .i64 32) ∧ w = w' :=
    fun k cp w hr => (framed_any [wExec, wEmpty] k 2 cp _ w hr ws_exec (by simp) rfl).mono fun e w' h => by rw [hq2] at h; exact h
  rw [hq2]
  generalize hN : frSum [wOpen, wType, wRegular, wContents, t, wClose] = N at *
  have hN1 : N ≤ 6291552 := hq1
  have hN0 : (0 : Int) ≤ N := by omega
  have hN2 : (N : Int) ≤ 6291552 := by omega
  have K1 := Lib.hid C1
  have K2 := Lib.hid C2
  clear CF H hq1 hq2 hN C1 C2
  cases x
  · have CA := Lib.hid (fun w H => addP_any w0 B g b N path w H hb (by omega))
    go_enter Tryd.func38, Tryd.ntmps38
    go_upto_region 8 with (go_at_call 55; refine (HF.out _).mono ?_; rintro e w1 ⟨rfl, h1⟩; have hx := box_later h1; have b0 := cell_of_row w1 _ 0 _ _ _ hx; have b1 := cell_of_row w1 _ 1 _ _ _ hx; have b2 := cell_of_row w1 _ 2 _ _ _ hx; have d1 := fun o => cell_past b1 o; have HB1 : Hid (Below w.heap.size w w1) := Lib.hid (((Below.refl _ _).alloc (Nat.le_refl _) _).trans (h1.mono (by simp))); have HK1 := Lib.hid (HK.out.later HB1.out); clear h1 hx)
    go_upto_region 11 with (go_at_call 36; refine (K1.out _ _ _ (heap_alloc_new _ _)).mono ?_; rintro e w' ⟨rfl, rfl⟩)
    go_wp2_with (go_at_call 56; refine (CA.out _ (HK1.out.later ((Below.refl _ _).alloc (Nat.le_refl _) _))).mono ?_; rintro e w3 ⟨hg3, ⟨b', h1, h2, rfl, h3⟩ | ⟨c, p, b', h1, rfl, h3⟩⟩)
    · go_end0
      exact ⟨only_later (HB1.out.alloc HB1.out.size _) hg3, .inl ⟨b', by first | exact h1 | rfl, h2, rfl, h3⟩⟩
    · exact ⟨rfl, only_later (HB1.out.alloc HB1.out.size _) hg3, .inr ⟨_, p, b', by first | exact h1 | rfl, rfl, h3⟩⟩
  · have CA : Hid (∀ w, WkS w0 B g b w → Calls Tryd.prog 56 #[.pointer (some ⟨g, 0, none⟩), .string path, .int .i64 ((N : Int) + 32)] w fun e w' => WkPost w0 B g w (addC b (N + 32)) e w') :=
      fun w H => addP_any w0 B g b (N + 32) path w H hb (by omega)
    have hq : (if true = true then 32 else 0) = 32 := rfl
    rw [hq]
    go_enter Tryd.func38, Tryd.ntmps38
    go_upto_region 8 with (go_at_call 55; refine (HF.out _).mono ?_; rintro e w1 ⟨rfl, h1⟩; have hx := box_later h1; have b0 := cell_of_row w1 _ 0 _ _ _ hx; have b1 := cell_of_row w1 _ 1 _ _ _ hx; have b2 := cell_of_row w1 _ 2 _ _ _ hx; have d1 := fun o => cell_past b1 o; have HB1 : Hid (Below w.heap.size w w1) := Lib.hid (((Below.refl _ _).alloc (Nat.le_refl _) _).trans (h1.mono (by simp))); have HK1 := Lib.hid (HK.out.later HB1.out); clear h1 hx)
    go_upto_region 10 with (go_at_call 36; refine (K1.out _ _ _ (heap_alloc_new _ _)).mono ?_; rintro e w' ⟨rfl, rfl⟩)
    go_upto_region 11 with (go_at_call 36; refine (K2.out _ _ _ (alloc_new2 w1 _ _ _)).mono ?_; rintro e w' ⟨rfl, rfl⟩)
    go_wp2_with (go_at_call 56; refine (CA.out _ (HK1.out.later (((Below.refl _ _).alloc (Nat.le_refl _) _).alloc (by simp) _))).mono ?_; rintro e w3 ⟨hg3, ⟨b', h1, h2, rfl, h3⟩ | ⟨c, p, b', h1, rfl, h3⟩⟩)
    · go_end0
      exact ⟨only_later ((HB1.out.alloc HB1.out.size _).alloc (by have := HB1.out.size; simp; omega) _) hg3, .inl ⟨b', by first | exact h1 | rfl, h2, rfl, h3⟩⟩
    · exact ⟨rfl, only_later ((HB1.out.alloc HB1.out.size _).alloc (by have := HB1.out.size; simp; omega) _) hg3, .inr ⟨_, p, b', by first | exact h1 | rfl, rfl, h3⟩⟩
set_option maxRecDepth 100000 in
set_option maxHeartbeats 4000000 in
theorem node_link (w0 : World) (B g b d : Nat) (path t : ByteArray) (x : Bool) (a : Option Addr) (c cap : Nat) (w : World) (H : WkS w0 B g b w) (hb : b ≤ 1048576) (hd : d ≤ 32) (ht : t.size ≤ 1048576) (CF : ∀ w, Calls Tryd.prog 55 #[.agg #[.int .i64 2, .bool x, .string t, .slice a c cap]] w fun e w' => e = .returned (.int .i64 0) ∧ Below w.heap.size w w') :
    Calls Tryd.prog 38 #[.pointer (some ⟨g, 0, none⟩), .string path, .agg #[.int .i64 2, .bool x, .string t, .slice a c cap], .int .i64 (d : Int)] w
      fun e w' => WkPost w0 B g w (addC b (frSum [wOpen, wType, wSymlink, wTarget, t, wClose])) e w' := by
  have HF := Lib.hid CF
  have HK := Lib.hid H
  have hdI : ¬ 32 < (d : Int) := by omega
  have hq1 := q_le [wOpen, wType, wSymlink, wTarget, t, wClose] (ws_link t ht) 6 6291552 rfl (by omega)
  have C1 : ∀ k cp w, w.heap[k]? = some (.cells (strs [wOpen, wType, wSymlink, wTarget, t, wClose]) 9 (0, 0)) → Calls Tryd.prog 36 #[.slice (some ⟨k, 0, none⟩) 6 cp] w fun e w' => e = .returned (.int .i64 ((frSum [wOpen, wType, wSymlink, wTarget, t, wClose] : Nat) : Int)) ∧ w = w' :=
    fun k cp w hr => framed_any _ k 6 cp _ w hr (ws_link t ht) (by simp) rfl
  generalize hN : frSum [wOpen, wType, wSymlink, wTarget, t, wClose] = N at *
  have hN1 : N ≤ 6291552 := hq1
  have hN0 : (0 : Int) ≤ N := by omega
  have hN2 : (N : Int) ≤ 6291552 := by omega
  have K1 := Lib.hid C1
  have CA := Lib.hid (fun w H => addP_any w0 B g b N path w H hb (by omega))
  clear CF H hq1 hN C1
  go_enter Tryd.func38, Tryd.ntmps38
  go_upto_region 13 with (go_at_call 55; refine (HF.out _).mono ?_; rintro e w1 ⟨rfl, h1⟩; have hx := box_later h1; have b0 := cell_of_row w1 _ 0 _ _ _ hx; have b1 := cell_of_row w1 _ 1 _ _ _ hx; have b2 := cell_of_row w1 _ 2 _ _ _ hx; have d1 := fun o => cell_past b1 o; have HB1 : Hid (Below w.heap.size w w1) := Lib.hid (((Below.refl _ _).alloc (Nat.le_refl _) _).trans (h1.mono (by simp))); have HK1 := Lib.hid (HK.out.later HB1.out); clear h1 hx)
  go_wp2_with (first | (go_at_call 36; refine (K1.out _ _ _ (heap_alloc_new _ _)).mono ?_; rintro e w' ⟨rfl, rfl⟩) | (go_at_call 56; refine (CA.out _ (HK1.out.later ((Below.refl _ _).alloc (Nat.le_refl _) _))).mono ?_; rintro e w3 ⟨hg3, ⟨b', h1, h2, rfl, h3⟩ | ⟨c, p, b', h1, rfl, h3⟩⟩))
  · go_end0
    exact ⟨only_later (HB1.out.alloc HB1.out.size _) hg3, .inl ⟨b', by first | exact h1 | rfl, h2, rfl, h3⟩⟩
  · exact ⟨rfl, only_later (HB1.out.alloc HB1.out.size _) hg3, .inr ⟨_, p, b', by first | exact h1 | rfl, rfl, h3⟩⟩
set_option maxRecDepth 100000 in
set_option maxHeartbeats 4000000 in
theorem node_deep (w0 : World) (B g b d : Nat) (path : ByteArray) (n : ND) (a : Option Addr) (cap : Nat) (w : World) (H : WkS w0 B g b w) (hd : 32 < d) :
    Calls Tryd.prog 38 #[.pointer (some ⟨g, 0, none⟩), .string path, n.val a cap, .int .i64 (d : Int)] w
      fun e w' => WkPost w0 B g w (.error 61) e w' := by
  have HK := Lib.hid H
  have hdI : 32 < (d : Int) := by omega
  clear H
  unfold ND.val
  go_enter Tryd.func38, Tryd.ntmps38
  go_wp2_with fail
  exact ⟨rfl, only_of ((Below.refl _ _).alloc (Nat.le_refl _) _), .inr ⟨_, _, b, rfl, rfl, HK.out.later ((Below.refl _ _).alloc (Nat.le_refl _) _)⟩⟩
set_option maxRecDepth 100000 in
set_option maxHeartbeats 4000000 in
theorem node_bad (w0 : World) (B g b d : Nat) (path : ByteArray) (n : ND) (a : Option Addr) (cap : Nat) (w : World) (H : WkS w0 B g b w) (hd : d ≤ 32) (hf : n.fldE ≠ 0) :
    Calls Tryd.prog 38 #[.pointer (some ⟨g, 0, none⟩), .string path, n.val a cap, .int .i64 (d : Int)] w
      fun e w' => WkPost w0 B g w (.error n.fldE) e w' := by
  have HF := Lib.hid (fun w => fields_any n a cap w)
  have HK := Lib.hid H
  have hdI : ¬ 32 < (d : Int) := by omega
  have hne : (n.fldE != 0) = true := by simpa using hf
  clear H
  generalize n.fldE = q at *
  unfold ND.val at *
  go_enter Tryd.func38, Tryd.ntmps38
  go_wp2_with (go_at_call 55; refine (HF.out _).mono ?_; rintro e w1 ⟨rfl, h1⟩; have HB1 : Hid (Below w.heap.size w w1) := Lib.hid (((Below.refl _ _).alloc (Nat.le_refl _) _).trans (h1.mono (by simp))); have HK1 := Lib.hid (HK.out.later HB1.out); clear h1)
  exact ⟨rfl, only_of HB1.out, .inr ⟨_, _, b, rfl, rfl, HK1.out⟩⟩
end Go.Proofs.YtlcppkcclolgcaaDoor

namespace Go.Proofs.YtlcppkcclolgcaaDoor
set_option linter.unusedVariables false
set_option linter.unusedSimpArgs false
open Go.RowKit

/-- is the one string no greater than the other? -/
def leB (s t : ByteArray) : Bool := Op.bytesLess s.toList t.toList || s.toList == t.toList
def ND.nodeC (n : ND) (K : Nat → Except Int Nat) (d b : Nat) : Except Int Nat :=
  if 32 < d then .error 61 else if n.fldE ≠ 0 then .error n.fldE
  else if n.kind = 1 then addC b (frSum [wOpen, wType, wRegular, wContents, n.text, wClose] + if n.exec then 32 else 0)
  else if n.kind = 2 then addC b (frSum [wOpen, wType, wSymlink, wTarget, n.text, wClose])
  else (addC b 72).bind K
def ND.kidsC (nm : ByteArray → Int) : ND → Nat → Nat → Except Int Nat
  | .leaf _ _ _, _, b => .ok b
  | .add p s c, d, b => (p.kidsC nm d b).bind fun b1 => if nm s ≠ 0 then .error (nm s) else if 0 < p.cnt ∧ leB s p.last = true then .error 64
    else (addC b1 (frSum [wEntry, wOpen, wName, s, wNode, wClose])).bind fun b2 => c.nodeC (fun b3 => c.kidsC nm (d + 1) b3) (d + 1) b2
/-- what a walk over a smaller node does -/
def NodeOk (nm : ByteArray → Int) (w0 : World) (B g : Nat) (c : ND) : Prop :=
  ∀ (d b : Nat) (path : ByteArray) (a : Option Addr) (cap : Nat) (w : World), WkS w0 B g b w → b ≤ 1048576 → c.In B w0 a → c.small 1048576 → 1 ≤ d → d ≤ 33 → path.size ≤ d * 1048577 →
    Calls Tryd.prog 38 #[.pointer (some ⟨g, 0, none⟩), .string path, c.val a cap, .int .i64 (d : Int)] w fun e w' => WkPost w0 B g w (c.nodeC (fun b3 => c.kidsC nm d b3) d b) e w'

theorem below_drewN {B : Nat} {a w : World} (h : Below B a w) (n : Nat) : Below B a (w.drewN n) := ⟨h.os, h.tape, h.output, h.size, h.block⟩
theorem kids_err (nm : ByteArray → Int) (d b : Nat) (q : Int) : ∀ (n : ND) (i : Nat), (n.pre i).kidsC nm d b = .error q → n.kidsC nm d b = .error q := by
  intro n
  induction n with
  | leaf => intro i h; exact h
  | add p s c ih _ =>
    intro i h
    unfold ND.pre at h
    split at h
    · have h1 := ih i h
      show (p.kidsC nm d b).bind _ = _
      rw [h1]
      rfl
    · exact h
theorem kids_step (nm : ByteArray → Int) (d b' bi i : Nat) (n c : ND) (s : ByteArray) (h : (n.pre i).kidsC nm d b' = .ok bi) (hi : i < n.cnt) (e : n.pre (i + 1) = .add (n.pre i) s c) :
    (n.pre (i + 1)).kidsC nm d b' = if nm s ≠ 0 then .error (nm s) else if 0 < i ∧ leB s (n.pre i).last = true then .error 64
      else (addC bi (frSum [wEntry, wOpen, wName, s, wNode, wClose])).bind fun b2 => c.nodeC (fun b3 => c.kidsC nm (d + 1) b3) (d + 1) b2 := by
  rw [e]
  show ((n.pre i).kidsC nm d b').bind _ = _
  rw [h, ND.pre_cnt n i (by omega)]
  rfl
theorem ok_bind (x : Except Int Nat) (b : Nat) (K : Nat → Except Int Nat) (h : x = .ok b) : x.bind K = K b := by rw [h]; rfl
theorem ok_err (x : Except Int Nat) (q : Int) (K : Nat → Except Int Nat) (h : x = .error q) : x.bind K = .error q := by rw [h]; rfl
set_option maxRecDepth 100000 in
set_option maxHeartbeats 4000000 in
theorem node_dir (nm : ByteArray → Int) (w0 : World) (B g b d : Nat) (path t : ByteArray) (x : Bool) (a : Option Addr) (len cap : Nat) (n : ND) (w : World) (H : WkS w0 B g b w) (hb : b ≤ 1048576) (hd1 : 1 ≤ d) (hd : d ≤ 32) (hpath : path.size ≤ d * 1048577) (hlen : len = n.cnt) (hsm : n.small 1048576) (hin : n.In B w0 a) (hcn : n.cnt ≤ 1048576)
    (CF : ∀ w, Calls Tryd.prog 55 #[.agg #[.int .i64 3, .bool x, .string t, .slice a len cap]] w fun e w' => e = .returned (.int .i64 0) ∧ Below w.heap.size w w')
    (CN : ∀ s w, s.size ≤ 1048576 → Calls Tryd.prog 58 #[.string s] w fun e w' => e = .returned (.int .i64 (nm s)) ∧ Below w.heap.size w w')
    (ih : ∀ c : ND, c.sz < n.sz → NodeOk nm w0 B g c) :
    Calls Tryd.prog 38 #[.pointer (some ⟨g, 0, none⟩), .string path, .agg #[.int .i64 3, .bool x, .string t, .slice a len cap], .int .i64 (d : Int)] w
      fun e w' => WkPost w0 B g w ((addC b 72).bind fun b3 => n.kidsC nm d b3) e w' := by
  have HF := Lib.hid CF
  have HK := Lib.hid H
  have HN := Lib.hid CN
  have HI := Lib.hid ih
  have HL := Lib.hid hlen
  have HIN := Lib.hid hin
  have HSM := Lib.hid hsm
  have hdI : ¬ 32 < (d : Int) := by omega
  have C1 : ∀ k cp w, w.heap[k]? = some (.cells (strs [wOpen, wType, wDirectory, wClose]) 9 (0, 0)) → Calls Tryd.prog 36 #[.slice (some ⟨k, 0, none⟩) 4 cp] w fun e w' => e = .returned (.int .i64 ((frSum [wOpen, wType, wDirectory, wClose] : Nat) : Int)) ∧ w = w' :=
    fun k cp w hr => framed_any _ k 4 cp _ w hr ws_dir (by simp) rfl
  have hN : frSum [wOpen, wType, wDirectory, wClose] = 72 := by decide +kernel
  rw [hN] at C1
  have K1 := Lib.hid C1
  have CA : Hid (∀ w, WkS w0 B g b w → Calls Tryd.prog 56 #[.pointer (some ⟨g, 0, none⟩), .string path, .int .i64 72] w fun e w' => WkPost w0 B g w (addC b 72) e w') := Lib.hid (fun w H => addP_any w0 B g b 72 path w H hb (by omega))
  clear CF H hN C1 CN ih hlen hin hsm
  go_enter Tryd.func38, Tryd.ntmps38
  go_upto_region 15 with (go_at_call 55; refine (HF.out _).mono ?_; rintro e w1 ⟨rfl, h1⟩; have hx := box_later h1; have b0 := cell_of_row w1 _ 0 _ _ _ hx; have b1 := cell_of_row w1 _ 1 _ _ _ hx; have b2 := cell_of_row w1 _ 2 _ _ _ hx; have HX := Lib.hid hx; have HB1 : Hid (Below w.heap.size w w1) := Lib.hid (((Below.refl _ _).alloc (Nat.le_refl _) _).trans (h1.mono (by simp))); have HK1 := Lib.hid (HK.out.later HB1.out); clear h1 hx)
  go_upto_region 16 with (first | (go_at_call 36; refine (K1.out _ _ _ (heap_alloc_new _ _)).mono ?_; rintro e w' ⟨rfl, rfl⟩) | (go_at_call 56; refine (CA.out _ (HK1.out.later ((Below.refl _ _).alloc (Nat.le_refl _) _))).mono ?_; rintro e w3 ⟨hg3, ⟨b', h1, h2, rfl, h3⟩ | ⟨c, p, b', h1, rfl, h3⟩⟩))
  · have hgw : w.grownBy w3 (some g) := only_later (HB1.out.alloc HB1.out.size _) hg3
    have hne : g ≠ w.heap.size := fun e => by have := HK.out.lt; omega
    have hlt1 : w.heap.size < w1.heap.size := lt_of_row HX.out
    have hx3 : w3.heap[w.heap.size]? = some (.cells #[.int .i64 3, .bool x, .string t, .slice a len cap] 25 (0, 0)) := by
      rw [hg3.block w.heap.size (by simp; omega) (by simp; omega), heap_alloc_old w1 _ hlt1]
      exact HX.out
    have b3 := cell_of_row w3 _ 3 _ _ _ hx3
    have HX3 := Lib.hid hx3
    have HG3 := Lib.hid hgw
    have H3 := Lib.hid h3
    have HA := Lib.hid h1
    generalize hkk : w.heap.size = kk at *
    have HKK := Lib.hid hkk
    clear h3 hx3 hgw hg3 hlt1 b0 b1 b2 HX HK1 K1 CA HF h1 hne hkk
    go_wp2_with fail
    go_loopw [64] (fun x64 wr => ∃ i bi : Nat, x64 = .int .i64 i ∧ i ≤ len ∧ bi ≤ 1048576 ∧ (n.pre i).kidsC nm d b' = .ok bi ∧ WkS w0 B g bi wr ∧ w.grownBy wr (some g) ∧ wr.heap[kk]? = some (.cells #[.int .i64 3, .bool x, .string t, .slice a len cap] 25 (0, 0))) (fun x64 _ => len - (intOf x64).toNat)
    case atStart =>
      refine ⟨0, b', rfl, Nat.zero_le _, h2, ?_, H3.out, HG3.out, HX3.out⟩
      have e : ∀ m : ND, (m.pre 0).kidsC nm d b' = .ok b' := by
        intro m
        induction m with
        | leaf => rfl
        | add p s c ih _ => unfold ND.pre; rw [if_pos (Nat.zero_le _)]; exact ih
      exact e n
    case round =>
      obtain ⟨i, bi, rfl, hi, hbi, hck, hw, hgr, hxr⟩ := hrel
      clear H3 HG3 HX3 b3
      have HW := Lib.hid hw
      have HCK := Lib.hid hck
      have HGR := Lib.hid hgr
      have HXR := Lib.hid hxr
      have hi0 : (0 : Int) ≤ i := by omega
      have hlm : (len : Int) ≤ 1048576 := by have := HL.out; omega
      by_cases hlt : i < len
      · have hltI : (i : Int) < len := by omega
        obtain ⟨y, rfl, hat⟩ : ∃ y, a = some y ∧ n.At B w0 y := by
          rcases HIN.out with h | h
          · have := HL.out; omega
          · exact h
        obtain ⟨s, c, e1, e2, e3, e4, ka, kcap, c0, c1, c2, c3, c4, hc⟩ := hat.kid (i := i) (by have := HL.out; omega)
        have hkk : ∀ q : Addr, q.block = y.block → wr.cell? q = w0.cell? q := fun q e => hw.bel.cell (by rw [e]; exact e4)
        replace c0 := (hkk (y.add (i * 5)) (block_add _ _)).trans c0
        replace c1 := (hkk ⟨(y.add (i * 5)).block, (y.add (i * 5)).off + 1, none⟩ (block_add _ _)).trans c1
        replace c2 := (hkk ⟨(y.add (i * 5)).block, (y.add (i * 5)).off + 2, none⟩ (block_add _ _)).trans c2
        replace c3 := (hkk ⟨(y.add (i * 5)).block, (y.add (i * 5)).off + 3, none⟩ (block_add _ _)).trans c3
        replace c4 := (hkk ⟨(y.add (i * 5)).block, (y.add (i * 5)).off + 4, none⟩ (block_add _ _)).trans c4
        have HAT := Lib.hid hat
        have HY := Lib.hid e4
        have HE1 := Lib.hid e1
        have HE2 := Lib.hid e2
        have HE3 := Lib.hid e3
        have HC := Lib.hid hc
        clear hw hck hgr hxr e1 e2 e3 e4 hc hat hkk
        have hss := (HE3.out _ HSM.out).1
        have hsc := (HE3.out _ HSM.out).2
        have CB := Lib.hid (fun w => below_any path s d (by omega) (by omega) (by omega) w)
        have hbs := belowV_size path s d
        have hps : (belowV path s d).size ≤ (d + 1) * 1048577 := by omega
        generalize belowV path s d = at_ at *
        have CC := Lib.hid (fun w => HN.out s w hss)
        have hge : g ≠ wr.heap.size := fun e => by have := HW.out.lt; omega
        have hkl : kk < wr.heap.size := lt_of_row HXR.out
        have HGE := Lib.hid hge
        clear hge
        clear hbs
        go_upto_region 21 with (first | (go_at_call 57; refine (CB.out _).mono ?_; rintro e w' ⟨rfl, rfl⟩) | (go_at_call 58; refine (CC.out _).mono ?_; rintro e w5 ⟨rfl, h5⟩; have H5 := Lib.hid h5; clear h5))
        have hx5 := box_later H5.out
        have hbw : Below wr.heap.size wr w5 := ((Below.refl _ _).alloc (Nat.le_refl _) _).trans (H5.out.mono (by simp))
        have hw5 := HW.out.later hbw
        have hxk5 := (hbw.block kk hkl).trans HXR.out
        have hgr5 : w.grownBy w5 (some g) := only_below HGR.out (hbw.mono (Nat.le_refl _))
        have hcn' : i < n.cnt := by have := HL.out; omega
        have hstep := kids_step nm d b' bi i n c s HCK.out hcn' HE1.out
        have q0 := cell_of_row w5 _ 0 _ _ _ hx5
        have q1 := cell_of_row w5 _ 1 _ _ _ hx5
        have q2 := cell_of_row w5 _ 2 _ _ _ hx5
        have q3 := cell_of_row w5 _ 3 _ _ _ hx5
        have q4 := cell_of_row w5 _ 4 _ _ _ hx5
        have k3 := cell_of_row w5 _ 3 _ _ _ hxk5
        by_cases hnm : nm s = 0
        · have HNM := Lib.hid hnm
          rw [hnm] at hstep
          rw [if_neg (by simp)] at hstep
          have HST := Lib.hid hstep
          have HW5 := Lib.hid hw5
          have HXK5 := Lib.hid hxk5
          have HGR5 := Lib.hid hgr5
          have HBW := Lib.hid hbw
          have HX5 := Lib.hid hx5
          clear hstep hw5 hxk5 hgr5 hbw hx5 c0 c1 c2 c3 c4
          have hq := q_le [wEntry, wOpen, wName, s, wNode, wClose] (ws_entry s hss) 6 6291552 rfl (by omega)
          have KE : Hid (∀ k cp w, w.heap[k]? = some (.cells (strs [wEntry, wOpen, wName, s, wNode, wClose]) 9 (0, 0)) → Calls Tryd.prog 36 #[.slice (some ⟨k, 0, none⟩) 6 cp] w fun e w' => e = .returned (.int .i64 ((frSum [wEntry, wOpen, wName, s, wNode, wClose] : Nat) : Int)) ∧ w = w') :=
            Lib.hid fun k cp w hr => framed_any _ k 6 cp _ w hr (ws_entry s hss) (by simp) rfl
          generalize frSum [wEntry, wOpen, wName, s, wNode, wClose] = N at *
          have hN0 : (0 : Int) ≤ N := by omega
          have hN2 : (N : Int) ≤ 6291552 := by omega
          have CE := Lib.hid (fun w H => addP_any w0 B g bi N at_ w H hbi (by omega))
          have CR : Hid (∀ w b, WkS w0 B g b w → b ≤ 1048576 → Calls Tryd.prog 38 #[.pointer (some ⟨g, 0, none⟩), .string at_, .agg #[.int .i64 c.kind, .bool c.exec, .string c.text, .slice ka c.cnt kcap], .int .i64 ((d : Int) + 1)] w fun e w' => WkPost w0 B g w (c.nodeC (fun b3 => c.kidsC nm (d + 1) b3) (d + 1) b) e w') :=
            Lib.hid fun w b H hb => HI.out c HE2.out (d + 1) b at_ ka kcap w H hb HC.out hsc (by omega) (by omega) hps
          have hel : wr.heap.size < w5.heap.size := lt_of_row HX5.out
          have hkl5 : kk < w5.heap.size := lt_of_row HXK5.out
          have hgk : g ≠ kk := fun e => by have := HK.out.lt; have := HKK.out; omega
          have HGK := Lib.hid hgk
          clear hgk
          by_cases hi1 : i = 0
          · have hiI : ¬ (0 : Int) < i := by omega
            replace HST := Lib.hid (HST.out.trans (if_neg (by omega)))
            go_upto_region 23 with fail
            go_quiet (fail)
            go_upto_region 25 with fail
            go_upto_region 26 with (first | (go_at_call 36; refine (KE.out _ _ _ (heap_alloc_new _ _)).mono ?_; rintro e w' ⟨rfl, rfl⟩) | (go_at_call 56; refine (CE.out _ (HW5.out.later ((below_drewN (Below.refl _ _) _).alloc (Nat.le_refl _) _))).mono ?_; rintro e w7 ⟨hg7, ⟨b7, h71, h72, rfl, h73⟩ | ⟨c7, p7, b7, h71, rfl, h73⟩⟩))
            · have hx7 := hg7.block wr.heap.size (by simp; omega) (by have := HGE.out; simp; omega)
              rw [heap_alloc_old _ _ (by exact hel)] at hx7
              replace hx7 := hx7.trans HX5.out
              have hk7 := hg7.block kk (by simp; omega) (by have := HGK.out; simp; omega)
              rw [heap_alloc_old _ _ (by exact hkl5)] at hk7
              replace hk7 := hk7.trans HXK5.out
              have r1 := cell_of_row w7 _ 1 _ _ _ hx7
              have r2 := cell_of_row w7 _ 2 _ _ _ hx7
              have r3 := cell_of_row w7 _ 3 _ _ _ hx7
              have r4 := cell_of_row w7 _ 4 _ _ _ hx7
              have HG7 := Lib.hid (only_trans (only_below HGR5.out ((below_drewN (Below.refl _ _) _).alloc (Nat.le_refl _) _)) hg7)
              have HK7 := Lib.hid hk7
              have H71 := Lib.hid h71
              have H73 := Lib.hid h73
              have hkl7 : kk < w7.heap.size := lt_of_row hk7
              clear hx7 hk7 hg7 h71 h73
              go_upto_region 27 with (go_at_call 38; refine (CR.out _ _ H73.out h72).mono ?_; rintro e w9 ⟨hg9, ⟨b9, h91, h92, rfl, h93⟩ | ⟨c9, p9, b9, h91, rfl, h93⟩⟩)
              · have H91 := Lib.hid h91
                have H93 := Lib.hid h93
                have HG9 := Lib.hid (only_trans HG7.out hg9)
                have HK9 := Lib.hid ((hg9.block kk hkl7 (by have := HGK.out; simp; omega)).trans HK7.out)
                clear h91 h93 hg9
                go_wp2_with fail
                go_roundw
                case rel => exact ⟨i + 1, b9, by go_num, hlt, h92, HST.out.trans ((ok_bind _ _ _ H71.out).trans H91.out), H93.out, HG9.out, HK9.out⟩
                case measure => simp [intOf]; omega
              · exact ⟨rfl, only_trans HG7.out hg9, .inr ⟨_, p9, b9, (ok_bind _ _ _ HA.out).trans (kids_err nm d b' _ n (i + 1) (HST.out.trans ((ok_bind _ _ _ H71.out).trans (by first | exact h91 | rfl)))), rfl, h93⟩⟩
            · have HST2 := Lib.hid ((HST.out.trans (ok_err _ _ _ (by first | exact h71 | rfl))))
              exact ⟨rfl, only_trans (only_below HGR5.out ((below_drewN (Below.refl _ _) _).alloc (Nat.le_refl _) _)) hg7, .inr ⟨_, p7, b7, (ok_bind _ _ _ HA.out).trans (kids_err nm d b' _ n (i + 1) HST2.out), rfl, h73⟩⟩
          · obtain ⟨jn, rfl⟩ : ∃ jn, i = jn + 1 := ⟨i - 1, by omega⟩
            obtain ⟨s', c', e1', _, _, _, _, _, p0, _⟩ := HAT.out.kid (i := jn) (by have := HL.out; omega)
            have hlast : (n.pre (jn + 1)).last = s' := by rw [e1']; rfl
            have g0 : w5.cell? (y.add (jn * 5)) = some (.string s') := by
              rw [HBW.out.cell (by rw [block_add]; exact Nat.lt_of_lt_of_le HY.out (Nat.le_trans HW.out.hg (Nat.le_of_lt HW.out.lt)))]
              exact (HW.out.bel.cell (by rw [block_add]; exact HY.out)).trans p0
            rw [hlast] at HST
            have hj0 : (0 : Int) ≤ jn := by omega
            have hj1 : (jn : Int) < len := by omega
            clear e1' p0 hlast
            by_cases hle : leB s s' = true
            · replace HST := Lib.hid (HST.out.trans (if_pos ⟨by omega, hle⟩))
              have hleb : (Op.bytesLess s.toList s'.toList || s.toList == s'.toList) = true := hle
              clear hle
              go_upto_region 23 with fail
              go_quiet (fail)
              go_wp2_with fail
              exact ⟨rfl, only_below HGR5.out (below_drewN (Below.refl _ _) _), .inr ⟨64, _, bi, (ok_bind _ _ _ HA.out).trans (kids_err nm d b' _ n (jn + 1 + 1) HST.out), rfl, HW5.out.later (below_drewN (Below.refl _ _) _)⟩⟩
            · replace HST := Lib.hid (HST.out.trans (if_neg (fun h => hle h.2)))
              have hleb : (Op.bytesLess s.toList s'.toList || s.toList == s'.toList) = false := by
                have : leB s s' = false := by simpa using hle
                exact this
              go_upto_region 23 with fail
              go_quiet (fail)
              go_upto_region 25 with fail
              go_upto_region 26 with (first | (go_at_call 36; refine (KE.out _ _ _ (heap_alloc_new _ _)).mono ?_; rintro e w' ⟨rfl, rfl⟩) | (go_at_call 56; refine (CE.out _ (HW5.out.later ((below_drewN (Below.refl _ _) _).alloc (Nat.le_refl _) _))).mono ?_; rintro e w7 ⟨hg7, ⟨b7, h71, h72, rfl, h73⟩ | ⟨c7, p7, b7, h71, rfl, h73⟩⟩))
              · have hx7 := hg7.block wr.heap.size (by simp; omega) (by have := HGE.out; simp; omega)
                rw [heap_alloc_old _ _ (by exact hel)] at hx7
                replace hx7 := hx7.trans HX5.out
                have hk7 := hg7.block kk (by simp; omega) (by have := HGK.out; simp; omega)
                rw [heap_alloc_old _ _ (by exact hkl5)] at hk7
                replace hk7 := hk7.trans HXK5.out
                have r1 := cell_of_row w7 _ 1 _ _ _ hx7
                have r2 := cell_of_row w7 _ 2 _ _ _ hx7
                have r3 := cell_of_row w7 _ 3 _ _ _ hx7
                have r4 := cell_of_row w7 _ 4 _ _ _ hx7
                have HG7 := Lib.hid (only_trans (only_below HGR5.out ((below_drewN (Below.refl _ _) _).alloc (Nat.le_refl _) _)) hg7)
                have HK7 := Lib.hid hk7
                have H71 := Lib.hid h71
                have H73 := Lib.hid h73
                have hkl7 : kk < w7.heap.size := lt_of_row hk7
                clear hx7 hk7 hg7 h71 h73
                go_upto_region 27 with (go_at_call 38; refine (CR.out _ _ H73.out h72).mono ?_; rintro e w9 ⟨hg9, ⟨b9, h91, h92, rfl, h93⟩ | ⟨c9, p9, b9, h91, rfl, h93⟩⟩)
                · have H91 := Lib.hid h91
                  have H93 := Lib.hid h93
                  have HG9 := Lib.hid (only_trans HG7.out hg9)
                  have HK9 := Lib.hid ((hg9.block kk hkl7 (by have := HGK.out; simp; omega)).trans HK7.out)
                  clear h91 h93 hg9
                  go_wp2_with fail
                  go_roundw
                  case rel => exact ⟨jn + 1 + 1, b9, by go_num, hlt, h92, HST.out.trans ((ok_bind _ _ _ H71.out).trans H91.out), H93.out, HG9.out, HK9.out⟩
                  case measure => simp [intOf]; omega
                · exact ⟨rfl, only_trans HG7.out hg9, .inr ⟨_, p9, b9, (ok_bind _ _ _ HA.out).trans (kids_err nm d b' _ n (jn + 1 + 1) (HST.out.trans ((ok_bind _ _ _ H71.out).trans (by first | exact h91 | rfl)))), rfl, h93⟩⟩
              · have HST2 := Lib.hid ((HST.out.trans (ok_err _ _ _ (by first | exact h71 | rfl))))
                exact ⟨rfl, only_trans (only_below HGR5.out ((below_drewN (Below.refl _ _) _).alloc (Nat.le_refl _) _)) hg7, .inr ⟨_, p7, b7, (ok_bind _ _ _ HA.out).trans (kids_err nm d b' _ n (jn + 1 + 1) HST2.out), rfl, h73⟩⟩
        · have hnb : (nm s != 0) = true := by simpa using hnm
          rw [if_pos hnm] at hstep
          have herr := kids_err nm d b' (nm s) n (i + 1) hstep
          have HER := Lib.hid herr
          have HW5 := Lib.hid hw5
          have HGR5 := Lib.hid hgr5
          clear hstep herr hw5 hgr5 hnm
          generalize nm s = q at *
          go_wp2_with fail
          exact ⟨rfl, HGR5.out, .inr ⟨q, _, bi, (ok_bind _ _ _ HA.out).trans HER.out, rfl, HW5.out⟩⟩
      · have hltI : ¬ (i : Int) < len := by omega
        have hii : i = n.cnt := by have := HL.out; omega
        have hall := hck
        rw [hii, ND.pre_all] at hall
        have HALL := Lib.hid hall
        clear hall hck hw hgr hxr
        go_wp2_with fail
        go_end0
        exact ⟨HGR.out, .inl ⟨bi, (ok_bind _ _ _ HA.out).trans HALL.out, hbi, rfl, HW.out⟩⟩
  · exact ⟨rfl, only_later (HB1.out.alloc HB1.out.size _) hg3, .inr ⟨_, p, b', ok_err _ _ _ (by first | exact h1 | rfl), rfl, h3⟩⟩
end Go.Proofs.YtlcppkcclolgcaaDoor

namespace Go.Proofs.YtlcppkcclolgcaaDoor
set_option linter.unusedVariables false
set_option linter.unusedSimpArgs false
open Go.RowKit

theorem fld_kind {n : ND} (h : n.fldE = 0) : n.kind = 1 ∨ n.kind = 2 ∨ n.kind = 3 := by
  unfold ND.fldE at h
  by_cases k1 : n.kind = 1
  · exact .inl k1
  · by_cases k2 : n.kind = 2
    · exact .inr (.inl k2)
    · by_cases k3 : n.kind = 3
      · exact .inr (.inr k3)
      · rw [if_neg k1, if_neg k2, if_neg k3] at h; cases h
theorem small_text {n : ND} {m : Nat} (h : n.small m) : n.text.size ≤ m := by
  induction n with
  | leaf => exact h
  | add p s c ih _ => exact ih h.1
theorem small_cnt {n : ND} {m : Nat} (h : n.small m) : n.cnt ≤ m := by
  cases n with
  | leaf => simp [ND.cnt]
  | add p s c => exact h.2.2.2
theorem node_any (nm : ByteArray → Int) (w0 : World) (B g : Nat)
    (CN : ∀ s w, s.size ≤ 1048576 → Calls Tryd.prog 58 #[.string s] w fun e w' => e = .returned (.int .i64 (nm s)) ∧ Below w.heap.size w w') :
    ∀ (k : Nat) (n : ND), n.sz ≤ k → NodeOk nm w0 B g n := by
  intro k
  induction k with
  | zero => intro n h; cases n <;> simp [ND.sz] at h
  | succ k ih =>
    intro n hk d b path a cap w H hb hin hsm hd1 hd33 hpath
    have htx : n.text.size ≤ 1048576 := small_text (m := 1048576) hsm
    have hct : n.cnt ≤ 1048576 := small_cnt (m := 1048576) hsm
    by_cases hd : 32 < d
    · have e : n.nodeC (fun b3 => n.kidsC nm d b3) d b = .error 61 := by unfold ND.nodeC; rw [if_pos hd]
      rw [e]
      exact node_deep w0 B g b d path n a cap w H hd
    · by_cases hf : n.fldE = 0
      · unfold ND.nodeC
        rw [if_neg hd, if_neg (by simpa using hf)]
        rcases fld_kind hf with h1 | h1 | h1
        · rw [if_pos h1]
          have ev : n.val a cap = .agg #[.int .i64 1, .bool n.exec, .string n.text, .slice a n.cnt cap] := by unfold ND.val; rw [h1]
          have CF : ∀ w, Calls Tryd.prog 55 #[.agg #[.int .i64 1, .bool n.exec, .string n.text, .slice a n.cnt cap]] w fun e w' => e = .returned (.int .i64 0) ∧ Below w.heap.size w w' := by
            intro w
            have h := fields_any n a cap w
            rw [hf, ev] at h
            exact h
          rw [ev]
          have h := node_file w0 B g b d path n.text n.exec a n.cnt cap w H hb (by omega) htx CF
          rw [q_exec] at h
          exact h
        · rw [if_neg (by omega), if_pos h1]
          have ev : n.val a cap = .agg #[.int .i64 2, .bool n.exec, .string n.text, .slice a n.cnt cap] := by unfold ND.val; rw [h1]
          have CF : ∀ w, Calls Tryd.prog 55 #[.agg #[.int .i64 2, .bool n.exec, .string n.text, .slice a n.cnt cap]] w fun e w' => e = .returned (.int .i64 0) ∧ Below w.heap.size w w' := by
            intro w
            have h := fields_any n a cap w
            rw [hf, ev] at h
            exact h
          rw [ev]
          exact node_link w0 B g b d path n.text n.exec a n.cnt cap w H hb (by omega) htx CF
        · rw [if_neg (by omega), if_neg (by omega)]
          have ev : n.val a cap = .agg #[.int .i64 3, .bool n.exec, .string n.text, .slice a n.cnt cap] := by unfold ND.val; rw [h1]
          have CF : ∀ w, Calls Tryd.prog 55 #[.agg #[.int .i64 3, .bool n.exec, .string n.text, .slice a n.cnt cap]] w fun e w' => e = .returned (.int .i64 0) ∧ Below w.heap.size w w' := by
            intro w
            have h := fields_any n a cap w
            rw [hf, ev] at h
            exact h
          rw [ev]
          exact node_dir nm w0 B g b d path n.text n.exec a n.cnt cap n w H hb hd1 (by omega) hpath rfl hsm hin hct CF CN (fun c hc => ih c (by omega))
      · have e : n.nodeC (fun b3 => n.kidsC nm d b3) d b = .error n.fldE := by unfold ND.nodeC; rw [if_neg hd, if_pos hf]
        rw [e]
        exact node_bad w0 B g b d path n a cap w H (by omega) hf
end Go.Proofs.YtlcppkcclolgcaaDoor

namespace Go.Proofs.YtlcppkcclolgcaaDoor
set_option linter.unusedVariables false
set_option linter.unusedSimpArgs false
open Go.RowKit

theorem row_past {w : World} {i : Nat} {o : Obj} (h : w.heap[i]? = some o) (o' : Obj) : (w.alloc o').heap[i]? = some o :=
  ((((Below.refl w.heap.size w).alloc (Nat.le_refl _) o')).block i (by rcases Nat.lt_or_ge i w.heap.size with h' | h'; exact h'; rw [Array.getElem?_eq_none_iff.2 h'] at h; cases h)).trans h
theorem ta_nil (w : World) : (Instr.typeAssert .nilIface 20 111 true).run Tryd.prog w = .ok (.tuple #[.agg #[.string ⟨#[]⟩, .int .i64 0], .bool false]) w := by
  simp [Instr.typeAssert]
theorem ta_hit (v : Value) (w : World) : (Instr.typeAssert (.iface 111 v) 20 111 true).run Tryd.prog w = .ok (.tuple #[v, .bool true]) w := by
  simp [Instr.typeAssert]
set_option maxRecDepth 100000 in
set_option maxHeartbeats 1000000 in
theorem catch_idle (p c b : Addr) (w : World) :
    CallsD Tryd.prog 37 #[.pointer (some p), .pointer (some c), .pointer (some b)] .returning w fun e u' w' => e = .returned (.tuple #[]) ∧ u' = .returning ∧ Below w.heap.size w w' := by
  refine callsD_of_wpS Tryd.func37 rfl fun c₀ cs hu => ?_
  apply wpS_seq
  apply wpS_region
  generalize hQ : (Exit.thenS _ _) = Q
  have ht := ta_nil
  simp (maxSteps := 20000) [wpOpsS, go_sem, recoverD, hu, Tryd.ntmps37, ht]
  subst hQ
  simp only [Exit.thenS]
  refine wpS_of_wp ?_
  generalize hR : bodyPostS _ _ _ _ _ = R
  go_wp2_with fail
  subst hR
  cases c₀
  simp_all [bodyPostS, results, Tryd.results37]
  exact (Below.refl _ _).alloc (Nat.le_refl _) _
theorem opsS_recover {P : Program} {ops : Array Oper} {Q : Exit → Act → List Frame → World → Prop} {i : Nat} {rest : List Nat} {o : Oper} {a : Act} {cs cs' : List Frame} {w : World} {v : Value} (h1 : ops[i]? = some o)
    (h2 : Region.wanted o (yielded ops a.tmps) = true) (h3 : (execOp a.eval o).run P w = .ok .recover w) (h4 : recoverD cs = some (v, cs')) (h : wpOpsS P ops Q rest (a.put o.dst v) cs' w) : wpOpsS P ops Q (i :: rest) a cs w := by
  simp only [wpOpsS, h1, h2, h3, h4, if_true]
  exact h
set_option maxRecDepth 100000 in
set_option maxHeartbeats 4000000 in
theorem catch_pan (k : Nat) (path s0 : ByteArray) (code c0 b0 : Int) (w : World) (B : Nat) (hB : B ≤ k) (h0 : w.heap[k]? = some (.cells #[.string s0] 9 (0, 0))) (h1 : w.heap[k + 1]? = some (.cells #[.int .i64 c0] 28 (0, 0))) (h2 : w.heap[k + 2]? = some (.cells #[.int .i64 b0] 3 (0, 0))) :
    CallsD Tryd.prog 37 #[.pointer (some ⟨k, 0, none⟩), .pointer (some ⟨k + 1, 0, none⟩), .pointer (some ⟨k + 2, 0, none⟩)] (.panicking [{ v := offV path code, recovered := false }]) w
      fun e u' w' => e = .returned (.tuple #[]) ∧ u' = .panicking [{ v := offV path code, recovered := true }] ∧ w'.heap[k]? = some (.cells #[.string path] 9 (0, 0)) ∧ w'.heap[k + 1]? = some (.cells #[.int .i64 code] 28 (0, 0)) ∧ w'.heap[k + 2]? = some (.cells #[.int .i64 0] 3 (0, 0)) ∧ Below B w w' := by
  unfold offV
  refine callsD_of_wpS Tryd.func37 rfl fun c₀ cs hu => ?_
  have c0' := cell_of_row w k 0 _ _ _ h0
  have c1' := cell_of_row w (k + 1) 0 _ _ _ h1
  have c2' := cell_of_row w (k + 2) 0 _ _ _ h2
  have f0 := frozen_of_row w k 0 _ _ h0
  have f1 := frozen_of_row w (k + 1) 0 _ _ h1
  have f2 := frozen_of_row w (k + 2) 0 _ _ h2
  apply wpS_seq
  apply wpS_region
  generalize hQ : (Exit.thenS _ _) = Q
  have ht := ta_hit (.agg #[.string path, .int .i64 code])
  have h4 : recoverD (c₀ :: cs) = some (.iface 111 (.agg #[.string path, .int .i64 code]), { c₀ with mode := .panicking [{ v := .iface 111 (.agg #[.string path, .int .i64 code]), recovered := true }] } :: cs) := by
    unfold recoverD
    simp only [hu]
  generalize hC : ({ c₀ with mode := .panicking [{ v := .iface 111 (.agg #[.string path, .int .i64 code]), recovered := true }] } : Frame) = c₁ at *
  refine opsS_recover (i := 0) (rest := [1, 2, 3, 4, 5, 6, 7]) rfl rfl rfl h4 ?_
  clear h4
  simp (maxSteps := 20000) [wpOpsS, go_sem, Tryd.ntmps37, ht]
  subst hQ
  simp only [Exit.thenS]
  generalize hR : bodyPostS _ _ _ _ _ = R
  have p0 : ∀ o, (w.alloc o).cell? ⟨k, 0, none⟩ = some (.string s0) := fun o => cell_past c0' o
  have p1 : ∀ o, (w.alloc o).cell? ⟨k + 1, 0, none⟩ = some (.int .i64 c0) := fun o => cell_past c1' o
  have p2 : ∀ o, (w.alloc o).cell? ⟨k + 2, 0, none⟩ = some (.int .i64 b0) := fun o => cell_past c2' o
  apply wpS_seq
  apply wpS_region
  generalize hQ : (Exit.thenS _ _) = Q
  simp (maxSteps := 20000) [wpOpsS, go_sem]
  subst hQ
  simp only [Exit.thenS]
  refine wpS_cond (t := true) (by simp [Act.eval]) ?_
  simp only [if_true]
  refine wpS_of_wp ?_
  have hT : ∀ (X : Array Value) (post : Exit → Act → World → Prop) (cd : Code) (wq : World), X = #[.pointer (some ⟨k, 0, none⟩), .pointer (some ⟨k + 1, 0, none⟩), .pointer (some ⟨k + 2, 0, none⟩), .pointer (some ⟨w.heap.size, 0, none⟩), .bool true, .tuple #[.agg #[.string path, .int .i64 code], .bool true], .iface 111 (.agg #[.string path, .int .i64 code]), .tuple #[.agg #[.string path, .int .i64 code], .bool true], .agg #[.string path, .int .i64 code], .bool true, .bool true, undef, undef, undef, undef] →
      Code.wp Tryd.prog cd post { tmps := #[.pointer (some ⟨k, 0, none⟩), .pointer (some ⟨k + 1, 0, none⟩), .pointer (some ⟨k + 2, 0, none⟩), .pointer (some ⟨w.heap.size, 0, none⟩), .bool true, .tuple #[.agg #[.string path, .int .i64 code], .bool true], .iface 111 (.agg #[.string path, .int .i64 code]), .tuple #[.agg #[.string path, .int .i64 code], .bool true], .agg #[.string path, .int .i64 code], .bool true, .bool true, undef, undef, undef, undef], defers := [] } wq → Code.wp Tryd.prog cd post { tmps := X, defers := [] } wq := by
    intro X post cd wq e h
    subst e
    exact h
  refine hT _ _ _ _ (by kernel_rfl) ?_
  clear hT
  have n0 : k ≠ w.heap.size := fun e => by have := lt_of_row h0; omega
  have n1 : k + 1 ≠ w.heap.size := fun e => by have := lt_of_row h1; omega
  have n2 : k + 2 ≠ w.heap.size := fun e => by have := lt_of_row h2; omega
  have HR := Lib.hid hR
  have HU := Lib.hid hC
  have a0 := heap_alloc_new w (.cells #[Value.string path, Value.int .i64 code] 111)
  have h0A := row_past h0 (.cells #[Value.string path, Value.int .i64 code] 111)
  have h1A := row_past h1 (.cells #[Value.string path, Value.int .i64 code] 111)
  have h2A := row_past h2 (.cells #[Value.string path, Value.int .i64 code] 111)
  have HB : Below B w (w.alloc (.cells #[Value.string path, Value.int .i64 code] 111)) := (Below.refl _ _).alloc (by have := lt_of_row h0; omega) _
  clear hR hu ht hC h0 h1 h2 p0 p1 p2 c0' c1' c2' f0 f1 f2
  have HB := Lib.hid HB
  generalize w.alloc (.cells #[Value.string path, Value.int .i64 code] 111) = wA at *
  generalize w.heap.size = m at *
  have m0 : wA.cell? ⟨m, 0, none⟩ = some (.string path) := cell_of_row wA m 0 _ _ _ a0
  have m1 : wA.cell? ⟨m, 1, none⟩ = some (.int .i64 code) := cell_of_row wA m 1 _ _ _ a0
  have k0 : wA.cell? ⟨k, 0, none⟩ = some (.string s0) := cell_of_row wA k 0 _ _ _ h0A
  have k1 : wA.cell? ⟨k + 1, 0, none⟩ = some (.int .i64 c0) := cell_of_row wA (k + 1) 0 _ _ _ h1A
  have k2 : wA.cell? ⟨k + 2, 0, none⟩ = some (.int .i64 b0) := cell_of_row wA (k + 2) 0 _ _ _ h2A
  have f0 := frozen_of_row wA k 0 _ _ h0A
  have f1 := frozen_of_row wA (k + 1) 0 _ _ h1A
  have f2 := frozen_of_row wA (k + 2) 0 _ _ h2A
  have H0 := Lib.hid h0A
  have H1 := Lib.hid h1A
  have H2 := Lib.hid h2A
  clear h0A h1A h2A a0
  refine wp_region_noPanic ?_
  go_region_held (fun w' => w'.cell? ⟨m, 0, none⟩ = some (.string path) ∧ w'.cell? ⟨m, 1, none⟩ = some (.int .i64 code)) (go_keep) (fail)
  unfold NoPanic
  simp only
  have hR := HR.out
  subst hR
  have hC := HU.out
  subst hC
  simp only [bodyPostS]
  have g0 : (wA.setCell ⟨k, 0, none⟩ (Value.string path)).heap[k]? = some (.cells #[Value.string path] 9 (0, 0)) := (heap_setCell_same wA k 0 _ _ _ H0.out).trans rfl
  have g1 : ((wA.setCell ⟨k, 0, none⟩ (Value.string path)).setCell ⟨k + 1, 0, none⟩ (Value.int .i64 code)).heap[k + 1]? = some (.cells #[Value.int .i64 code] 28 (0, 0)) := (heap_setCell_same _ (k + 1) 0 _ _ _ ((Below.heap_setCell _ _ _ _ (by simp)).trans H1.out)).trans rfl
  have g2 : (((wA.setCell ⟨k, 0, none⟩ (Value.string path)).setCell ⟨k + 1, 0, none⟩ (Value.int .i64 code)).setCell ⟨k + 2, 0, none⟩ (Value.int .i64 0)).heap[k + 2]? = some (.cells #[Value.int .i64 0] 3 (0, 0)) := (heap_setCell_same _ (k + 2) 0 _ _ _ ((Below.heap_setCell _ _ _ _ (by simp)).trans ((Below.heap_setCell _ _ _ _ (by simp)).trans H2.out))).trans rfl
  refine ⟨trivial, _, rfl, .tuple #[], by simp [results, Tryd.results37], rfl, rfl, ?_, ?_, g2, ?_⟩
  · exact (Below.heap_setCell _ _ _ _ (by simp)).trans ((Below.heap_setCell _ _ _ _ (by simp)).trans g0)
  · exact (Below.heap_setCell _ _ _ _ (by simp)).trans g1
  · exact (((HB.out.setCell hB _).setCell (by simpa using Nat.le_succ_of_le hB) _).setCell (by simpa using Nat.le_succ_of_le (Nat.le_succ_of_le hB)) _).drew
end Go.Proofs.YtlcppkcclolgcaaDoor

namespace Go.Proofs.YtlcppkcclolgcaaDoor
set_option linter.unusedVariables false
set_option linter.unusedSimpArgs false
open Go.RowKit

def errC : Except Int Nat → Int
  | .ok _ => 0
  | .error c => c
def okC : Except Int Nat → Nat
  | .ok b => b
  | .error _ => 0
/-- what a walk over a tree answers -/
def ND.walkC (nm : ByteArray → Int) (n : ND) : Except Int Nat := n.nodeC (fun b => n.kidsC nm 1 b) 1 24
theorem ND.At.mono {B B' : Nat} {w : World} (hB : B ≤ B') : ∀ {n : ND} {x : Addr}, n.At B w x → n.At B' w x := by
  intro n
  induction n with
  | leaf => intro x _; trivial
  | add p nm c ih1 ih2 =>
    intro x h
    obtain ⟨h1, h2, a, cap, c0, c1, c2, c3, c4, h3⟩ := h
    refine ⟨ih1 h1, by omega, a, cap, c0, c1, c2, c3, c4, ?_⟩
    rcases h3 with h3 | ⟨y, e, h3⟩
    · exact .inl h3
    · exact .inr ⟨y, e, ih2 h3⟩
theorem ND.In.mono {B B' : Nat} {w : World} (hB : B ≤ B') {n : ND} {a : Option Addr} (h : n.In B w a) : n.In B' w a := by
  rcases h with h | ⟨y, e, h⟩
  · exact .inl h
  · exact .inr ⟨y, e, h.mono hB⟩
theorem ND.In.up {w w' : World} (hb : Below w.heap.size w w') {n : ND} {a : Option Addr} (h : n.In w.heap.size w a) : n.In w'.heap.size w' a :=
  (h.below hb (Nat.le_refl _)).mono hb.size
theorem four_rows (w : World) (c0 c1 c2 c3 : Array Value) (t0 t1 t2 t3 : TypeId) :
    ((((w.alloc (.cells c0 t0)).alloc (.cells c1 t1)).alloc (.cells c2 t2)).alloc (.cells c3 t3)).heap.size = w.heap.size + 1 + 1 + 1 + 1 ∧
    ((((w.alloc (.cells c0 t0)).alloc (.cells c1 t1)).alloc (.cells c2 t2)).alloc (.cells c3 t3)).heap[w.heap.size]? = some (.cells c0 t0 (0, 0)) ∧
    ((((w.alloc (.cells c0 t0)).alloc (.cells c1 t1)).alloc (.cells c2 t2)).alloc (.cells c3 t3)).heap[w.heap.size + 1]? = some (.cells c1 t1 (0, 0)) ∧
    ((((w.alloc (.cells c0 t0)).alloc (.cells c1 t1)).alloc (.cells c2 t2)).alloc (.cells c3 t3)).heap[w.heap.size + 1 + 1]? = some (.cells c2 t2 (0, 0)) ∧
    ((((w.alloc (.cells c0 t0)).alloc (.cells c1 t1)).alloc (.cells c2 t2)).alloc (.cells c3 t3)).heap[w.heap.size + 1 + 1 + 1]? = some (.cells c3 t3 (0, 0)) ∧
    Below w.heap.size w ((((w.alloc (.cells c0 t0)).alloc (.cells c1 t1)).alloc (.cells c2 t2)).alloc (.cells c3 t3)) := by
  have h1 : (w.alloc (.cells c0 t0)).heap.size = w.heap.size + 1 := by simp
  have h2 : ((w.alloc (.cells c0 t0)).alloc (.cells c1 t1)).heap.size = w.heap.size + 1 + 1 := by simp
  have h3 : (((w.alloc (.cells c0 t0)).alloc (.cells c1 t1)).alloc (.cells c2 t2)).heap.size = w.heap.size + 1 + 1 + 1 := by simp
  refine ⟨by simp, row_past (row_past (row_past (heap_alloc_new w _) _) _) _, row_past (row_past (alloc_new2 w _ _ _) _) _, ?_, ?_, ?_⟩
  · have h := heap_alloc_new ((w.alloc (.cells c0 t0)).alloc (.cells c1 t1)) (.cells c2 t2)
    rw [h2] at h
    exact row_past h _
  · have h := heap_alloc_new (((w.alloc (.cells c0 t0)).alloc (.cells c1 t1)).alloc (.cells c2 t2)) (.cells c3 t3)
    rw [h3] at h
    exact h
  · exact ((((Below.refl _ _).alloc (Nat.le_refl _) _).alloc (by omega) _).alloc (by omega) _).alloc (by omega) _
set_option maxRecDepth 100000 in
set_option maxHeartbeats 4000000 in
theorem walk_any (nm : ByteArray → Int) (n : ND) (a : Option Addr) (cap : Nat) (w : World) (hsm : n.small 1048576) (hin : n.In w.heap.size w a)
    (CN : ∀ s w, s.size ≤ 1048576 → Calls Tryd.prog 58 #[.string s] w fun e w' => e = .returned (.int .i64 (nm s)) ∧ Below w.heap.size w w') :
    Calls Tryd.prog 23 #[n.val a cap] w fun e w' => ∃ p : ByteArray, e = .returned (.tuple #[.string p, .int .i64 (errC (n.walkC nm)), .int .i64 (okC (n.walkC nm))]) ∧ Below w.heap.size w w' := by
  have hmf : ∀ (fn : Fn) (first cap : Array Value) (w : World), (Instr.makeFunc fn first cap).run Tryd.prog w = .ok (.func fn first cap) w := fun _ _ _ _ => rfl
  have C1 : ∀ k cp w, w.heap[k]? = some (.cells (strs [wMagic]) 9 (0, 0)) → Calls Tryd.prog 36 #[.slice (some ⟨k, 0, none⟩) 1 cp] w fun e w' => e = .returned (.int .i64 24) ∧ w = w' :=
    fun k cp w hr => (framed_any [wMagic] k 1 cp _ w hr (by intro s hs; simp only [List.mem_cons, List.not_mem_nil, or_false] at hs; subst hs; decide) (by simp) rfl).mono fun e w' h => by
      have hq : frSum [wMagic] = 24 := by decide +kernel
      rw [hq] at h; exact h
  have CW : ∀ g wr, w.heap.size ≤ g → WkS w w.heap.size g 24 wr → Calls Tryd.prog 38 #[.pointer (some ⟨g, 0, none⟩), .string ⟨#[]⟩, n.val a cap, .int .i64 1] wr fun e w' => WkPost w w.heap.size g wr (n.walkC nm) e w' := by
    intro g wr hg H
    exact node_any nm w w.heap.size g CN n.sz n (Nat.le_refl _) 1 24 ⟨#[]⟩ a cap wr H (by omega) hin hsm (by omega) (by omega) (by decide)
  unfold ND.val at CW ⊢
  generalize hR : n.walkC nm = R at *
  generalize n.kind = kd at *
  generalize n.exec = ex at *
  generalize n.text = tx at *
  generalize n.cnt = ct at *
  have K1 := Lib.hid C1
  have KW := Lib.hid CW
  clear C1 CW hsm hin CN hR
  go_enter_defers Tryd.func23, Tryd.ntmps23
  go_upto_region 1 with (fail)
  obtain ⟨hsz, q0, q1, q2, q3, qb⟩ := four_rows w #[Value.int .i64 kd, Value.bool ex, Value.string tx, Value.slice a ct cap] #[Value.string ⟨#[]⟩] #[Value.int .i64 0] #[Value.int .i64 0] 25 9 28 3
  generalize ((((w.alloc (.cells #[Value.int .i64 kd, Value.bool ex, Value.string tx, Value.slice a ct cap] 25)).alloc (.cells #[Value.string ⟨#[]⟩] 9)).alloc (.cells #[Value.int .i64 0] 28)).alloc (.cells #[Value.int .i64 0] 3)) = wB at *
  have e0 : ∀ o o', ((wB.alloc o).alloc o').cell? ⟨w.heap.size, 0, none⟩ = some (.int .i64 kd) := fun o o' => cell_of_row _ _ 0 _ _ _ (row_past (row_past q0 o) o')
  have e1 : ∀ o o', ((wB.alloc o).alloc o').cell? ⟨w.heap.size, 1, none⟩ = some (.bool ex) := fun o o' => cell_of_row _ _ 1 _ _ _ (row_past (row_past q0 o) o')
  have e2 : ∀ o o', ((wB.alloc o).alloc o').cell? ⟨w.heap.size, 2, none⟩ = some (.string tx) := fun o o' => cell_of_row _ _ 2 _ _ _ (row_past (row_past q0 o) o')
  have e3 : ∀ o o', ((wB.alloc o).alloc o').cell? ⟨w.heap.size, 3, none⟩ = some (.slice a ct cap) := fun o o' => cell_of_row _ _ 3 _ _ _ (row_past (row_past q0 o) o')
  have Q1 := Lib.hid q1
  have Q2 := Lib.hid q2
  have Q3 := Lib.hid q3
  have QB := Lib.hid qb
  have QS := Lib.hid hsz
  clear q0 q1 q2 q3 qb hsz
  go_upto_region 3 with (go_at_call 36; refine (K1.out _ _ _ (heap_alloc_new _ _)).mono ?_; rintro e w' ⟨rfl, rfl⟩)
  have QC : Below w.heap.size w ((wB.alloc (.cells (strs [wMagic]) 9)).alloc (.cells #[Value.int .i64 24] 109)) := (QB.out.alloc (by have := QS.out; omega) _).alloc (by have := QS.out; simp; omega) _
  have QW : WkS w w.heap.size (wB.heap.size + 1) 24 ((wB.alloc (.cells (strs [wMagic]) 9)).alloc (.cells #[Value.int .i64 24] 109)) := ⟨alloc_new2 _ _ _ _, QC, by have := QS.out; omega⟩
  have r1 := row_past (row_past Q1.out (.cells (strs [wMagic]) 9)) (.cells #[Value.int .i64 24] 109)
  have r2 := row_past (row_past Q2.out (.cells (strs [wMagic]) 9)) (.cells #[Value.int .i64 24] 109)
  have r3 := row_past (row_past Q3.out (.cells (strs [wMagic]) 9)) (.cells #[Value.int .i64 24] 109)
  have e0' := e0 (.cells (strs [wMagic]) 9) (.cells #[Value.int .i64 24] 109)
  have e1' := e1 (.cells (strs [wMagic]) 9) (.cells #[Value.int .i64 24] 109)
  have e2' := e2 (.cells (strs [wMagic]) 9) (.cells #[Value.int .i64 24] 109)
  have e3' := e3 (.cells (strs [wMagic]) 9) (.cells #[Value.int .i64 24] 109)
  have hg : w.heap.size + 1 + 1 + 1 < wB.heap.size + 1 := by have := QS.out; omega
  clear e0 e1 e2 e3
  generalize (wB.alloc (.cells (strs [wMagic]) 9)).alloc (.cells #[Value.int .i64 24] 109) = wC at *
  generalize wB.heap.size + 1 = g at *
  have R1 := Lib.hid r1
  have R2 := Lib.hid r2
  have R3 := Lib.hid r3
  have RW := Lib.hid QW
  have RG := Lib.hid hg
  clear r1 r2 r3 QW QC hg Q1 Q2 Q3 QB QS
  go_upto_region 4 with (go_at_call 38; refine (KW.out g _ (by have := RG.out; omega) RW.out).mono ?_; rintro e w3 ⟨hg3, ⟨b', h1, h2, rfl, h3⟩ | ⟨c, p, b', h1, rfl, h3⟩⟩)
  · subst h1
    have hlt : w.heap.size + 1 + 1 + 1 < wC.heap.size := lt_of_row R3.out
    have r1 := (hg3.block (w.heap.size + 1) (by omega) (by simp; have := RG.out; omega)).trans R1.out
    have r2 := (hg3.block (w.heap.size + 1 + 1) (by omega) (by simp; have := RG.out; omega)).trans R2.out
    have r3 := (hg3.block (w.heap.size + 1 + 1 + 1) (by omega) (by simp; have := RG.out; omega)).trans R3.out
    have k1 := cell_of_row w3 _ 0 _ _ _ r1
    have k2 := cell_of_row w3 _ 0 _ _ _ r2
    have k3 := cell_of_row w3 _ 0 _ _ _ r3
    have f1 := frozen_of_row w3 _ 0 _ _ r1
    have f2 := frozen_of_row w3 _ 0 _ _ r2
    have f3 := frozen_of_row w3 _ 0 _ _ r3
    have cg := h3.cell
    have hbel := Lib.hid h3.bel
    have Z1 := Lib.hid r1
    have Z2 := Lib.hid r2
    have Z3 := Lib.hid r3
    have hgr := RG.out
    have n1 : w.heap.size + 1 ≠ g := by omega
    have n2 : w.heap.size + 1 + 1 ≠ g := by omega
    have n3 : w.heap.size + 1 + 1 + 1 ≠ g := by omega
    clear r1 r2 r3 hlt hgr hg3 h3 R1 R2 R3 RW KW K1 e0' e1' e2' e3'
    generalize hk : w.heap.size + 1 = k at *
    have HK := Lib.hid hk
    clear hk
    refine wp_region_noPanic ?_
    go_region_held (fun w' => w'.cell? ⟨g, 0, none⟩ = some (.int .i64 (b' : Int))) (go_keep) (fail)
    unfold NoPanic
    simp only [Exit.then]
    have g0 : (w3.setCell ⟨k, 0, none⟩ (Value.string ⟨#[]⟩)).heap[k]? = some (.cells #[Value.string ⟨#[]⟩] 9 (0, 0)) := (heap_setCell_same w3 k 0 _ _ _ Z1.out).trans rfl
    have g1 : ((w3.setCell ⟨k, 0, none⟩ (Value.string ⟨#[]⟩)).setCell ⟨k + 1, 0, none⟩ (Value.int .i64 0)).heap[k + 1]? = some (.cells #[Value.int .i64 0] 28 (0, 0)) := (heap_setCell_same _ (k + 1) 0 _ _ _ ((Below.heap_setCell _ _ _ _ (by first | (simp; done) | (simp; omega))).trans Z2.out)).trans rfl
    have g2 : (((w3.setCell ⟨k, 0, none⟩ (Value.string ⟨#[]⟩)).setCell ⟨k + 1, 0, none⟩ (Value.int .i64 0)).setCell ⟨k + 1 + 1, 0, none⟩ (Value.int .i64 (b' : Int))).heap[k + 1 + 1]? = some (.cells #[Value.int .i64 (b' : Int)] 3 (0, 0)) := (heap_setCell_same _ (k + 1 + 1) 0 _ _ _ ((Below.heap_setCell _ _ _ _ (by first | (simp; done) | (simp; omega))).trans ((Below.heap_setCell _ _ _ _ (by first | (simp; done) | (simp; omega))).trans Z3.out))).trans rfl
    have gg1 : (((w3.setCell ⟨k, 0, none⟩ (Value.string ⟨#[]⟩)).setCell ⟨k + 1, 0, none⟩ (Value.int .i64 0)).setCell ⟨k + 1 + 1, 0, none⟩ (Value.int .i64 (b' : Int))).heap[k + 1]? = some (.cells #[Value.int .i64 0] 28 (0, 0)) := (Below.heap_setCell _ _ _ _ (by first | (simp; done) | (simp; omega))).trans g1
    have gg0 : (((w3.setCell ⟨k, 0, none⟩ (Value.string ⟨#[]⟩)).setCell ⟨k + 1, 0, none⟩ (Value.int .i64 0)).setCell ⟨k + 1 + 1, 0, none⟩ (Value.int .i64 (b' : Int))).heap[k]? = some (.cells #[Value.string ⟨#[]⟩] 9 (0, 0)) := (Below.heap_setCell _ _ _ _ (by first | (simp; done) | (simp; omega))).trans ((Below.heap_setCell _ _ _ _ (by first | (simp; done) | (simp; omega))).trans g0)
    have gb : Below w.heap.size w (((w3.setCell ⟨k, 0, none⟩ (Value.string ⟨#[]⟩)).setCell ⟨k + 1, 0, none⟩ (Value.int .i64 0)).setCell ⟨k + 1 + 1, 0, none⟩ (Value.int .i64 (b' : Int))) := by
      have hk := HK.out
      exact ((hbel.out.setCell (by simp; omega) _).setCell (by simp; omega) _).setCell (by simp; omega) _
    clear g0 g1
    have X0 := Lib.hid gg0
    have X1 := Lib.hid gg1
    have X2 := Lib.hid g2
    have XB := Lib.hid gb
    clear gg0 gg1 g2 gb
    generalize ((w3.setCell ⟨k, 0, none⟩ (Value.string ⟨#[]⟩)).setCell ⟨k + 1, 0, none⟩ (Value.int .i64 0)).setCell ⟨k + 1 + 1, 0, none⟩ (Value.int .i64 (b' : Int)) = w4 at *
    clear k1 k2 k3 f1 f2 f3 cg Z1 Z2 Z3 hbel n1 n2 n3
    go_wp2_with fail
    refine leaves_cons (f := 37) (args := #[.pointer (some ⟨k, 0, none⟩), .pointer (some ⟨k + 1, 0, none⟩), .pointer (some ⟨k + 1 + 1, 0, none⟩)]) (by simp) (by simp [go_sem]) ?_
    refine (catch_idle ⟨k, 0, none⟩ ⟨k + 1, 0, none⟩ ⟨k + 1 + 1, 0, none⟩ _).mono ?_
    rintro e u' w5 ⟨rfl, rfl, hb⟩
    have hb2 : Below w4.heap.size w4 w5 := ⟨hb.os, hb.tape, hb.output, hb.size, hb.block⟩
    have c0 := cell_of_row w5 _ 0 _ _ _ ((hb2.block _ (lt_of_row X0.out)).trans X0.out)
    have c1 := cell_of_row w5 _ 0 _ _ _ ((hb2.block _ (lt_of_row X1.out)).trans X1.out)
    have c2 := cell_of_row w5 _ 0 _ _ _ ((hb2.block _ (lt_of_row X2.out)).trans X2.out)
    have hbel := XB.out.trans (hb2.mono XB.out.size)
    clear X0 X1 X2 hb hb2
    refine ⟨.tuple #[.string ⟨#[]⟩, .int .i64 0, .int .i64 (b' : Int)], ?_, ⟨#[]⟩, rfl, hbel⟩
    simp [results, Tryd.results23, c0, c1, c2, asAddr, loadVar, go_sem]
  · subst h1
    have hlt : w.heap.size + 1 + 1 + 1 < wC.heap.size := lt_of_row R3.out
    have r1 := (hg3.block (w.heap.size + 1) (by omega) (by simp; have := RG.out; omega)).trans R1.out
    have r2 := (hg3.block (w.heap.size + 1 + 1) (by omega) (by simp; have := RG.out; omega)).trans R2.out
    have r3 := (hg3.block (w.heap.size + 1 + 1 + 1) (by omega) (by simp; have := RG.out; omega)).trans R3.out
    refine leaves_cons (f := 37) (args := #[.pointer (some ⟨w.heap.size + 1, 0, none⟩), .pointer (some ⟨w.heap.size + 2, 0, none⟩), .pointer (some ⟨w.heap.size + 3, 0, none⟩)]) (by simp) (by simp [go_sem]) ?_
    refine (catch_pan (w.heap.size + 1) p ⟨#[]⟩ c 0 0 w3 w.heap.size (by omega) r1 r2 r3).mono ?_
    rintro e u' w4 ⟨rfl, rfl, g0, g1, g2, hb⟩
    have c0 := cell_of_row w4 _ 0 _ _ _ g0
    have c1 := cell_of_row w4 _ 0 _ _ _ g1
    have c2 := cell_of_row w4 _ 0 _ _ _ g2
    have hbel := h3.bel.trans hb
    clear g0 g1 g2 hb h3 hg3 r1 r2 r3 RG RW R1 R2 R3 KW K1 e0' e1' e2' e3'
    refine ⟨.tuple #[.string p, .int .i64 c, .int .i64 0], ?_, p, rfl, hbel⟩
    simp [results, Tryd.results23, c0, c1, c2, asAddr, loadVar, go_sem]

set_option maxRecDepth 100000 in
set_option maxHeartbeats 4000000 in
theorem Check_any (nm : ByteArray → Int) (n : ND) (a : Option Addr) (cap : Nat) (w : World) (hsm : n.small 1048576) (hin : n.In w.heap.size w a)
    (CN : ∀ s w, s.size ≤ 1048576 → Calls Tryd.prog 58 #[.string s] w fun e w' => e = .returned (.int .i64 (nm s)) ∧ Below w.heap.size w w') :
    Calls Tryd.prog 6 #[n.val a cap] w fun e w' => ∃ p : ByteArray, e = .returned (.tuple #[.string p, .int .i64 (errC (n.walkC nm))]) ∧ Below w.heap.size w w' := by
  have CW : ∀ wr, Below w.heap.size w wr → Calls Tryd.prog 23 #[n.val a cap] wr fun e w' => ∃ p : ByteArray, e = .returned (.tuple #[.string p, .int .i64 (errC (n.walkC nm)), .int .i64 (okC (n.walkC nm))]) ∧ Below w.heap.size w w' :=
    fun wr h => (walk_any nm n a cap wr hsm (hin.up h) CN).mono fun e w' ⟨p, h1, h2⟩ => ⟨p, h1, h.trans (h2.mono h.size)⟩
  unfold ND.val at CW ⊢
  generalize n.walkC nm = R at *
  generalize n.kind = kd at *
  generalize n.exec = ex at *
  generalize n.text = tx at *
  generalize n.cnt = ct at *
  have KW := Lib.hid CW
  clear CW hsm hin CN
  have b0 := fun (o : Value) => heap_alloc_new w (.cells #[Value.int .i64 kd, Value.bool ex, Value.string tx, Value.slice a ct cap] 25)
  go_enter Tryd.func6, Tryd.ntmps6
  go_wp2_with (go_at_call 23; refine (KW.out _ ((Below.refl _ _).alloc (Nat.le_refl _) _)).mono ?_; rintro e w3 ⟨p, rfl, h3⟩)
  go_ret2
  exact ⟨p, rfl, h3⟩
end Go.Proofs.YtlcppkcclolgcaaDoor
