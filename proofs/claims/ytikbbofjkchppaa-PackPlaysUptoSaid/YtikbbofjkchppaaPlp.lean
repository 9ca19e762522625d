/- The law PackPlays: what a script is, and what an unpacker and the reference have behind its calls. -/
import Derived.Test.YtikbbofjkchppaaPackChunks
import Derived.Test.YtikbbofjkchppaaPackReads
namespace Go.Proofs.Ytikbbofjkchppaa
set_option linter.unusedVariables false
set_option linter.unusedSimpArgs false
open Go.RowKit

/-- one call -/
structure PCall where
  shut : Bool
  text : ByteArray
/-- the calls as they came in -/
structure IsPOps (w : World) (a : Option Addr) (len cap : Nat) (f : Nat → PCall) : Prop where
  at_ : 0 < len → ∃ x, a = some x ∧ x.block < w.heap.size ∧ ∀ i, i < len → w.cell? (x.add (i * 2)) = some (.bool (f i).shut) ∧ w.cell? (x.add (i * 2 + 1)) = some (.string (f i).text)
/-- their texts' lengths together -/
def psum (f : Nat → PCall) : Nat → Nat
  | 0 => 0
  | n + 1 => psum f n + (f n).text.size
theorem psum_mono (f : Nat → PCall) {a b : Nat} (h : a ≤ b) : psum f a ≤ psum f b := by
  induction b with
  | zero => obtain rfl : a = 0 := by omega
            exact Nat.le_refl _
  | succ n ih =>
    by_cases e : a = n + 1
    · rw [e]; exact Nat.le_refl _
    · have := ih (by omega)
      show _ ≤ psum f n + _
      omega
theorem add_next2 (x : Addr) (m n : Nat) (hn : n ≠ 0) : x.add (m + n) = ⟨(x.add m).block, (x.add m).off + n, none⟩ := by
  unfold Addr.add
  by_cases hm : m = 0
  · simp [hm, hn]
  · simp [hm, hn]; omega

/-- no fault, no place -/
theorem at_take (u : US) (c : Nat) (h : u.code = 0 → u.at_ = 0) : (u.take c).1.code = 0 → (u.take c).1.at_ = 0 := by
  unfold US.take US.copy US.begin US.fail
  repeat' split
  all_goals simp
  all_goals first | exact h | (intro h1; exact h h1)
theorem at_one (u : US) (c : Nat) (h : u.code = 0 → u.at_ = 0) : (u.one c).code = 0 → (u.one c).at_ = 0 := by
  unfold US.one
  split
  · exact h
  · split
    · exact at_take u c h
    · exact at_take u c h
theorem at_feed : ∀ (bs : List Nat) (u : US), (u.code = 0 → u.at_ = 0) → (u.feed bs).code = 0 → (u.feed bs).at_ = 0
  | [], u, h => h
  | c :: bs, u, h => at_feed bs (u.one c) (at_one u c h)
theorem fine_shut {u : US} (h : Fine u) : Fine { u with shut := true } := ⟨h.early, h.pre, h.size, h.room, h.tok, h.tokb, h.tokp, h.taken⟩

/-- the cells of the reference's Got -/
def gcells (T : ByteArray) (Wh : Bool) (u : US) : Array Value := #[.string T, .bool Wh, .int .i64 (u.code : Nat), .int .i64 (u.at_ : Nat), .int .i64 (u.taken : Nat)]
/-- what stands between two calls -/
structure PlU (w0 w : World) (gu gg : Nat) (vo vt : Value) (u : US) (all : ByteArray) (sh : Bool) (T : ByteArray) (Wh : Bool) (n : Nat) : Prop where
  uk : UkS w0 (fun _ => False) w gu vo vt u
  row : w.heap[gg]? = some (.cells (gcells T Wh u) 60 (0, 0))
  mine : ¬ Mine gu vo vt gg
  fine : u.code = 0 → Fine u
  sane : Sane u
  shut : u.shut = sh
  op : sh = false → u = US.new.feed (nb all) ∧ Wh = u.whole ∧ T = (if u.whole = true then strOf u.out else ⟨#[]⟩)
  text : sh = true → u.code = 0 → T = strOf u.out
  zero : u.code = 0 → u.at_ = 0
  size : all.size ≤ n
  small : u.taken ≤ n
theorem PlU.later {w0 w w' : World} {gu gg : Nat} {vo vt : Value} {u : US} {all : ByteArray} {sh : Bool} {T : ByteArray} {Wh : Bool} {n : Nat} (H : PlU w0 w gu gg vo vt u all sh T Wh n) (hb : Below w.heap.size w w') : PlU w0 w' gu gg vo vt u all sh T Wh n :=
  ⟨H.uk.later hb, (hb.block _ (lt_of_row H.row)).trans H.row, H.mine, H.fine, H.sane, H.shut, H.op, H.text, H.zero, H.size, H.small⟩
theorem PlU.more {w0 w : World} {gu gg : Nat} {vo vt : Value} {u : US} {all : ByteArray} {sh : Bool} {T : ByteArray} {Wh : Bool} {n n' : Nat} (H : PlU w0 w gu gg vo vt u all sh T Wh n) (h : n ≤ n') : PlU w0 w gu gg vo vt u all sh T Wh n' :=
  { H with size := Nat.le_trans H.size h, small := Nat.le_trans H.small h }
/-- behind a call of the unpacker -/
theorem PlU.moved {w0 w w' : World} {gu gg : Nat} {vo vt vo' vt' : Value} {u u' : US} {all : ByteArray} {sh : Bool} {T : ByteArray} {Wh : Bool} {n : Nat} (H : PlU w0 w gu gg vo vt u all sh T Wh n) (H' : UkS w (Mine gu vo vt) w' gu vo' vt' u') :
    UkS w0 (fun _ => False) w' gu vo' vt' u' ∧ w'.heap[gg]? = some (.cells (gcells T Wh u) 60 (0, 0)) ∧ ¬ Mine gu vo' vt' gg :=
  ⟨H.uk.join H', (H'.far.block _ (lt_of_row H.row) H.mine).trans H.row, fun h => H.mine ((H'.mine h).2 (lt_of_row H.row))⟩
/-- the row of Got written anew -/
theorem UkS.other3 {w0 w : World} {g : Nat} {vo vt : Value} {u : US} (H : UkS w0 (fun _ => False) w g vo vt u) {b i : Nat} {x : Value} (hb : w0.heap.size ≤ b) (hm : ¬ Mine g vo vt b) : UkS w0 (fun _ => False) (w.setCell ⟨b, i, none⟩ x) g vo vt u :=
  H.other hb hm
/-- a byte fed to an open unpacker -/
theorem PlU.fed {w0 w w' : World} {gu gg : Nat} {vo vt vo' vt' : Value} {u : US} {all t : ByteArray} {T : ByteArray} {Wh : Bool} {n : Nat} (H : PlU w0 w gu gg vo vt u all false T Wh n)
    (hu : UkS w0 (fun _ => False) w' gu vo' vt' (u.feed (nb t))) (hm : ¬ Mine gu vo' vt' gg)
    (hr : w'.heap[gg]? = some (.cells (gcells (if (u.feed (nb t)).whole = true then strOf (u.feed (nb t)).out else ⟨#[]⟩) (u.feed (nb t)).whole (u.feed (nb t))) 60 (0, 0))) :
    PlU w0 w' gu gg vo' vt' (u.feed (nb t)) (all ++ t) false (if (u.feed (nb t)).whole = true then strOf (u.feed (nb t)).out else ⟨#[]⟩) (u.feed (nb t)).whole (n + t.size) := by
  have hf := fine_feed (nb t) u H.fine (nb_bytes t)
  refine ⟨hu, hr, hm, hf.1, sane_feed _ _ H.sane (nb_bytes t), hf.2.1.trans H.shut, fun _ => ⟨?_, rfl, rfl⟩, (fun h => (by cases h)), at_feed _ _ H.zero, ?_, ?_⟩
  · rw [nb_append, feed_append, ← (H.op rfl).1]
  · rw [ByteArray.size_append]; have := H.size; omega
  · have := hf.2.2.2.1; rw [nb_length] at this; have := H.small; omega
/-- an unpacker that was closed takes nothing -/
theorem PlU.idle {w0 w w' : World} {gu gg : Nat} {vo vt vo' vt' : Value} {u : US} {all t : ByteArray} {T : ByteArray} {Wh : Bool} {n : Nat} (H : PlU w0 w gu gg vo vt u all true T Wh n)
    (H' : UkS w (Mine gu vo vt) w' gu vo' vt' (u.feed (nb t))) : (u.feed (nb t)).taken - u.taken = 0 ∧ PlU w0 w' gu gg vo' vt' u all true T Wh (n + t.size) := by
  have e := feed_stop u (.inl H.shut) (nb t)
  rw [e] at H' ⊢
  obtain ⟨h1, h2, h3⟩ := H.moved H'
  exact ⟨by omega, (⟨h1, h2, h3, H.fine, H.sane, H.shut, H.op, H.text, H.zero, H.size, H.small⟩ : PlU w0 w' gu gg vo' vt' u all true T Wh n).more (by omega)⟩

/-- what a Close answers, out of what stands behind it -/
theorem close_says (u : US) (T : ByteArray) (hz : u.close.code = 0 → u.close.at_ = 0) (ht : u.close.code = 0 → T = strOf u.out) : (u.close.code = 0 → closeText u = T) ∧ (u.close.code ≠ 0 → closeText u = ⟨#[]⟩) ∧ closeCode u = u.close.code ∧ closeAt u = u.close.at_ := by
  refine ⟨fun h => ?_, fun h => ?_, rfl, ?_⟩
  · rw [closeText, if_pos h, ht h]
  · rw [closeText, if_neg h]
  · unfold closeAt
    split
    · next h => exact (hz h).symm
    · rfl
/-- a Close that finds the text unfinished -/
theorem close_part {u : US} (h1 : u.shut = false) (h2 : u.whole = false) (h3 : u.code = 0) : u.close = { u.fail 4 u.taken with shut := true } := if_pos ⟨h1, h2, h3⟩
theorem PlU.part {w0 w w' : World} {gu gg : Nat} {vo vt : Value} {u : US} {all : ByteArray} {T : ByteArray} {Wh : Bool} {n : Nat} (H : PlU w0 w gu gg vo vt u all false T Wh n) (hw : u.whole = false) (hc : u.code = 0)
    (hu : UkS w0 (fun _ => False) w' gu vo vt u.close) (hr : w'.heap[gg]? = some (.cells #[.string T, .bool Wh, .int .i64 4, .int .i64 (u.taken : Nat), .int .i64 (u.taken : Nat)] 60 (0, 0))) :
    PlU w0 w' gu gg vo vt u.close all true T Wh n := by
  have e := close_part H.shut hw hc
  have hs := sane_close u H.sane
  rw [e] at hu hs ⊢
  exact ⟨hu, hr, H.mine, (fun h => (by cases h)), hs, rfl, (fun h => (by cases h)), (fun _ h => (by cases h)), (fun h => (by cases h)), H.size, H.small⟩
/-- any other Close -/
theorem PlU.closed {w0 w w' : World} {gu gg : Nat} {vo vt : Value} {u : US} {all : ByteArray} {sh : Bool} {T : ByteArray} {Wh : Bool} {n : Nat} (H : PlU w0 w gu gg vo vt u all sh T Wh n) (hn : sh = true ∨ u.whole = true ∨ u.code ≠ 0)
    (H' : UkS w (Mine gu vo vt) w' gu vo vt u.close) : PlU w0 w' gu gg vo vt u.close all true T Wh n ∧ u.close.code = u.code ∧ u.close.at_ = u.at_ ∧ u.close.taken = u.taken ∧ (u.code = 0 → T = strOf u.out) := by
  have e := close_shut u (fun q => by
    rcases hn with h | h | h
    · rw [H.shut, h] at q; simp at q
    · rw [h] at q; simp at q
    · exact h q.2.2)
  have hs := sane_close u H.sane
  have ht : u.code = 0 → T = strOf u.out := fun hc => by
    cases sh with
    | true => exact H.text rfl hc
    | false =>
      rcases hn with h | h | h
      · cases h
      · rw [(H.op rfl).2.2, if_pos h]
      · exact absurd hc h
  rw [e] at H' hs ⊢
  obtain ⟨h1, h2, h3⟩ := H.moved H'
  exact ⟨⟨h1, h2, h3, fun h => fine_shut (H.fine h), hs, rfl, (fun h => (by cases h)), fun _ => ht, H.zero, H.size, H.small⟩, rfl, rfl, rfl, ht⟩
theorem whole_new : gotV US.new = .agg #[.string ⟨#[]⟩, .bool false, .int .i64 0, .int .i64 0, .int .i64 0] := by
  unfold gotV
  rw [show US.new.whole = false from rfl]
  rfl
end Go.Proofs.Ytikbbofjkchppaa

