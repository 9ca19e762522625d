/- The walk of the packer's flush. -/
import Derived.Test.YtikbbofjkchppaaBack
import Derived.Test.YtikbbofjkchppaaOwn
import Derived.Maps.AppendAt
import Derived.Lib.AppendStr
namespace Go.Proofs.Ytikbbofjkchppaa
set_option linter.unusedVariables false
set_option linter.unusedSimpArgs false
open Go.RowKit

/-- a packer, its map and what it has written -/
structure PkS (w0 w : World) (gp b : Nat) (v : Value) (plain n : Nat) (F : List Nat → Option Nat) (out : List Nat) : Prop where
  p : PkRow w gp v plain b
  own : OwnB w w0.heap.size v out
  m : LastMap w b n F
  below : Below w0.heap.size w0 w
  og : w0.heap.size ≤ gp
  ob : w0.heap.size ≤ b
section
variable {w0 w w' : World} {gp b plain n : Nat} {v : Value} {F : List Nat → Option Nat} {out : List Nat}
theorem PkS.vg (H : PkS w0 w gp b v plain n F out) : v.ownBlock ≠ some gp := by
  rcases H.own with ⟨rfl, _⟩ | ⟨g, cap, cur, fz, rfl, _, hg, _⟩
  · simp [Value.ownBlock]
  · intro e
    simp only [Value.ownBlock, Option.some.injEq] at e
    subst e
    have := H.p.row
    rw [hg] at this
    simp at this
theorem PkS.vb (H : PkS w0 w gp b v plain n F out) : v.ownBlock ≠ some b := by
  rcases H.own with ⟨rfl, _⟩ | ⟨g, cap, cur, fz, rfl, _, hg, _⟩
  · simp [Value.ownBlock]
  · intro e
    simp only [Value.ownBlock, Option.some.injEq] at e
    subst e
    obtain ⟨D, ⟨es, clock, hb, _⟩, _⟩ := H.m
    rw [hg] at hb
    simp at hb
theorem PkS.ne (H : PkS w0 w gp b v plain n F out) : gp ≠ b := by
  intro e
  subst e
  obtain ⟨D, ⟨es, clock, hb, _⟩, _⟩ := H.m
  have := H.p.row
  rw [hb] at this
  simp at this
/-- the slice's value and the place of the plain bytes laid anew, behind a step that wrote the slice's block alone -/
theorem PkS.step {w1 : World} {v' : Value} {out' : List Nat} (H : PkS w0 w gp b v plain n F out) (ho : OwnB w1 w0.heap.size v' out') (hg : w.grownBy w1 v.ownBlock) :
    PkS w0 (w1.setCell ⟨gp, 0, none⟩ v') gp b v' plain n F out' := by
  have hvg := H.vg
  have hvb := H.vb
  have hne := H.ne
  have hp1 : PkRow w1 gp v plain b := H.p.far (hg.block _ H.p.lt (fun e => hvg e.symm))
  have hm1 : LastMap w1 b n F := H.m.kept hg (fun e => hvb e.symm)
  have hlt := ho.lt
  have hb1 : Below w0.heap.size w0 w1 := ⟨hg.os.trans H.below.os, hg.tape.trans H.below.tape, hg.output.trans H.below.output, Nat.le_trans H.below.size hg.size, fun k hk => (hg.block k (Nat.lt_of_lt_of_le hk H.below.size) (fun e => by
    have := (H.own.lt k e.symm).1
    omega)).trans (H.below.block k hk)⟩
  have hvg' : v'.ownBlock ≠ some gp := by
    rcases ho with ⟨rfl, _⟩ | ⟨g, cap, cur, fz, rfl, _, hg', _⟩
    · simp [Value.ownBlock]
    · intro e
      simp only [Value.ownBlock, Option.some.injEq] at e
      subst e
      have := hp1.row
      rw [hg'] at this
      simp at this
  have hset : w1.grownBy (w1.setCell ⟨gp, 0, none⟩ v') (some gp) := only_setG (World.grownBy.refl w1 _) 0 _
  refine ⟨⟨?_⟩, ho.kept hset (.inr hvg'), hm1.kept hset (by simp; omega), hb1.setCell (by simpa using H.og) _, H.og, H.ob⟩
  rw [heap_setCell_same w1 gp 0 _ _ _ hp1.row]
  rfl
theorem PkS.moved (H : PkS w0 w gp b v plain n F out) (q : Nat) : PkS w0 (w.setCell ⟨gp, 1, none⟩ (.int .i64 (q : Int))) gp b v q n F out := by
  have hset : w.grownBy (w.setCell ⟨gp, 1, none⟩ (.int .i64 (q : Int))) (some gp) := only_setG (World.grownBy.refl w _) 1 _
  refine ⟨⟨?_⟩, H.own.kept hset (.inr H.vg), H.m.kept hset (by simp; exact fun e => H.ne e.symm), H.below.setCell (by simpa using H.og) _, H.og, H.ob⟩
  rw [heap_setCell_same w gp 1 _ _ _ H.p.row]
  rfl
theorem PkS.later (H : PkS w0 w gp b v plain n F out) (hb : Below w.heap.size w w') : PkS w0 w' gp b v plain n F out :=
  have hg : w.grownBy w' none := only_below (World.grownBy.refl w _) hb
  ⟨H.p.far (hb.block _ H.p.lt), H.own.kept hg (by cases h : v.ownBlock with
    | none => exact .inl rfl
    | some k => exact .inr (by simp)), H.m.kept hg (by simp), H.below.trans (hb.mono H.below.size), H.og, H.ob⟩
end

/-- bytes written as they are: tokens of at most 128 -/
def runs (L : List Nat) (i : Nat) : Nat → Nat → List Nat
  | 0, _ => []
  | k + 1, p => if p < i then (min 128 (i - p) - 1) :: ((L.drop p).take (min 128 (i - p)) ++ runs L i k (p + min 128 (i - p))) else []
end Go.Proofs.Ytikbbofjkchppaa

