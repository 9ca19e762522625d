/- The walk of the packer's flush. The walk of the packer's flush. The packed text by definition: greedy tokens; what it costs. The unpacker as a machine over bytes; the packed text read by it. The walk of Pack. -/
import Derived.Test.YtlcppkcclolgcaaKBa
import Derived.Test.YtlcppkcclolgcaaOwn
import Derived.Maps.AppendAt
import Derived.Lib.AppendStr
import Derived.Deep.CutRange
import Derived.IntWalk
import Derived.StillTailTactics
import Derived.Test.YtlcppkcclolgcaaWint
import Derived.Deep.DeepCutAuto
namespace Go.Proofs.Ytlcppkcclolgcaa.Pk
set_option maxRecDepth 20000
set_option linter.unusedVariables false
set_option linter.unusedSimpArgs false
open Go.RowKit

/-- a packer, its map and what it has written -/
structure PkS (w0 w : World) (gp b : Nat) (v : Value) (plain n : Nat) (F : List Nat → Option Nat) (out : List Nat) : Prop where
  p : PkRow w gp v plain b
  own : OwnB w w0.heap.size v out
  m : LastMap w b n F
  below : Below w0.heap.size w0 w
  og : w0.heap.size ≤ gp
  ob : w0.heap.size ≤ b
section
variable {w0 w w' : World} {gp b plain n : Nat} {v : Value} {F : List Nat → Option Nat} {out : List Nat}
theorem PkS.vg (H : PkS w0 w gp b v plain n F out) : v.ownBlock ≠ some gp := by
  rcases H.own with ⟨rfl, _⟩ | ⟨g, cap, cur, fz, rfl, _, hg, _⟩
  · simp [Value.ownBlock]
  · intro e
    simp only [Value.ownBlock, Option.some.injEq] at e
    subst e
    have := H.p.row
    rw [hg] at this
    simp at this
theorem PkS.vb (H : PkS w0 w gp b v plain n F out) : v.ownBlock ≠ some b := by
  rcases H.own with ⟨rfl, _⟩ | ⟨g, cap, cur, fz, rfl, _, hg, _⟩
  · simp [Value.ownBlock]
  · intro e
    simp only [Value.ownBlock, Option.some.injEq] at e
    subst e
    obtain ⟨D, ⟨es, clock, hb, _⟩, _⟩ := H.m
    rw [hg] at hb
    simp at hb
theorem PkS.ne (H : PkS w0 w gp b v plain n F out) : gp ≠ b := by
  intro e
  subst e
  obtain ⟨D, ⟨es, clock, hb, _⟩, _⟩ := H.m
  have := H.p.row
  rw [hb] at this
  simp at this
/-- the slice's value and the place of the plain bytes laid anew, behind a step that wrote the slice's block alone -/
theorem PkS.step {w1 : World} {v' : Value} {out' : List Nat} (H : PkS w0 w gp b v plain n F out) (ho : OwnB w1 w0.heap.size v' out') (hg : w.grownBy w1 v.ownBlock) :
    PkS w0 (w1.setCell ⟨gp, 0, none⟩ v') gp b v' plain n F out' := by
  have hvg := H.vg
  have hvb := H.vb
  have hne := H.ne
  have hp1 : PkRow w1 gp v plain b := H.p.far (hg.block _ H.p.lt (fun e => hvg e.symm))
  have hm1 : LastMap w1 b n F := H.m.kept hg (fun e => hvb e.symm)
  have hlt := ho.lt
  have hb1 : Below w0.heap.size w0 w1 := ⟨hg.os.trans H.below.os, hg.tape.trans H.below.tape, hg.output.trans H.below.output, Nat.le_trans H.below.size hg.size, fun k hk => (hg.block k (Nat.lt_of_lt_of_le hk H.below.size) (fun e => by
    have := (H.own.lt k e.symm).1
    omega)).trans (H.below.block k hk)⟩
  have hvg' : v'.ownBlock ≠ some gp := by
    rcases ho with ⟨rfl, _⟩ | ⟨g, cap, cur, fz, rfl, _, hg', _⟩
    · simp [Value.ownBlock]
    · intro e
      simp only [Value.ownBlock, Option.some.injEq] at e
      subst e
      have := hp1.row
      rw [hg'] at this
      simp at this
  have hset : w1.grownBy (w1.setCell ⟨gp, 0, none⟩ v') (some gp) := only_setG (World.grownBy.refl w1 _) 0 _
  refine ⟨⟨?_⟩, ho.kept hset (.inr hvg'), hm1.kept hset (by simp; omega), hb1.setCell (by simpa using H.og) _, H.og, H.ob⟩
  rw [heap_setCell_same w1 gp 0 _ _ _ hp1.row]
  rfl
theorem PkS.moved (H : PkS w0 w gp b v plain n F out) (q : Nat) : PkS w0 (w.setCell ⟨gp, 1, none⟩ (.int .i64 (q : Int))) gp b v q n F out := by
  have hset : w.grownBy (w.setCell ⟨gp, 1, none⟩ (.int .i64 (q : Int))) (some gp) := only_setG (World.grownBy.refl w _) 1 _
  refine ⟨⟨?_⟩, H.own.kept hset (.inr H.vg), H.m.kept hset (by simp; exact fun e => H.ne e.symm), H.below.setCell (by simpa using H.og) _, H.og, H.ob⟩
  rw [heap_setCell_same w gp 1 _ _ _ H.p.row]
  rfl
theorem PkS.later (H : PkS w0 w gp b v plain n F out) (hb : Below w.heap.size w w') : PkS w0 w' gp b v plain n F out :=
  have hg : w.grownBy w' none := only_below (World.grownBy.refl w _) hb
  ⟨H.p.far (hb.block _ H.p.lt), H.own.kept hg (by cases h : v.ownBlock with
    | none => exact .inl rfl
    | some k => exact .inr (by simp)), H.m.kept hg (by simp), H.below.trans (hb.mono H.below.size), H.og, H.ob⟩
end

/-- bytes written as they are: tokens of at most 128 -/
def runs (L : List Nat) (i : Nat) : Nat → Nat → List Nat
  | 0, _ => []
  | k + 1, p => if p < i then (min 128 (i - p) - 1) :: ((L.drop p).take (min 128 (i - p)) ++ runs L i k (p + min 128 (i - p))) else []
end Go.Proofs.Ytlcppkcclolgcaa.Pk

namespace Go.Proofs.Ytlcppkcclolgcaa.Pk
set_option maxRecDepth 20000
set_option linter.unusedVariables false
set_option linter.unusedSimpArgs false
open Go.RowKit

theorem nb_extract (s : ByteArray) (a b : Nat) (h : b ≤ s.size) : nb (s.extract a b) = ((nb s).drop a).take (b - a) := by
  have e : (s.extract a b).data = s.data.extract a b := by simp
  unfold nb
  rw [e, Array.toList_extract, List.map_take, List.map_drop]
theorem runs_fuel (L : List Nat) (i : Nat) : ∀ k k' p, i - p ≤ k → i - p ≤ k' → runs L i k p = runs L i k' p
  | 0, 0, p, _, _ => rfl
  | 0, k' + 1, p, h, _ => by rw [runs, runs, if_neg (by omega)]
  | k + 1, 0, p, _, h => by rw [runs, runs, if_neg (by omega)]
  | k + 1, k' + 1, p, h, h' => by
    rw [runs, runs]
    split
    · rw [runs_fuel L i k k' _ (by omega) (by omega)]
    · rfl
theorem PkS.drew {w0 w : World} {gp b plain n : Nat} {v : Value} {F : List Nat → Option Nat} {out : List Nat} (H : PkS w0 w gp b v plain n F out) : PkS w0 w.drew gp b v plain n F out :=
  H.later (Below.refl _ _).drew

set_option maxRecDepth 100000 in
set_option maxHeartbeats 4000000 in
theorem flush_any (gp b n plain i : Nat) (v : Value) (F : List Nat → Option Nat) (out : List Nat) (s : ByteArray) (w0 w : World) (H : PkS w0 w gp b v plain n F out) (hpi : plain ≤ i) (hi : i ≤ s.size) (hs : s.size ≤ 1048576) (hol : out.length + 2 * (i - plain) ≤ 8000000) :
    Calls Try.prog 35 #[.pointer (some ⟨gp, 0, none⟩), .string s, .int .i64 (i : Int)] w fun e w' => e = .returned (.tuple #[]) ∧ ∃ v', PkS w0 w' gp b v' i n F (out ++ runs (nb s) i (i - plain) plain) := by
  obtain ⟨R, hR⟩ : ∃ R, out ++ runs (nb s) i (i - plain) plain = R := ⟨_, rfl⟩
  rw [hR]
  have HH := Lib.hid H
  have HR := Lib.hid hR
  clear H hR
  go_enter Try.func35, Try.ntmps35
  go_wp2_with fail
  go_loopw [6] (fun _ wr => ∃ v p out' k, PkS w0 wr gp b v p n F out' ∧ p ≤ i ∧ out'.length + 2 * (i - p) ≤ 8000000 ∧ i - p ≤ k ∧ out' ++ runs (nb s) i k p = R) (fun _ wr => i - (intOf ((wr.cell? ⟨gp, 1, none⟩).getD undef)).toNat)
  case atStart => exact ⟨v, plain, out, i - plain, HH.out, hpi, hol, Nat.le_refl _, HR.out⟩
  case round =>
    clear HH HR
    obtain ⟨v', p, out', k, hpk, hpi', hol', hk, hRR⟩ := hrel
    have c1 := hpk.p.cell1
    have C1O := Lib.hid c1
    have HP := Lib.hid hpk
    have HRR := Lib.hid hRR
    clear hpk hRR
    have hp0 : (0 : Int) ≤ p := by omega
    by_cases hlt : p < i
    · obtain ⟨m, hm⟩ : ∃ m, m = min 128 (i - p) := ⟨_, rfl⟩
      have hm1 : 1 ≤ m ∧ m ≤ 128 ∧ p + m ≤ i := by omega
      have hltI : (p : Int) < i := by omega
      have c0 := HP.out.p.cell0
      have f0 := HP.out.p.free 0
      have f1 := HP.out.p.free 1
      go_upto_region 1 with fail
      go_cut [6] from 7 to 59 (fun x6 wx => x6 = .int .i64 (m : Int) ∧ wx = wr)
      case first =>
        by_cases hsm : i - p < 128
        · have hme : (i : Int) - p = (m : Int) := by omega
          have hm0 : (m : Int) < 128 := by omega
          have hm00 : ¬ (128 : Int) ≤ m := by omega
          clear hm hm1
          go_wp2_with fail
          all_goals (go_meet; exact ⟨rfl, rfl⟩)
        · have hme : (m : Int) = 128 := by omega
          have hm0 : (128 : Int) ≤ (i : Int) - p := by omega
          go_wp2_with fail
          all_goals (go_meet; exact ⟨by rw [hme], rfl⟩)
      case rest =>
        obtain ⟨rfl, rfl⟩ := hcut
        have hmI : ((m - 1 : Nat) : Int) = (m : Int) - 1 := by omega
        have hm2 : (1 : Int) ≤ m := by omega
        have hm3 : (m : Int) ≤ 128 := by omega
        have hplen : (p : Int) + m ≤ s.size := by omega
        have hpm0 : (0 : Int) ≤ (p : Int) + m := by omega
        have hppm : (p : Int) ≤ (p : Int) + m := by omega
        have tpm : ((p : Int) + m).toNat = p + m := by omega
        have wm2 : IntKind.u8.wrap ((m : Int) - 1) = (m : Int) - 1 := IntWalk.u8_in _ (by omega)
        have HMM := Lib.hid hm
        have HMI := Lib.hid hmI
        have HPL := Lib.hid tpm
        clear hm hmI tpm
        go_upto_region 2 with fail
        go_cut [] from 7 to 59 (fun wx => ∃ v1, PkS w0 wx gp b v1 p n F (out' ++ [m - 1]))
        case first =>
          have hown := HP.out.own.later ((Below.refl wc.heap.size wc).alloc (Nat.le_refl _) (.cells #[.int .u8 ((m : Int) - 1)] 5))
          have hnew := news_bytes wc [m - 1] 5
          have hcl1 : (cl .u8 [m - 1]).toArray = #[.int .u8 ((m : Int) - 1)] := by simp [cl, HMI.out]
          rw [hcl1] at hnew
          have hbt2 : out'.length + [m - 1].length ≤ 140737488355328 := by simp; omega
          have HNEW := Lib.hid hnew
          have HBT := Lib.hid hbt2
          clear hnew hbt2 hcl1
          have hbs : w0.heap.size ≤ (wc.alloc (.cells #[.int .u8 ((m : Int) - 1)] 5)).heap.size := by
            have := HP.out.below.size
            simp
            omega
          have HOWN := Lib.hid hown
          clear hown
          obtain ⟨A0, k0, hv0⟩ := HP.out.own.slice
          have HV0 := Lib.hid hv0
          rw [hv0] at c0
          clear hv0
          go_wp2_with (at_builtin; refine wpList_app_bytes _ rfl (.tmp 24) (.tmp 28) rfl w0.heap.size _ out' rfl (by rw [← HV0.out]; exact HOWN.out) ⟨wc.heap.size, 0, none⟩ [m - 1] 1 rfl HNEW.out HBT.out hbs ?_; intro v1 w1 ho1 hg1 _; obtain ⟨A1, k1, hv2⟩ := ho1.slice; generalize (out' ++ [m - 1]).length = l1 at hv2; subst hv2; have hga : wc.grownBy w1 v'.ownBlock := (World.grownBy_alloc wc _ v'.ownBlock).trans (by rw [HV0.out]; exact hg1); have hP1 : PkRow w1 gp v' p b := HP.out.p.far (hga.block _ HP.out.p.lt (fun e => HP.out.vg e.symm)); have c01 := hP1.cell0; have f01 := hP1.free 0; have hst : PkS w0 (w1.setCell ⟨gp, 0, none⟩ (.slice A1 l1 k1)) gp b (.slice A1 l1 k1) p n F (out' ++ [m - 1]) := HP.out.step ho1 hga; have HS1 := Lib.hid hst; clear ho1 hg1 hga hP1 hst)
          go_meet
          exact ⟨_, HS1.out⟩
        case rest =>
          obtain ⟨v1, hP1⟩ := hcut
          clear HP c0 f0 f1 c1
          have c0 := hP1.p.cell0
          have c1 := hP1.p.cell1
          have HP := Lib.hid hP1.drew
          have HS := Lib.hid hs
          have hbt : (out' ++ [m - 1]).length + (s.extract p (p + m)).size ≤ 140737488355328 := by
            simp only [List.length_append, ByteArray.size_extract, List.length_cons, List.length_nil]
            omega
          have hxs : (out' ++ [m - 1]) ++ nb (s.extract p (p + m)) = out' ++ (m - 1) :: ((nb s).drop p).take m := by
            rw [nb_extract s p (p + m) (by omega), show p + m - p = m by omega]
            simp
          have hbs : w0.heap.size ≤ wc.drew.heap.size := HP.out.below.size
          have c0d := HP.out.p.cell0
          have f0d := HP.out.p.free 0
          have HXS := Lib.hid hxs
          have HBS := Lib.hid hbs
          have HBT := Lib.hid hbt
          have t1 := HPL.out
          have wpI : IntKind.i64.wrap ((p : Int) + m) = (p : Int) + m := IntWalk.i64_in _ (by omega)
          clear hxs hbs hbt hP1
          go_upto_region 3 with fail
          go_cut [] from 7 to 59 (fun wx => ∃ v2, PkS w0 wx gp b v2 p n F (out' ++ (m - 1) :: ((nb s).drop p).take m))
          case first =>
            refine wp_region_noPanic ?_
            refine wp_region_held_drew (S := fun w' => w'.cell? ⟨gp, 1, none⟩ = some (.int .i64 (p : Int))) (by kernel_rfl) c1 (fun hHeld => ?_)
            refine wpAnyH_take (i := 0) (oi := _) (v := (.pointer (some ⟨gp, 0, none⟩))) rfl (by kernel_rfl) (by kernel_rfl) (by kernel_rfl) (fun _ _ _ h => h) (Or.inl ⟨by rfl, fun w' _ => by go_simp⟩) hHeld ?_
            try simp only [Act.put, List.getElem_toArray, List.getElem_cons_succ, List.getElem_cons_zero, List.setIfInBounds_toArray, List.set_cons_zero, List.set_cons_succ]
            refine wpAnyH_take (i := 1) (oi := _) (v := (.pointer (some ⟨gp, 0, none⟩))) rfl (by kernel_rfl) (by kernel_rfl) (by kernel_rfl) (fun _ _ _ h => h) (Or.inl ⟨by rfl, fun w' _ => by go_simp⟩) hHeld ?_
            try simp only [Act.put, List.getElem_toArray, List.getElem_cons_succ, List.getElem_cons_zero, List.setIfInBounds_toArray, List.set_cons_zero, List.set_cons_succ]
            refine wpAnyH_take (i := 2) (oi := _) (v := (.pointer (some ⟨gp, 0, none⟩))) rfl (by kernel_rfl) (by kernel_rfl) (by kernel_rfl) (fun _ _ _ h => h) (Or.inl ⟨by rfl, fun w' _ => by go_simp⟩) hHeld ?_
            try simp only [Act.put, List.getElem_toArray, List.getElem_cons_succ, List.getElem_cons_zero, List.setIfInBounds_toArray, List.set_cons_zero, List.set_cons_succ]
            refine wpAnyH_take (i := 3) (oi := _) (v := (.pointer (some ⟨gp, 0, none⟩))) rfl (by kernel_rfl) (by kernel_rfl) (by kernel_rfl) (fun _ _ _ h => h) (Or.inl ⟨by rfl, fun w' _ => by go_simp⟩) hHeld ?_
            try simp only [Act.put, List.getElem_toArray, List.getElem_cons_succ, List.getElem_cons_zero, List.setIfInBounds_toArray, List.set_cons_zero, List.set_cons_succ]
            refine wpAnyH_take (i := 5) (oi := _) (v := (.string s)) rfl (by kernel_rfl) (by kernel_rfl) (by kernel_rfl) (fun _ _ _ h => h) (Or.inl ⟨by rfl, fun w' _ => by go_simp⟩) hHeld ?_
            try simp only [Act.put, List.getElem_toArray, List.getElem_cons_succ, List.getElem_cons_zero, List.setIfInBounds_toArray, List.set_cons_zero, List.set_cons_succ]
            refine wpAnyH_take (i := 6) (oi := _) (v := (.pointer (some ⟨gp, 0, none⟩))) rfl (by kernel_rfl) (by kernel_rfl) (by kernel_rfl) (fun _ _ _ h => h) (Or.inl ⟨by rfl, fun w' _ => by go_simp⟩) hHeld ?_
            try simp only [Act.put, List.getElem_toArray, List.getElem_cons_succ, List.getElem_cons_zero, List.setIfInBounds_toArray, List.set_cons_zero, List.set_cons_succ]
            refine wpAnyH_take (i := 7) (oi := _) (v := (.pointer (some ⟨gp, 0, none⟩))) rfl (by kernel_rfl) (by kernel_rfl) (by kernel_rfl) (fun _ _ _ h => h) (Or.inl ⟨by rfl, fun w' _ => by go_simp⟩) hHeld ?_
            try simp only [Act.put, List.getElem_toArray, List.getElem_cons_succ, List.getElem_cons_zero, List.setIfInBounds_toArray, List.set_cons_zero, List.set_cons_succ]
            refine wpAnyH_take (i := 8) (oi := _) (v := (.pointer (some ⟨gp, 1, none⟩))) rfl (by kernel_rfl) (by kernel_rfl) (by kernel_rfl) (fun _ _ _ h => h) (Or.inl ⟨by rfl, fun w' _ => by go_simp⟩) hHeld ?_
            try simp only [Act.put, List.getElem_toArray, List.getElem_cons_succ, List.getElem_cons_zero, List.setIfInBounds_toArray, List.set_cons_zero, List.set_cons_succ]
            refine wpAnyH_take (i := 9) (oi := _) (v := (.int .i64 (p : Int))) rfl (by kernel_rfl) (by kernel_rfl) (by kernel_rfl) (fun _ _ _ h => h) (Or.inl ⟨by rfl, fun w' hSw => by go_simp⟩) hHeld ?_
            try simp only [Act.put, List.getElem_toArray, List.getElem_cons_succ, List.getElem_cons_zero, List.setIfInBounds_toArray, List.set_cons_zero, List.set_cons_succ]
            refine wpAnyH_take (i := 10) (oi := _) (v := (.pointer (some ⟨gp, 0, none⟩))) rfl (by kernel_rfl) (by kernel_rfl) (by kernel_rfl) (fun _ _ _ h => h) (Or.inl ⟨by rfl, fun w' _ => by go_simp⟩) hHeld ?_
            try simp only [Act.put, List.getElem_toArray, List.getElem_cons_succ, List.getElem_cons_zero, List.setIfInBounds_toArray, List.set_cons_zero, List.set_cons_succ]
            refine wpAnyH_take (i := 11) (oi := _) (v := (.pointer (some ⟨gp, 0, none⟩))) rfl (by kernel_rfl) (by kernel_rfl) (by kernel_rfl) (fun _ _ _ h => h) (Or.inl ⟨by rfl, fun w' _ => by go_simp⟩) hHeld ?_
            try simp only [Act.put, List.getElem_toArray, List.getElem_cons_succ, List.getElem_cons_zero, List.setIfInBounds_toArray, List.set_cons_zero, List.set_cons_succ]
            refine wpAnyH_take (i := 12) (oi := _) (v := (.pointer (some ⟨gp, 1, none⟩))) rfl (by kernel_rfl) (by kernel_rfl) (by kernel_rfl) (fun _ _ _ h => h) (Or.inl ⟨by rfl, fun w' _ => by go_simp⟩) hHeld ?_
            try simp only [Act.put, List.getElem_toArray, List.getElem_cons_succ, List.getElem_cons_zero, List.setIfInBounds_toArray, List.set_cons_zero, List.set_cons_succ]
            refine wpAnyH_take (i := 13) (oi := _) (v := (.int .i64 (p : Int))) rfl (by kernel_rfl) (by kernel_rfl) (by kernel_rfl) (fun _ _ _ h => h) (Or.inl ⟨by rfl, fun w' hSw => by go_simp⟩) hHeld ?_
            try simp only [Act.put, List.getElem_toArray, List.getElem_cons_succ, List.getElem_cons_zero, List.setIfInBounds_toArray, List.set_cons_zero, List.set_cons_succ]
            refine wpAnyH_take (i := 14) (oi := _) (v := (.int .i64 (m : Int))) rfl (by kernel_rfl) (by kernel_rfl) (by kernel_rfl) (fun _ _ _ h => h) (Or.inl ⟨by rfl, fun w' _ => by go_simp⟩) hHeld ?_
            try simp only [Act.put, List.getElem_toArray, List.getElem_cons_succ, List.getElem_cons_zero, List.setIfInBounds_toArray, List.set_cons_zero, List.set_cons_succ]
            refine wpAnyH_take (i := 15) (oi := _) (v := (.int .i64 ((p : Int) + m))) rfl (by kernel_rfl) (by kernel_rfl) (by kernel_rfl) (fun _ _ _ h => h) (Or.inl ⟨by rfl, fun w' _ => by go_simp⟩) hHeld ?_
            try simp only [Act.put, List.getElem_toArray, List.getElem_cons_succ, List.getElem_cons_zero, List.setIfInBounds_toArray, List.set_cons_zero, List.set_cons_succ]
            refine wpAnyH_take (i := 16) (oi := _) (v := (.string (s.extract p (p + m)))) rfl (by kernel_rfl) (by kernel_rfl) (by kernel_rfl) (fun _ _ _ h => h) (Or.inl ⟨by rfl, fun w' _ => by go_simp⟩) hHeld ?_
            try simp only [Act.put, List.getElem_toArray, List.getElem_cons_succ, List.getElem_cons_zero, List.setIfInBounds_toArray, List.set_cons_zero, List.set_cons_succ]
            refine wpAnyH_ready (rs := [4]) (by kernel_rfl) (by simp) ?_
            refine AllReadyH.cons (o := _) rfl (fun K hK => ?_) AllReadyH.nil
            rw [if_pos (by rfl)]
            go_simp
            refine hK.out _ _ hHeld (fun hHeld => ?_)
            clear hK K
            try dsimp only
            try simp only [Act.put, List.getElem_toArray, List.getElem_cons_succ, List.getElem_cons_zero, List.setIfInBounds_toArray, List.set_cons_zero, List.set_cons_succ]
            refine wpAnyH_ready (rs := [17]) (by kernel_rfl) (by simp) ?_
            refine AllReadyH.cons (o := _) rfl (fun K hK => ?_) AllReadyH.nil
            rw [if_pos (by rfl)]
            refine wp_app_string _ (.tmp 36) (.tmp 48) (by rfl) w0.heap.size v1 _ (by rfl) HP.out.own (s.extract p (p + m)) (by rfl) HBT.out HBS.out ?_
            intro v2 w1 ho1 hg1
            rw [HXS.out] at ho1
            obtain ⟨A1, k1, hv2⟩ := ho1.slice
            generalize (out' ++ (m - 1) :: ((nb s).drop p).take m).length = l1 at hv2
            subst hv2
            have hP1 : PkRow w1 gp v1 p b := HP.out.p.far (hg1.block _ HP.out.p.lt (fun e => HP.out.vg e.symm))
            have c01 := hP1.cell0
            have c11 := hP1.cell1
            have f01 := hP1.free 0
            have hst := HP.out.step ho1 hg1
            have HS1 := Lib.hid hst
            clear ho1 hg1 hP1 hst
            refine hK.out _ _ c11 (fun hHeld => ?_)
            clear hK K
            try dsimp only
            try simp only [Act.put, List.getElem_toArray, List.getElem_cons_succ, List.getElem_cons_zero, List.setIfInBounds_toArray, List.set_cons_zero, List.set_cons_succ]
            refine wpAnyH_take (i := 18) (oi := _) (v := (.pointer (some ⟨gp, 0, none⟩))) rfl (by kernel_rfl) (by kernel_rfl) (by kernel_rfl) (fun _ _ _ h => h) (Or.inl ⟨by rfl, fun w' _ => by go_simp⟩) hHeld ?_
            try simp only [Act.put, List.getElem_toArray, List.getElem_cons_succ, List.getElem_cons_zero, List.setIfInBounds_toArray, List.set_cons_zero, List.set_cons_succ]
            refine wpAnyH_take (i := 19) (oi := _) (v := (.pointer (some ⟨gp, 0, none⟩))) rfl (by kernel_rfl) (by kernel_rfl) (by kernel_rfl) (fun _ _ _ h => h) (Or.inl ⟨by rfl, fun w' _ => by go_simp⟩) hHeld ?_
            try simp only [Act.put, List.getElem_toArray, List.getElem_cons_succ, List.getElem_cons_zero, List.setIfInBounds_toArray, List.set_cons_zero, List.set_cons_succ]
            refine wpAnyH_ready (rs := [20]) (by kernel_rfl) (by simp) ?_
            refine AllReadyH.cons (o := _) rfl (fun K hK => ?_) AllReadyH.nil
            rw [if_pos (by rfl)]
            go_simp
            refine hK.out _ _ HS1.out.p.cell1 (fun hHeld => ?_)
            clear hK K
            try dsimp only
            try simp only [Act.put, List.getElem_toArray, List.getElem_cons_succ, List.getElem_cons_zero, List.setIfInBounds_toArray, List.set_cons_zero, List.set_cons_succ]
            refine wpAnyH_done (by kernel_rfl) ?_ _
            refine NoPanic.normal ?_
            go_wp2_with fail
            go_meet
            exact ⟨_, HS1.out⟩
          case rest =>
            obtain ⟨v2, hP2⟩ := hcut
            clear HP HXS HBS HBT c0 c1 c0d f0d
            have c1 := hP2.p.cell1
            have f1 := hP2.p.free 1
            have HP := Lib.hid hP2
            clear hP2
            have hst : ∀ (q : Nat), PkS w0 (wc.setCell ⟨gp, 1, none⟩ (.int .i64 (q : Int))) gp b v2 q n F (out' ++ (m - 1) :: ((nb s).drop p).take m) := fun q => HP.out.moved q
            have hst2 := hst (p + m)
            rw [Int.natCast_add] at hst2
            have HS2 := Lib.hid hst2
            have hrr : (out' ++ (m - 1) :: ((nb s).drop p).take m) ++ runs (nb s) i (i - (p + m)) (p + m) = R := by
              have h1 := HRR.out
              rw [← h1]
              obtain ⟨k, rfl⟩ : ∃ k', k = k' + 1 := ⟨k - 1, by omega⟩
              rw [runs, if_pos hlt, ← HMM.out]
              simp only [List.append_assoc, List.cons_append]
              congr 3
              exact runs_fuel _ _ _ _ _ (by omega) (by omega)
            have hlen : (out' ++ (m - 1) :: ((nb s).drop p).take m).length + 2 * (i - (p + m)) ≤ 8000000 := by
              simp only [List.length_append, List.length_cons, List.length_take, List.length_drop, nb_length]
              omega
            have HRR2 := Lib.hid hrr
            have HLEN := Lib.hid hlen
            have hcell : ((wc.setCell ⟨gp, 1, none⟩ (.int .i64 ((p : Int) + m))).cell? ⟨gp, 1, none⟩) = some (.int .i64 ((p + m : Nat) : Int)) := (hst (p + m)).p.cell1
            have HCELL := Lib.hid hcell
            have hold := c1
            have HPM := Lib.hid hm1
            clear hst hst2 hrr hlen hcell
            go_wp2_with fail
            go_roundw
            case rel => exact ⟨v2, p + m, _, i - (p + m), HS2.out, hm1.2.2, HLEN.out, Nat.le_refl _, HRR2.out⟩
            case measure =>
              have h1 := HCELL.out
              have h2 := C1O.out
              rw [h2]
              first | rw [h1] | (simp only [h1])
              simp only [Option.getD_some, intOf]
              have h3 := HPM.out
              omega
    · have hpe : p = i := by omega
      subst hpe
      have hz : ∀ k, runs (nb s) p k p = [] := by intro k; cases k <;> simp [runs]
      have hd : ¬ (p : Int) < p := by omega
      go_wp2_with fail
      go_end0
      have := HRR.out
      rw [hz, List.append_nil] at this
      rw [← this]
      exact ⟨rfl, _, HP.out⟩
end Go.Proofs.Ytlcppkcclolgcaa.Pk

namespace Go.Proofs.Ytlcppkcclolgcaa.Pk
set_option maxRecDepth 20000
set_option linter.unusedVariables false
set_option linter.unusedSimpArgs false

/-- the last place ahead of i where these four bytes stand -/
def lastW (L : List Nat) : Nat → List Nat → Option Nat
  | 0, _ => none
  | j + 1, ws => if j + 4 ≤ L.length then (if ws = win L j then some j else lastW L j ws) else lastW L j ws
theorem noted_lastW (s : ByteArray) (i : Nat) : noted s i (lastW (nb s) i) = lastW (nb s) (i + 1) := by
  funext x
  unfold noted
  show _ = if i + 4 ≤ (nb s).length then (if x = win (nb s) i then some i else lastW (nb s) i x) else lastW (nb s) i x
  rw [nb_length]
  split <;> rfl
theorem lastW_some {L : List Nat} : ∀ {i : Nat} {ws : List Nat} {c : Nat}, lastW L i ws = some c → c < i ∧ c + 4 ≤ L.length ∧ ws = win L c
  | 0, _, _, h => by simp [lastW] at h
  | j + 1, ws, c, h => by
    rw [lastW] at h
    split at h
    · split at h
      · rename_i h1 h2
        injection h with h
        subst h
        exact ⟨by omega, h1, h2⟩
      · have := lastW_some h
        exact ⟨by omega, this.2⟩
    · have := lastW_some h
      exact ⟨by omega, this.2⟩
/-- a window that stands at c is found at c or later -/
theorem lastW_from {L : List Nat} {ws : List Nat} {c : Nat} (h4 : c + 4 ≤ L.length) (hw : ws = win L c) : ∀ {i : Nat}, c < i → ∃ d, lastW L i ws = some d ∧ c ≤ d
  | 0, h => by omega
  | j + 1, h => by
    rw [lastW]
    by_cases h1 : j + 4 ≤ L.length
    · rw [if_pos h1]
      by_cases h2 : ws = win L j
      · rw [if_pos h2]
        exact ⟨j, rfl, by omega⟩
      · rw [if_neg h2]
        by_cases hj : c = j
        · subst hj
          exact absurd hw h2
        · exact lastW_from h4 hw (by omega)
    · rw [if_neg h1]
      exact lastW_from h4 hw (by omega)

/-- the tokens from place i on; the bytes from p on are still to be written -/
def packG (L : List Nat) : Nat → Nat → Nat → List Nat
  | 0, _, p => runs L L.length (L.length - p) p
  | k + 1, i, p =>
    if i < L.length then
      if (backP L i (lastW L i)).1 = 0 then packG L k (i + 1) p
      else runs L i (i - p) p ++ ((124 + (backP L i (lastW L i)).1) :: ((backP L i (lastW L i)).2 - 1) % 256 :: ((backP L i (lastW L i)).2 - 1) / 256 % 256 :: packG L k (i + (backP L i (lastW L i)).1) (i + (backP L i (lastW L i)).1))
    else runs L L.length (L.length - p) p
/-- the packed text -/
def packL (L : List Nat) : List Nat := le8 L.length ++ packG L L.length 0 0

theorem mrun_bd (L : List Nat) (c i : Nat) : ∀ k n, n ≤ mrun L c i k n ∧ mrun L c i k n ≤ n + k ∧ (i + n ≤ L.length → i + mrun L c i k n ≤ L.length) ∧ ∀ j, n ≤ j → j < mrun L c i k n → L.getD (c + j) 0 = L.getD (i + j) 0
  | 0, n => ⟨Nat.le_refl _, Nat.le_refl _, fun h => h, fun j h1 h2 => by simp only [mrun] at h2; omega⟩
  | k + 1, n => by
    rw [mrun]
    by_cases h : i + n < L.length ∧ L.getD (c + n) 0 = L.getD (i + n) 0
    · rw [if_pos h]
      obtain ⟨a, b, d, e⟩ := mrun_bd L c i k (n + 1)
      refine ⟨by omega, by omega, fun _ => d (by omega), fun j h1 h2 => ?_⟩
      by_cases hj : j = n
      · subst hj; exact h.2
      · exact e j (by omega) h2
    · rw [if_neg h]
      exact ⟨Nat.le_refl _, by omega, fun h => h, fun j h1 h2 => by omega⟩

/-- what back says is so -/
theorem backP_ok (L : List Nat) (i : Nat) (h : (backP L i (lastW L i)).1 ≠ 0) : ∃ n far, backP L i (lastW L i) = (n, far) ∧ 4 ≤ n ∧ n ≤ 131 ∧ i + n ≤ L.length ∧ 1 ≤ far ∧ far ≤ i ∧ far ≤ 65536 ∧ ∀ j, j < n → L.getD (i - far + j) 0 = L.getD (i + j) 0 := by
  unfold backP at h ⊢
  by_cases h4 : i + 4 ≤ L.length
  · rw [if_pos h4] at h ⊢
    cases hF : lastW L i (win L i) with
    | none => rw [hF] at h; exact absurd rfl h
    | some c =>
      rw [hF] at h
      simp only at h ⊢
      by_cases hf : 65536 < i - c
      · rw [if_pos hf] at h; exact absurd rfl h
      · rw [if_neg hf]
        obtain ⟨hc, hc4, hw⟩ := lastW_some hF
        obtain ⟨b1, b2, b3, b4⟩ := mrun_bd L c i 127 4
        refine ⟨_, _, rfl, b1, by omega, b3 h4, by omega, by omega, by omega, fun j hj => ?_⟩
        rw [show i - (i - c) = c by omega]
        by_cases hj4 : 4 ≤ j
        · exact b4 j hj4 hj
        · simp only [win, List.cons.injEq, and_true] at hw
          obtain ⟨w0, w1, w2, w3⟩ := hw
          rcases (by omega : j = 0 ∨ j = 1 ∨ j = 2 ∨ j = 3) with rfl | rfl | rfl | rfl
          · exact w0.symm
          · exact w1.symm
          · exact w2.symm
          · exact w3.symm
  · rw [if_neg h4] at h; exact absurd rfl h
theorem backP_late (L : List Nat) (i : Nat) (F : List Nat → Option Nat) (h : L.length < i + 4) : (backP L i F).1 = 0 := by
  unfold backP
  rw [if_neg (by omega)]

/-- the room of a run of m bytes -/
def rc (m : Nat) : Nat := m + (m + 127) / 128
theorem runs_length (L : List Nat) (i : Nat) (hi : i ≤ L.length) : ∀ k p, i - p ≤ k → (runs L i k p).length = rc (i - p)
  | 0, p, h => by rw [show i - p = 0 by omega]; rfl
  | k + 1, p, h => by
    rw [runs]
    by_cases hp : p < i
    · rw [if_pos hp]
      simp only [List.length_cons, List.length_append, List.length_take, List.length_drop]
      rw [runs_length L i hi k _ (by omega)]
      unfold rc
      omega
    · rw [if_neg hp, show i - p = 0 by omega]
      rfl
theorem runs_bytes (L : List Nat) (hL : Bytes L) (i : Nat) : ∀ k p, Bytes (runs L i k p)
  | 0, p => by intro x hx; simp [runs] at hx
  | k + 1, p => by
    rw [runs]
    split
    · intro x hx
      simp only [List.mem_cons, List.mem_append] at hx
      rcases hx with h | h | h
      · omega
      · exact hL x (List.mem_of_mem_drop (List.mem_of_mem_take h))
      · exact runs_bytes L hL i k _ x h
    · intro x hx; simp at hx
theorem packG_bytes (L : List Nat) (hL : Bytes L) : ∀ k i p, Bytes (packG L k i p)
  | 0, i, p => runs_bytes L hL _ _ _
  | k + 1, i, p => by
    rw [packG]
    split
    · split
      · exact packG_bytes L hL k _ _
      · rename_i h
        obtain ⟨n, far, e, h4, h131, hin, hf1, hfi, hf, hsame⟩ := backP_ok L i h
        rw [e]
        intro x hx
        simp only [List.mem_cons, List.mem_append] at hx
        rcases hx with h | h | h | h | h
        · exact runs_bytes L hL _ _ _ x h
        · omega
        · omega
        · omega
        · exact packG_bytes L hL k _ _ x h
    · exact runs_bytes L hL _ _ _
/-- whatever the text: no more than its own room and one byte for each 128 -/
theorem packG_room (L : List Nat) : ∀ k i p, p ≤ i → i ≤ L.length → (packG L k i p).length ≤ rc (L.length - p)
  | 0, i, p, hp, hi => by rw [packG, runs_length L _ (Nat.le_refl _) _ _ (Nat.le_refl _)]; exact Nat.le_refl _
  | k + 1, i, p, hp, hi => by
    rw [packG]
    by_cases h : i < L.length
    · rw [if_pos h]
      by_cases hb : (backP L i (lastW L i)).1 = 0
      · rw [if_pos hb]
        exact packG_room L k (i + 1) p (by omega) (by omega)
      · rw [if_neg hb]
        obtain ⟨n, far, e, h4, h131, hin, hf1, hfi, hf, hsame⟩ := backP_ok L i hb
        rw [e]
        simp only [List.length_cons, List.length_append]
        have := packG_room L k (i + n) (i + n) (Nat.le_refl _) hin
        rw [runs_length L i hi _ _ (Nat.le_refl _)]
        unfold rc at *
        omega
    · rw [if_neg h, runs_length L _ (Nat.le_refl _) _ _ (Nat.le_refl _)]
      exact Nat.le_refl _
theorem le8_length (n : Nat) : (le8 n).length = 8 := fl8_length n 8
theorem packL_room (L : List Nat) : (packL L).length ≤ 8 + L.length + (L.length + 127) / 128 := by
  have := packG_room L L.length 0 0 (Nat.le_refl _) (Nat.zero_le _)
  rw [packL, List.length_append, le8_length]
  unfold rc at this
  simp only [Nat.sub_zero] at this
  omega
theorem packL_bytes (L : List Nat) (hL : Bytes L) : Bytes (packL L) := by
  intro x hx
  rw [packL, List.mem_append] at hx
  rcases hx with h | h
  · exact fl8_bytes _ 8 x h
  · exact packG_bytes L hL _ _ _ x h

theorem packG_late (L : List Nat) : ∀ k i p, L.length < i + 4 → p ≤ L.length → (packG L k i p).length = rc (L.length - p)
  | 0, i, p, h, hp => by rw [packG, runs_length _ _ (Nat.le_refl _) _ _ (Nat.le_refl _)]
  | k + 1, i, p, h, hp => by
    rw [packG]
    split
    · rw [if_pos (backP_late _ _ _ h)]
      exact packG_late L k _ _ (by omega) hp
    · rw [runs_length _ _ (Nat.le_refl _) _ _ (Nat.le_refl _)]

/-! ### one byte, however often -/
theorem rep_getD (n b j : Nat) (h : j < n) : (List.replicate n b).getD j 0 = b := by simp [List.getD_eq_getElem?_getD, h]
theorem rep_win (n b j : Nat) (h : j + 4 ≤ n) : win (List.replicate n b) j = [b, b, b, b] := by
  rw [win, rep_getD n b j (by omega), rep_getD n b _ (by omega), rep_getD n b _ (by omega), rep_getD n b _ (by omega)]
theorem rep_mrun (n b c i : Nat) (hc : c ≤ i) : ∀ k m, i + m ≤ n → mrun (List.replicate n b) c i k m = min (m + k) (n - i)
  | 0, m, h => by simp only [mrun]; omega
  | k + 1, m, h => by
    rw [mrun]
    by_cases h1 : i + m < n
    · rw [if_pos ⟨by rw [List.length_replicate]; exact h1, by rw [rep_getD n b _ (by omega), rep_getD n b _ (by omega)]⟩, rep_mrun n b c i hc k (m + 1) (by omega)]
      omega
    · rw [if_neg (by rw [List.length_replicate]; omega)]
      omega
theorem rep_back (n b i : Nat) (h1 : 1 ≤ i) (h4 : i + 4 ≤ n) : (backP (List.replicate n b) i (lastW (List.replicate n b) i)).1 = min 131 (n - i) := by
  have hl : lastW (List.replicate n b) i (win (List.replicate n b) i) = some (i - 1) := by
    obtain ⟨j, rfl⟩ : ∃ j, i = j + 1 := ⟨i - 1, by omega⟩
    rw [lastW, if_pos (by rw [List.length_replicate]; omega), if_pos (by rw [rep_win n b _ h4, rep_win n b _ (by omega)])]
    rfl
  unfold backP
  rw [if_pos (by rw [List.length_replicate]; exact h4), hl]
  simp only
  rw [if_neg (by omega), rep_mrun n b _ _ (by omega) _ _ h4]
theorem rep_room (n b : Nat) : ∀ k i, 1 ≤ i → i ≤ n → n - i ≤ k → (packG (List.replicate n b) k i i).length ≤ 3 * ((n - i) / 131) + 4
  | 0, i, h1, hi, hk => by
    rw [packG, runs_length _ _ (Nat.le_refl _) _ _ (Nat.le_refl _), List.length_replicate]
    unfold rc
    omega
  | k + 1, i, h1, hi, hk => by
    rw [packG, List.length_replicate]
    by_cases h : i < n
    · rw [if_pos h]
      by_cases h4 : i + 4 ≤ n
      · have hb := rep_back n b i h1 h4
        rw [if_neg (by omega), hb]
        simp only [List.length_cons, List.length_append]
        have := rep_room n b k (i + min 131 (n - i)) (by omega) (by omega) (by omega)
        rw [runs_length _ i (by rw [List.length_replicate]; exact hi) _ _ (Nat.le_refl _)]
        unfold rc
        by_cases h5 : 131 ≤ n - i
        · rw [Nat.min_eq_left h5] at this ⊢
          omega
        · rw [Nat.min_eq_right (by omega)] at this ⊢
          rw [packG_late _ k _ _ (by rw [List.length_replicate]; omega) (by rw [List.length_replicate]; omega), List.length_replicate, show n - (i + (n - i)) = 0 by omega]
          unfold rc
          omega
      · have late : ∀ k j, i ≤ j → (packG (List.replicate n b) k j i).length = rc (n - i) := by
          intro k
          induction k with
          | zero => intro j _; rw [packG, runs_length _ _ (Nat.le_refl _) _ _ (Nat.le_refl _), List.length_replicate]
          | succ k ih =>
            intro j hj
            rw [packG]
            split
            · rw [if_pos (backP_late _ _ _ (by rw [List.length_replicate]; omega))]
              exact ih _ (by omega)
            · rw [runs_length _ _ (Nat.le_refl _) _ _ (Nat.le_refl _), List.length_replicate]
        rw [if_pos (backP_late _ _ _ (by rw [List.length_replicate]; omega)), late k (i + 1) (by omega)]
        unfold rc
        omega
    · rw [if_neg h, runs_length _ _ (by rw [List.length_replicate]; exact Nat.le_refl _) _ _ (Nat.le_refl _)]
      unfold rc
      omega
theorem packL_same (n b : Nat) (h1 : 0 < n) : (packL (List.replicate n b)).length ≤ 14 + 3 * ((n - 1) / 131) := by
  rw [packL, List.length_append, le8_length, List.length_replicate]
  by_cases h5 : 5 ≤ n
  · obtain ⟨k, rfl⟩ : ∃ k, n = k + 2 := ⟨n - 2, by omega⟩
    rw [packG, List.length_replicate, if_pos (by omega), if_pos (by simp [backP, lastW])]
    rw [packG, List.length_replicate, if_pos (by omega), rep_back _ _ 1 (by omega) (by omega), if_neg (by omega)]
    simp only [List.length_cons, List.length_append, Nat.zero_add]
    have := rep_room (k + 2) b k (1 + min 131 (k + 2 - 1)) (by omega) (by omega) (by omega)
    rw [runs_length _ 1 (by rw [List.length_replicate]; omega) _ _ (Nat.le_refl _)]
    unfold rc
    by_cases h6 : 131 ≤ k + 1
    · rw [Nat.min_eq_left (by omega)] at this ⊢
      omega
    · rw [Nat.min_eq_right (by omega)] at this ⊢
      have h0 : (packG (List.replicate (k + 2) b) k (1 + (k + 2 - 1)) (1 + (k + 2 - 1))).length = 0 := by
        rw [packG_late _ _ _ _ (by rw [List.length_replicate]; omega) (by rw [List.length_replicate]; omega), List.length_replicate, show k + 2 - (1 + (k + 2 - 1)) = 0 by omega]
        rfl
      omega
  · have := packG_room (List.replicate n b) n 0 0 (Nat.le_refl _) (Nat.zero_le _)
    rw [List.length_replicate] at this
    unfold rc at this
    omega

/-! ### a text twice -/
theorem getD_twice (S : List Nat) (j : Nat) (h : j < S.length) : (S ++ S).getD j 0 = S.getD j 0 := by
  simp [List.getD_eq_getElem?_getD, List.getElem?_append_left h]
theorem getD_twice2 (S : List Nat) (j : Nat) : (S ++ S).getD (S.length + j) 0 = S.getD j 0 := by
  simp [List.getD_eq_getElem?_getD, List.getElem?_append_right]
theorem win_twice (S : List Nat) (j : Nat) (h : j + 4 ≤ S.length) : win (S ++ S) j = win S j := by
  rw [win, win, getD_twice S _ (by omega), getD_twice S _ (by omega), getD_twice S _ (by omega), getD_twice S _ (by omega)]
theorem lastW_twice (S : List Nat) (ws : List Nat) : ∀ i, i + 3 ≤ S.length → lastW (S ++ S) i ws = lastW S i ws
  | 0, h => rfl
  | j + 1, h => by
    rw [lastW, lastW, if_pos (show j + 4 ≤ (S ++ S).length by rw [List.length_append]; omega), if_pos (show j + 4 ≤ S.length by omega), win_twice S j (by omega), lastW_twice S ws j (by omega)]
theorem mrun_twice (S : List Nat) (c i : Nat) (hc : c < i) : ∀ k n, i + n ≤ S.length → mrun (S ++ S) c i k n = mrun S c i k n ∨ (i + mrun S c i k n = S.length ∧ S.length ≤ i + mrun (S ++ S) c i k n)
  | 0, n, h => .inl rfl
  | k + 1, n, h => by
    by_cases h1 : i + n < S.length
    · rw [mrun, mrun, getD_twice S _ (by omega), getD_twice S _ h1, List.length_append]
      by_cases h2 : S.getD (c + n) 0 = S.getD (i + n) 0
      · rw [if_pos ⟨by omega, h2⟩, if_pos ⟨h1, h2⟩]
        exact mrun_twice S c i hc k (n + 1) (by omega)
      · rw [if_neg (fun e => h2 e.2), if_neg (fun e => h2 e.2)]
        exact .inl rfl
    · refine .inr ⟨?_, ?_⟩
      · rw [mrun, if_neg (fun e => h1 e.1)]
        omega
      · have := (mrun_bd (S ++ S) c i (k + 1) n).1
        omega
/-- behind the middle something is always found -/
theorem back_twice (S : List Nat) (hS : S.length ≤ 65536) (j : Nat) (h1 : S.length ≤ j) (h4 : j + 4 ≤ 2 * S.length) : (backP (S ++ S) j (lastW (S ++ S) j)).1 ≠ 0 := by
  have hw : win (S ++ S) j = win (S ++ S) (j - S.length) := by
    obtain ⟨q, rfl⟩ : ∃ q, j = S.length + q := ⟨j - S.length, by omega⟩
    rw [win, Nat.add_assoc, Nat.add_assoc, Nat.add_assoc, getD_twice2, getD_twice2, getD_twice2, getD_twice2, show S.length + q - S.length = q by omega, win_twice S q (by omega)]
    rfl
  obtain ⟨d, hd, hdj⟩ := lastW_from (L := S ++ S) (c := j - S.length) (by rw [List.length_append]; omega) hw (i := j) (by omega)
  have hd2 := (lastW_some hd).1
  unfold backP
  rw [if_pos (by rw [List.length_append]; omega), hd]
  simp only
  rw [if_neg (by omega)]
  have := (mrun_bd (S ++ S) d j 127 4).1
  simp only
  omega
theorem rc_mono {a b : Nat} (h : a ≤ b) : rc a ≤ rc b := by unfold rc; omega
theorem twice_tail (S : List Nat) (hS : S.length ≤ 65536) : ∀ k j p, S.length ≤ j → p ≤ j → j ≤ 2 * S.length → 2 * S.length - j ≤ k → (packG (S ++ S) k j p).length ≤ rc (j - p) + 3 * ((2 * S.length - j) / 4) + 4
  | k, j, p, h1, hp, hj, hk => by
    have hlen : (S ++ S).length = 2 * S.length := by rw [List.length_append]; omega
    by_cases h4 : j + 4 ≤ 2 * S.length
    · obtain ⟨k, rfl⟩ : ∃ k', k = k' + 1 := ⟨k - 1, by omega⟩
      have hb := back_twice S hS j h1 h4
      obtain ⟨n, far, e, hn4, h131, hin, hf1, hfi, hf, hsame⟩ := backP_ok (S ++ S) j hb
      rw [packG, if_pos (by omega), if_neg hb, e]
      simp only [List.length_cons, List.length_append]
      rw [hlen] at hin
      have := twice_tail S hS k (j + n) (j + n) (by omega) (Nat.le_refl _) (by omega) (by omega)
      rw [runs_length _ j (by omega) _ _ (Nat.le_refl _)]
      rw [Nat.sub_self] at this
      have r0 : rc 0 = 0 := rfl
      omega
    · rw [packG_late _ _ _ _ (by omega) (by omega), hlen]
      unfold rc
      omega
  termination_by k => k
theorem twice_mid (S : List Nat) (hS : S.length ≤ 65536) : ∀ d k i p, S.length - i = d → S.length ≤ i + 3 → p ≤ i → i ≤ S.length → 2 * S.length - i ≤ k → (packG (S ++ S) k i p).length ≤ rc (S.length - p) + 3 * (S.length / 4) + 7
  | d, k, i, p, hd, h3, hp, hi, hk => by
    have hlen : (S ++ S).length = 2 * S.length := by rw [List.length_append]; omega
    by_cases he : i = S.length
    · have := twice_tail S hS k i p (by omega) hp (by omega) hk
      rw [show 2 * S.length - i = S.length by omega, he] at this
      rw [he]
      omega
    · obtain ⟨k, rfl⟩ : ∃ k', k = k' + 1 := ⟨k - 1, by omega⟩
      rw [packG, if_pos (by omega)]
      by_cases hb : (backP (S ++ S) i (lastW (S ++ S) i)).1 = 0
      · rw [if_pos hb]
        obtain ⟨d, rfl⟩ : ∃ d', d = d' + 1 := ⟨d - 1, by omega⟩
        exact twice_mid S hS d k (i + 1) p (by omega) (by omega) (by omega) (by omega) (by omega)
      · rw [if_neg hb]
        obtain ⟨n, far, e, hn4, h131, hin, hf1, hfi, hf, hsame⟩ := backP_ok (S ++ S) i hb
        rw [e]
        rw [hlen] at hin
        simp only [List.length_cons, List.length_append]
        have := twice_tail S hS k (i + n) (i + n) (by omega) (Nat.le_refl _) (by omega) (by omega)
        rw [runs_length _ i (by omega) _ _ (Nat.le_refl _)]
        rw [Nat.sub_self] at this
        have r0 : rc 0 = 0 := rfl
        have r1 := rc_mono (show i - p ≤ S.length - p by omega)
        omega
  termination_by d => d
theorem twice_all (S : List Nat) (hS : S.length ≤ 65536) : ∀ k m i p, p ≤ i → i ≤ S.length → S.length - i ≤ k → 2 * S.length - i ≤ m → (packG (S ++ S) m i p).length ≤ (packG S k i p).length + 3 * (S.length / 4) + 7
  | k, m, i, p, hp, hi, hk, hm => by
    have hlen : (S ++ S).length = 2 * S.length := by rw [List.length_append]; omega
    by_cases h4 : i + 4 ≤ S.length
    · obtain ⟨k, rfl⟩ : ∃ k', k = k' + 1 := ⟨k - 1, by omega⟩
      obtain ⟨m, rfl⟩ : ∃ m', m = m' + 1 := ⟨m - 1, by omega⟩
      have hw := win_twice S i h4
      have hF := lastW_twice S (win S i) i (by omega)
      have hcases : ((backP (S ++ S) i (lastW (S ++ S) i)).1 = 0 ∧ (backP S i (lastW S i)).1 = 0) ∨ ∃ n n' far, backP S i (lastW S i) = (n, far) ∧ backP (S ++ S) i (lastW (S ++ S) i) = (n', far) ∧ 4 ≤ n ∧ 4 ≤ n' ∧ (n' = n ∨ (i + n = S.length ∧ S.length ≤ i + n')) := by
        unfold backP
        rw [if_pos (by omega), if_pos h4, hw, hF]
        cases hl : lastW S i (win S i) with
        | none => exact .inl ⟨rfl, rfl⟩
        | some c =>
          simp only
          by_cases hf : 65536 < i - c
          · rw [if_pos hf, if_pos hf]
            exact .inl ⟨rfl, rfl⟩
          · rw [if_neg hf, if_neg hf]
            refine .inr ⟨_, _, _, rfl, rfl, (mrun_bd S c i 127 4).1, (mrun_bd (S ++ S) c i 127 4).1, mrun_twice S c i (lastW_some hl).1 127 4 h4⟩
      rw [packG, packG, if_pos (show i < (S ++ S).length by omega), if_pos (show i < S.length by omega)]
      rcases hcases with ⟨h1, h2⟩ | ⟨n, n', far, e, e', hn, hn', hq⟩
      · rw [if_pos h1, if_pos h2]
        exact twice_all S hS k m (i + 1) p (by omega) (by omega) (by omega) (by omega)
      · have h1 : (backP S i (lastW S i)).1 ≠ 0 := by rw [e]; simp; omega
        have h2 : (backP (S ++ S) i (lastW (S ++ S) i)).1 ≠ 0 := by rw [e']; simp; omega
        rw [if_neg h1, if_neg h2]
        obtain ⟨_, _, ee, _, h131, hin, _⟩ := backP_ok S i h1
        obtain ⟨_, _, ee', _, h131', hin', _⟩ := backP_ok (S ++ S) i h2
        rw [e] at ee
        rw [e'] at ee'
        simp only [Prod.mk.injEq] at ee ee'
        obtain ⟨rfl, rfl⟩ := ee
        obtain ⟨rfl, _⟩ := ee'
        rw [e, e']
        simp only [List.length_cons, List.length_append]
        rw [runs_length _ i (by omega) _ _ (Nat.le_refl _), runs_length _ i (by omega) _ _ (Nat.le_refl _)]
        rcases hq with rfl | ⟨hq1, hq2⟩
        · have := twice_all S hS k m (i + n') (i + n') (Nat.le_refl _) hin (by omega) (by omega)
          omega
        · have := twice_tail S hS m (i + n') (i + n') hq2 (Nat.le_refl _) (by omega) (by omega)
          rw [Nat.sub_self] at this
          have r0 : rc 0 = 0 := rfl
          omega
    · have h := twice_mid S hS _ m i p rfl (by omega) hp hi hm
      rw [packG_late S k i p (by omega) (by omega)]
      omega
  termination_by k => k
theorem packL_twice (S : List Nat) (hS : S.length ≤ 65536) : (packL (S ++ S)).length ≤ (packL S).length + 14 + 3 * (S.length / 4) := by
  have := twice_all S hS S.length (S ++ S).length 0 0 (Nat.le_refl _) (Nat.zero_le _) (by omega) (by rw [List.length_append]; omega)
  simp only [packL, List.length_append, le8_length] at this ⊢
  omega
end Go.Proofs.Ytlcppkcclolgcaa.Pk

namespace Go.Proofs.Ytlcppkcclolgcaa.Pk
set_option maxRecDepth 20000
set_option linter.unusedVariables false
set_option linter.unusedSimpArgs false

/-- where an unpacker stands -/
structure US where
  taken : Nat
  code : Nat
  at_ : Nat
  shut : Bool
  size : Nat
  head : Nat
  out : List Nat
  start : Nat
  token : List Nat
  plain : Nat
def US.new : US := ⟨0, 0, 0, false, 0, 0, [], 0, [], 0⟩
def US.fail (u : US) (c a : Nat) : US := { u with code := c, at_ := a }
/-- bytes copied from far back -/
def copyOut (far : Nat) : Nat → List Nat → List Nat
  | 0, out => out
  | k + 1, out => copyOut far k (out ++ [out.getD (out.length - far) 0])
/-- how far back a token points -/
def farOf (t : List Nat) : Nat := t.getD 1 0 + t.getD 2 0 * 256 + 1
def US.copy (u : US) : US × Bool :=
  if u.out.length < farOf u.token then (u.fail 100 u.start, false)
  else ({ u with out := copyOut (farOf u.token) (u.token.getD 0 0 - 124) u.out, token := [] }, true)
/-- the bytes that a token begun by c stands for -/
def lenOf (c : Nat) : Nat := if 128 ≤ c then c - 124 else c + 1
def US.begin (u : US) (c : Nat) : US × Bool :=
  if u.size - u.out.length < lenOf c then (({ u with start := u.taken }).fail 101 u.taken, false)
  else if 128 ≤ c then ({ u with start := u.taken, token := u.token ++ [c] }, true)
  else ({ u with start := u.taken, plain := lenOf c }, true)
/-- one byte -/
def US.take (u : US) (c : Nat) : US × Bool :=
  if u.head < 8 then
    if u.head = 7 ∧ 1048576 < u.size + c * 2 ^ (8 * u.head) then (({ u with size := u.size + c * 2 ^ (8 * u.head) }).fail 2 0, false)
    else ({ u with size := u.size + c * 2 ^ (8 * u.head), head := u.head + 1 }, true)
  else if 0 < u.plain then ({ u with out := u.out ++ [c], plain := u.plain - 1 }, true)
  else if 0 < u.token.length then
    if u.token.length + 1 = 3 then ({ u with token := u.token ++ [c] }).copy
    else ({ u with token := u.token ++ [c] }, true)
  else if u.out.length = u.size then (u.fail 5 u.taken, false)
  else u.begin c
def US.one (u : US) (c : Nat) : US :=
  if u.shut = true ∨ u.code ≠ 0 then u
  else if (u.take c).2 = true then { (u.take c).1 with taken := u.taken + 1 } else (u.take c).1
def US.feed (u : US) (bs : List Nat) : US := bs.foldl US.one u
def US.whole (u : US) : Bool := u.head == 8 && u.out.length == u.size
def US.close (u : US) : US :=
  if u.shut = false ∧ u.whole = false ∧ u.code = 0 then { u.fail 4 u.taken with shut := true } else { u with shut := true }

theorem feed_append (u : US) (a b : List Nat) : u.feed (a ++ b) = (u.feed a).feed b := by simp [US.feed]
theorem feed_cons (u : US) (c : Nat) (b : List Nat) : u.feed (c :: b) = (u.one c).feed b := rfl
theorem feed_nil (u : US) : u.feed [] = u := rfl
theorem one_stop (u : US) (c : Nat) (h : u.shut = true ∨ u.code ≠ 0) : u.one c = u := by unfold US.one; rw [if_pos h]
theorem feed_stop (u : US) (h : u.shut = true ∨ u.code ≠ 0) : ∀ bs, u.feed bs = u
  | [] => rfl
  | c :: r => by rw [feed_cons, one_stop u c h, feed_stop u h r]
theorem one_go (u : US) (c : Nat) (h1 : u.shut = false) (h2 : u.code = 0) : u.one c = if (u.take c).2 = true then { (u.take c).1 with taken := u.taken + 1 } else (u.take c).1 := by
  unfold US.one
  rw [if_neg (by simp [h1, h2])]

/-- an unpacker that has read p of the text's bytes and stands ahead of a token -/
def At (L : List Nat) (u : US) (p : Nat) : Prop := u.shut = false ∧ u.code = 0 ∧ u.head = 8 ∧ u.size = L.length ∧ u.out = L.take p ∧ u.token = [] ∧ u.plain = 0
theorem at_out {L : List Nat} {u : US} {p : Nat} (h : At L u p) (hp : p ≤ L.length) : u.out.length = p := by rw [h.2.2.2.2.1, List.length_take]; omega

theorem feed_plain : ∀ (xs : List Nat) (u : US) (q : Nat), u.shut = false → u.code = 0 → u.head = 8 → u.plain = xs.length + q →
    u.feed xs = { u with out := u.out ++ xs, plain := q, taken := u.taken + xs.length }
  | [], u, q, h1, h2, h3, h4 => by
    obtain ⟨_, _, _, _, _, _, _, _, _, _⟩ := u
    simp only [List.length_nil, Nat.zero_add] at h4
    subst h4
    simp [feed_nil]
  | x :: xs, u, q, h1, h2, h3, h4 => by
    simp only [List.length_cons] at h4
    have ht : u.take x = ({ u with out := u.out ++ [x], plain := u.plain - 1 }, true) := by
      unfold US.take
      rw [if_neg (by omega), if_pos (by omega)]
    rw [feed_cons, one_go u x h1 h2, ht]
    simp only [if_true]
    refine (feed_plain xs { u with out := u.out ++ [x], plain := u.plain - 1, taken := u.taken + 1 } q h1 h2 h3 (by simp only; omega)).trans ?_
    simp only [List.append_assoc, List.cons_append, List.nil_append, List.length_cons]
    congr 1
    omega
theorem lenOf_lo {c : Nat} (h : c < 128) : lenOf c = c + 1 := by unfold lenOf; rw [if_neg (by omega)]
theorem lenOf_hi {c : Nat} (h : 128 ≤ c) : lenOf c = c - 124 := by unfold lenOf; rw [if_pos h]
theorem begin_plain (L : List Nat) (u : US) (p : Nat) (h : At L u p) (c : Nat) (hc : c < 128) (hp : p + c + 1 ≤ L.length) : u.one c = { u with start := u.taken, plain := c + 1, taken := u.taken + 1 } := by
  have hl := at_out h (by omega)
  obtain ⟨h1, h2, h3, h4, h5, h6, h7⟩ := h
  have ht : u.take c = ({ u with start := u.taken, plain := c + 1 }, true) := by
    unfold US.take
    rw [if_neg (by omega), if_neg (by omega), if_neg (by rw [h6]; simp), if_neg (by omega)]
    unfold US.begin
    rw [lenOf_lo hc, if_neg (by omega), if_neg (by omega)]
  rw [one_go u c h1 h2, ht]
  rfl
theorem feed_runs (L : List Nat) (i : Nat) (hi : i ≤ L.length) : ∀ k u p, At L u p → p ≤ i → i - p ≤ k → At L (u.feed (runs L i k p)) i ∧ (u.feed (runs L i k p)).taken = u.taken + (runs L i k p).length
  | 0, u, p, h, hp, hk => by
    obtain rfl : p = i := by omega
    exact ⟨h, rfl⟩
  | k + 1, u, p, h, hp, hk => by
    rw [runs]
    by_cases hlt : p < i
    · rw [if_pos hlt]
      obtain ⟨m, hm⟩ : ∃ m, m = min 128 (i - p) := ⟨_, rfl⟩
      rw [← hm]
      have hb := begin_plain L u p h (m - 1) (by omega) (by omega)
      have hlen : ((L.drop p).take m).length = m := by rw [List.length_take, List.length_drop]; omega
      rw [feed_cons, feed_append, hb]
      obtain ⟨h1, h2, h3, h4, h5, h6, h7⟩ := h
      have hfp := feed_plain ((L.drop p).take m) { u with start := u.taken, plain := m - 1 + 1, taken := u.taken + 1 } 0 h1 h2 h3 (by simp only; rw [hlen]; omega)
      have hout : u.out ++ (L.drop p).take m = L.take (p + m) := by rw [h5, List.take_add]
      simp only [hout] at hfp
      have hfp2 : US.feed { u with start := u.taken, plain := m - 1 + 1, taken := u.taken + 1 } ((L.drop p).take m) = _ := hfp
      rw [hfp2]
      obtain ⟨a, b⟩ := feed_runs L i hi k { { u with start := u.taken, plain := m - 1 + 1, taken := u.taken + 1 } with out := L.take (p + m), plain := 0, taken := u.taken + 1 + ((L.drop p).take m).length } (p + m) ⟨h1, h2, h3, h4, rfl, h6, rfl⟩ (by omega) (by omega)
      refine ⟨a, b.trans ?_⟩
      simp only [List.length_cons, List.length_append]
      omega
    · rw [if_neg hlt]
      obtain rfl : p = i := by omega
      exact ⟨h, rfl⟩
theorem copyOut_take (L : List Nat) (i far : Nat) (h1 : 1 ≤ far) (hfi : far ≤ i) : ∀ k j, i + j + k ≤ L.length → (∀ q, q < j + k → L.getD (i - far + q) 0 = L.getD (i + q) 0) → copyOut far k (L.take (i + j)) = L.take (i + j + k)
  | 0, j, h, hs => rfl
  | k + 1, j, h, hs => by
    rw [copyOut]
    have hl : (L.take (i + j)).length = i + j := by rw [List.length_take]; omega
    have hg : (L.take (i + j)).getD (i + j - far) 0 = L.getD (i + j) 0 := by
      rw [← hs j (by omega), show i - far + j = i + j - far by omega]
      simp [List.getD_eq_getElem?_getD, List.getElem?_take, show i + j - far < i + j by omega]
    have ht : L.take (i + j) ++ [L.getD (i + j) 0] = L.take (i + (j + 1)) := by
      rw [show i + (j + 1) = (i + j) + 1 by omega, List.take_succ_eq_append_getElem (by omega)]
      simp [List.getD_eq_getElem?_getD, show i + j < L.length by omega]
    rw [hl, hg, ht, copyOut_take L i far h1 hfi k (j + 1) (by omega) (fun q hq => hs q (by omega)), show i + (j + 1) + k = i + j + (k + 1) by omega]
theorem feed_match (L : List Nat) (u : US) (i n far : Nat) (h : At L u i) (h4 : 4 ≤ n) (h131 : n ≤ 131) (hin : i + n ≤ L.length) (hf1 : 1 ≤ far) (hfi : far ≤ i) (hf : far ≤ 65536) (hs : ∀ j, j < n → L.getD (i - far + j) 0 = L.getD (i + j) 0) (r : List Nat) :
    ∃ u', u.feed ((124 + n) :: (far - 1) % 256 :: (far - 1) / 256 % 256 :: r) = u'.feed r ∧ At L u' (i + n) ∧ u'.taken = u.taken + 3 := by
  have hl := at_out h (by omega)
  obtain ⟨h1, h2, h3, h4', h5, h6, h7⟩ := h
  have t1 : u.take (124 + n) = ({ u with start := u.taken, token := [124 + n] }, true) := by
    unfold US.take
    rw [if_neg (by omega), if_neg (by omega), if_neg (by rw [h6]; simp), if_neg (by omega)]
    unfold US.begin
    rw [lenOf_hi (by omega), if_neg (by omega), if_pos (by omega), h6]
    rfl
  rw [feed_cons, feed_cons, feed_cons, one_go u _ h1 h2, t1]
  simp only [if_true]
  obtain ⟨u1, hu1⟩ : ∃ u1 : US, u1 = { u with start := u.taken, token := [124 + n], taken := u.taken + 1 } := ⟨_, rfl⟩
  have t2 : u1.take ((far - 1) % 256) = ({ u1 with token := [124 + n, (far - 1) % 256] }, true) := by
    unfold US.take
    rw [hu1]
    simp only
    rw [if_neg (by omega), if_neg (by omega), if_pos (by simp), if_neg (by simp)]
    rfl
  have e1 : (US.mk (u.taken + 1) u.code u.at_ u.shut u.size u.head u.out u.taken [124 + n] u.plain) = u1 := hu1.symm
  rw [e1, one_go u1 _ (by rw [hu1]; exact h1) (by rw [hu1]; exact h2), t2]
  simp only [if_true]
  obtain ⟨u2, hu2⟩ : ∃ u2 : US, u2 = { u1 with token := [124 + n, (far - 1) % 256], taken := u1.taken + 1 } := ⟨_, rfl⟩
  have e2 : (US.mk (u1.taken + 1) u1.code u1.at_ u1.shut u1.size u1.head u1.out u1.start [124 + n, (far - 1) % 256] u1.plain) = u2 := hu2.symm
  have hfar : farOf [124 + n, (far - 1) % 256, (far - 1) / 256 % 256] = far := by
    show (far - 1) % 256 + (far - 1) / 256 % 256 * 256 + 1 = far
    omega
  have t3 : u2.take ((far - 1) / 256 % 256) = ({ u2 with out := L.take (i + n), token := [] }, true) := by
    have b1 : u2.head = 8 := by rw [hu2, hu1]; exact h3
    have b2 : u2.plain = 0 := by rw [hu2, hu1]; exact h7
    have b3 : u2.token = [124 + n, (far - 1) % 256] := by rw [hu2]
    have b4 : u2.out = L.take i := by rw [hu2, hu1]; exact h5
    unfold US.take
    rw [if_neg (by omega), if_neg (by omega), if_pos (by rw [b3]; simp), if_pos (by rw [b3]; rfl)]
    unfold US.copy
    simp only [b3, b4, List.cons_append, List.nil_append, hfar]
    rw [if_neg (by rw [List.length_take]; omega)]
    have := copyOut_take L i far hf1 hfi n 0 (by omega) (fun q hq => hs q (by omega))
    rw [Nat.add_zero] at this
    rw [show ([124 + n, (far - 1) % 256, (far - 1) / 256 % 256] : List Nat).getD 0 0 - 124 = n by simp, this]
  rw [e2, one_go u2 _ (by rw [hu2, hu1]; exact h1) (by rw [hu2, hu1]; exact h2), t3]
  simp only [if_true]
  refine ⟨_, rfl, ⟨?_, ?_, ?_, ?_, rfl, rfl, ?_⟩, ?_⟩
  · show u2.shut = false
    rw [hu2, hu1]; exact h1
  · show u2.code = 0
    rw [hu2, hu1]; exact h2
  · show u2.head = 8
    rw [hu2, hu1]; exact h3
  · show u2.size = _
    rw [hu2, hu1]; exact h4'
  · show u2.plain = 0
    rw [hu2, hu1]; exact h7
  · show u2.taken + 1 = _
    rw [hu2, hu1]
theorem feed_packG (L : List Nat) : ∀ k i p u, At L u p → p ≤ i → i ≤ L.length → At L (u.feed (packG L k i p)) L.length ∧ (u.feed (packG L k i p)).taken = u.taken + (packG L k i p).length
  | 0, i, p, u, h, hp, hi => feed_runs L _ (Nat.le_refl _) _ u p h (by omega) (Nat.le_refl _)
  | k + 1, i, p, u, h, hp, hi => by
    rw [packG]
    by_cases hlt : i < L.length
    · rw [if_pos hlt]
      by_cases hb : (backP L i (lastW L i)).1 = 0
      · rw [if_pos hb]
        exact feed_packG L k (i + 1) p u h (by omega) (by omega)
      · rw [if_neg hb]
        obtain ⟨n, far, e, h4, h131, hin, hf1, hfi, hf, hsame⟩ := backP_ok L i hb
        rw [e]
        simp only
        obtain ⟨a, b⟩ := feed_runs L i hi (i - p) u p h hp (Nat.le_refl _)
        rw [feed_append]
        obtain ⟨u', e1, a', b'⟩ := feed_match L _ i n far a h4 h131 hin hf1 hfi hf hsame (packG L k (i + n) (i + n))
        rw [e1]
        obtain ⟨a2, b2⟩ := feed_packG L k (i + n) (i + n) u' a' (Nat.le_refl _) hin
        refine ⟨a2, ?_⟩
        rw [b2, b', b]
        simp only [List.length_cons, List.length_append]
        omega
    · rw [if_neg hlt]
      exact feed_runs L _ (Nat.le_refl _) _ u p h (by omega) (Nat.le_refl _)
/-- the head's bytes -/
theorem le8_eq (n : Nat) : le8 n = [n % 256, n / 256 % 256, n / 65536 % 256, n / 16777216 % 256, n / 4294967296 % 256, n / 1099511627776 % 256, n / 281474976710656 % 256, n / 72057594037927936 % 256] := by
  simp [le8, fl8]
def hd (s h : Nat) : US := ⟨h, 0, 0, false, s, h, [], 0, [], 0⟩
theorem hd_one (s h c s' : Nat) (h3 : h < 8) (h4 : s + c * 2 ^ (8 * h) ≤ 1048576) (e : s' = s + c * 2 ^ (8 * h)) : (hd s h).one c = hd s' (h + 1) := by
  have ht : (hd s h).take c = ({ hd s h with size := s + c * 2 ^ (8 * h), head := h + 1 }, true) := by
    unfold US.take
    rw [if_pos (show (hd s h).head < 8 from h3), if_neg (show ¬((hd s h).head = 7 ∧ 1048576 < (hd s h).size + c * 2 ^ (8 * (hd s h).head)) from fun q => by have := q.2; simp only [hd] at this; omega)]
    rfl
  rw [one_go (hd s h) c rfl rfl, ht, e]
  rfl
theorem feed_le8 (n : Nat) (hn : n ≤ 1048576) : US.new.feed (le8 n) = hd n 8 := by
  have z3 : n / 16777216 % 256 = 0 := by omega
  have z4 : n / 4294967296 % 256 = 0 := by omega
  have z5 : n / 1099511627776 % 256 = 0 := by omega
  have z6 : n / 281474976710656 % 256 = 0 := by omega
  have z7 : n / 72057594037927936 % 256 = 0 := by omega
  have hs : n % 256 + n / 256 % 256 * 256 + n / 65536 % 256 * 65536 = n := by omega
  rw [le8_eq, z3, z4, z5, z6, z7]
  simp only [feed_cons, feed_nil]
  rw [show US.new = hd 0 0 from rfl, hd_one 0 0 (n % 256) (n % 256) (by omega) (by omega) (by omega)]
  rw [hd_one _ 1 (n / 256 % 256) (n % 256 + n / 256 % 256 * 256) (by omega) (by omega) (by omega)]
  rw [hd_one _ 2 (n / 65536 % 256) n (by omega) (by omega) (by omega)]
  rw [hd_one n 3 0 n (by omega) (by omega) (by omega), hd_one n 4 0 n (by omega) (by omega) (by omega), hd_one n 5 0 n (by omega) (by omega) (by omega), hd_one n 6 0 n (by omega) (by omega) (by omega), hd_one n 7 0 n (by omega) (by omega) (by omega)]
theorem feed_packL (L : List Nat) (hL : L.length ≤ 1048576) : At L (US.new.feed (packL L)) L.length ∧ (US.new.feed (packL L)).taken = (packL L).length := by
  rw [packL, feed_append, feed_le8 _ hL]
  obtain ⟨a, b⟩ := feed_packG L L.length 0 0 (hd L.length 8) ⟨rfl, rfl, rfl, rfl, rfl, rfl, rfl⟩ (Nat.le_refl _) (Nat.zero_le _)
  refine ⟨a, b.trans ?_⟩
  rw [List.length_append, le8_length]
  rfl
theorem at_whole {L : List Nat} {u : US} (h : At L u L.length) : u.whole = true ∧ u.out = L := by
  obtain ⟨h1, h2, h3, h4, h5, h6, h7⟩ := h
  rw [List.take_length] at h5
  refine ⟨?_, h5⟩
  unfold US.whole
  rw [h3, h5, h4]
  simp
/-- a byte behind the end -/
theorem at_trail {L : List Nat} {u : US} (h : At L u L.length) (c : Nat) : u.one c = u.fail 5 u.taken := by
  have hl := at_out h (Nat.le_refl _)
  obtain ⟨h1, h2, h3, h4, h5, h6, h7⟩ := h
  have ht : u.take c = (u.fail 5 u.taken, false) := by
    unfold US.take
    rw [if_neg (by omega), if_neg (by omega), if_neg (by rw [h6]; simp), if_pos (by omega)]
  rw [one_go u c h1 h2, ht]
  rfl

/-! ### what holds of an unpacker that has found no fault -/
structure Fine (u : US) : Prop where
  early : u.head ≤ 8
  pre : u.head < 8 → u.out = [] ∧ u.plain = 0 ∧ u.token = [] ∧ u.size < 2 ^ (8 * u.head)
  size : u.head = 8 → u.size ≤ 1048576
  room : u.head = 8 → u.out.length + u.plain ≤ u.size
  tok : u.token.length < 3
  tokb : Bytes u.token
  tokp : u.token ≠ [] → u.plain = 0 ∧ 128 ≤ u.token.getD 0 0 ∧ u.out.length + (u.token.getD 0 0 - 124) ≤ u.size
  taken : u.taken < 9223372036854775808 → True
theorem copyOut_length (far : Nat) : ∀ k out, (copyOut far k out).length = out.length + k
  | 0, out => rfl
  | k + 1, out => by
    rw [copyOut, copyOut_length far k, List.length_append]
    simp
    omega
theorem fine_new : Fine US.new := ⟨by decide, fun _ => ⟨rfl, rfl, rfl, by decide⟩, fun h => by simp [US.new] at h, fun h => by simp [US.new] at h, by simp [US.new], fun x hx => by simp [US.new] at hx, fun h => by simp [US.new] at h, fun _ => trivial⟩
/-- a byte taken keeps it; a byte not taken is a fault -/
theorem fine_take (u : US) (h : Fine u) (c : Nat) (hc : c < 256) (h2 : u.code = 0) : ((u.take c).2 = true → Fine (u.take c).1 ∧ (u.take c).1.code = 0) ∧ ((u.take c).2 = false → (u.take c).1.code ≠ 0 ∧ (u.take c).1.taken = u.taken ∧ (u.take c).1.head ≤ 8) ∧ (u.take c).1.shut = u.shut := by
  obtain ⟨e1, e2, e3, e4, e5, e6, e7, _⟩ := h
  unfold US.take
  by_cases hh : u.head < 8
  · rw [if_pos hh]
    obtain ⟨p1, p2, p3, p4⟩ := e2 hh
    by_cases hb : u.head = 7 ∧ 1048576 < u.size + c * 2 ^ (8 * u.head)
    · rw [if_pos hb]
      exact ⟨fun h => by simp at h, fun _ => ⟨by simp [US.fail], rfl, e1⟩, rfl⟩
    · rw [if_neg hb]
      refine ⟨fun _ => ⟨⟨by simp only; omega, fun h => ⟨p1, p2, p3, ?_⟩, fun h => ?_, fun h => ?_, e5, e6, fun h => absurd p3 h, fun _ => trivial⟩, h2⟩, fun h => by simp at h, rfl⟩
      · simp only
        rw [show 8 * (u.head + 1) = 8 * u.head + 8 by omega, Nat.pow_add]
        have : c * 2 ^ (8 * u.head) ≤ 255 * 2 ^ (8 * u.head) := Nat.mul_le_mul_right _ (by omega)
        omega
      · simp only at h ⊢
        omega
      · simp only [p1, p2]
        simp
  · rw [if_neg hh]
    have hh8 : u.head = 8 := by omega
    have hr := e4 hh8
    by_cases hp : 0 < u.plain
    · rw [if_pos hp]
      refine ⟨fun _ => ⟨⟨e1, fun h => absurd h hh, e3, fun h => ?_, e5, e6, fun h => ?_, fun _ => trivial⟩, h2⟩, fun h => by simp at h, rfl⟩
      · simp only [List.length_append, List.length_cons, List.length_nil]
        omega
      · have := (e7 h).1
        omega
    · rw [if_neg hp]
      by_cases ht : 0 < u.token.length
      · rw [if_pos ht]
        obtain ⟨t1, t2, t3⟩ := e7 (by intro h; rw [h] at ht; simp at ht)
        have hg : (u.token ++ [c]).getD 0 0 = u.token.getD 0 0 := by
          obtain ⟨t, r, htr⟩ : ∃ t r, u.token = t :: r := by
            cases h : u.token with
            | nil => rw [h] at ht; simp at ht
            | cons t r => exact ⟨t, r, rfl⟩
          rw [htr]
          rfl
        by_cases h3 : u.token.length + 1 = 3
        · rw [if_pos h3]
          unfold US.copy
          simp only
          split
          · exact ⟨fun h => by simp at h, fun _ => ⟨by simp [US.fail], rfl, e1⟩, rfl⟩
          · refine ⟨fun _ => ⟨⟨e1, fun h => absurd h hh, e3, fun h => ?_, by simp, fun x hx => by simp at hx, fun h => by simp at h, fun _ => trivial⟩, h2⟩, fun h => by simp at h, rfl⟩
            simp only [copyOut_length, hg]
            omega
        · rw [if_neg h3]
          refine ⟨fun _ => ⟨⟨e1, fun h => absurd h hh, e3, fun h => hr, ?_, ?_, fun h => ?_, fun _ => trivial⟩, h2⟩, fun h => by simp at h, rfl⟩
          · simp only [List.length_append, List.length_cons, List.length_nil]
            omega
          · intro x hx
            simp only [List.mem_append, List.mem_cons, List.not_mem_nil, or_false] at hx
            rcases hx with hx | hx
            · exact e6 x hx
            · omega
          · simp only [hg]
            exact ⟨t1, t2, t3⟩
      · rw [if_neg ht]
        have htn : u.token = [] := List.eq_nil_of_length_eq_zero (by omega)
        by_cases hs : u.out.length = u.size
        · rw [if_pos hs]
          exact ⟨fun h => by simp at h, fun _ => ⟨by simp [US.fail], rfl, e1⟩, rfl⟩
        · rw [if_neg hs]
          unfold US.begin
          by_cases hn : u.size - u.out.length < lenOf c
          · rw [if_pos hn]
            exact ⟨fun h => by simp at h, fun _ => ⟨by simp [US.fail], rfl, e1⟩, rfl⟩
          · rw [if_neg hn]
            unfold lenOf at hn ⊢
            by_cases hc8 : 128 ≤ c
            · rw [if_pos hc8] at hn ⊢
              refine ⟨fun _ => ⟨⟨e1, fun h => absurd h hh, e3, fun h => hr, ?_, ?_, fun h => ?_, fun _ => trivial⟩, h2⟩, fun h => by simp at h, rfl⟩
              · simp [htn]
              · intro x hx
                simp [htn] at hx
                omega
              · simp [htn]
                omega
            · rw [if_neg hc8] at hn
              rw [if_neg hc8, if_neg hc8]
              refine ⟨fun _ => ⟨⟨e1, fun h => absurd h hh, e3, fun h => ?_, e5, e6, fun h => absurd htn h, fun _ => trivial⟩, h2⟩, fun h => by simp at h, rfl⟩
              simp only
              omega
theorem fine_one (u : US) (h : u.code = 0 → Fine u) (c : Nat) (hc : c < 256) : ((u.one c).code = 0 → Fine (u.one c)) ∧ (u.one c).shut = u.shut ∧ u.taken ≤ (u.one c).taken ∧ (u.one c).taken ≤ u.taken + 1 ∧ ((u.one c).code = 0 → u.code = 0) := by
  by_cases hs : u.shut = true ∨ u.code ≠ 0
  · rw [one_stop u c hs]
    exact ⟨h, rfl, Nat.le_refl _, by omega, fun h => h⟩
  · have h1 : u.shut = false := by simpa using fun e => hs (.inl e)
    have h2 : u.code = 0 := by
      by_cases e : u.code = 0
      · exact e
      · exact absurd (.inr e) hs
    have hf := fine_take u (h h2) c hc h2
    rw [one_go u c h1 h2]
    by_cases hb : (u.take c).2 = true
    · rw [if_pos hb]
      obtain ⟨f, fc⟩ := hf.1 hb
      obtain ⟨e1, e2, e3, e4, e5, e6, e7, _⟩ := f
      exact ⟨fun _ => ⟨e1, e2, e3, e4, e5, e6, e7, fun _ => trivial⟩, hf.2.2, by simp only; omega, Nat.le_refl _, fun _ => h2⟩
    · rw [if_neg hb]
      obtain ⟨f, ft, _⟩ := hf.2.1 (by simpa using hb)
      exact ⟨fun e => absurd e f, hf.2.2, by omega, by omega, fun e => absurd e f⟩
theorem fine_feed : ∀ (bs : List Nat) (u : US), (u.code = 0 → Fine u) → Bytes bs → ((u.feed bs).code = 0 → Fine (u.feed bs)) ∧ (u.feed bs).shut = u.shut ∧ u.taken ≤ (u.feed bs).taken ∧ (u.feed bs).taken ≤ u.taken + bs.length ∧ ((u.feed bs).code = 0 → u.code = 0)
  | [], u, h, hb => ⟨h, rfl, Nat.le_refl _, by simp [feed_nil], fun h => h⟩
  | c :: r, u, h, hb => by
    obtain ⟨a1, a2, a3, a4, a5⟩ := fine_one u h c (hb c (by simp))
    obtain ⟨b1, b2, b3, b4, b5⟩ := fine_feed r (u.one c) a1 (fun x hx => hb x (by simp [hx]))
    rw [feed_cons]
    refine ⟨b1, b2.trans a2, by omega, by simp only [List.length_cons]; omega, fun e => a5 (b5 e)⟩
/-- a whole text is whole at its end alone -/
theorem whole_end (u : US) (h : Fine u) (hs : u.shut = false) (hc : u.code = 0) (hw : u.whole = true) (c : Nat) : (u.one c).code ≠ 0 := by
  unfold US.whole at hw
  simp only [Bool.and_eq_true, beq_iff_eq] at hw
  obtain ⟨w1, w2⟩ := hw
  have hp : u.plain = 0 := by have := h.room w1; omega
  have ht : u.token = [] := by
    by_cases e : u.token = []
    · exact e
    · have := (h.tokp e).2
      omega
  have htk : u.take c = (u.fail 5 u.taken, false) := by
    unfold US.take
    rw [if_neg (by omega), if_neg (by omega), if_neg (by rw [ht]; simp), if_pos w2]
  rw [one_go u c hs hc, htk]
  simp [US.fail]
/-- every proper beginning of a packed text ends too early -/
theorem packL_short (L : List Nat) (hL : L.length ≤ 1048576) (hb : Bytes L) (cut : Nat) (hcut : cut < (packL L).length) : (US.new.feed ((packL L).take cut)).code = 0 ∧ (US.new.feed ((packL L).take cut)).whole = false ∧ (US.new.feed ((packL L).take cut)).taken = cut := by
  obtain ⟨a, b⟩ := feed_packL L hL
  have hPb := packL_bytes L hb
  obtain ⟨P, hP⟩ : ∃ P, P = packL L := ⟨_, rfl⟩
  rw [← hP] at a b hcut hPb ⊢
  have e : P = P.take cut ++ P.drop cut := (List.take_append_drop _ _).symm
  have hB1 : Bytes (P.take cut) := fun x hx => hPb x (List.mem_of_mem_take hx)
  have hB2 : Bytes (P.drop cut) := fun x hx => hPb x (List.mem_of_mem_drop hx)
  obtain ⟨u1, hu1⟩ : ∃ u, u = US.new.feed (P.take cut) := ⟨_, rfl⟩
  have f1 := fine_feed (P.take cut) US.new (fun _ => fine_new) hB1
  rw [← hu1] at f1 ⊢
  have e2 : US.new.feed P = u1.feed (P.drop cut) := by
    conv => lhs; rw [e]
    rw [feed_append, hu1]
  rw [e2] at a b
  have f2 := fine_feed (P.drop cut) u1 f1.1 hB2
  have hc0 : u1.code = 0 := f2.2.2.2.2 a.2.1
  have hlen1 : (P.take cut).length = cut := by rw [List.length_take]; omega
  have hlen2 : (P.drop cut).length = P.length - cut := List.length_drop
  refine ⟨hc0, ?_, ?_⟩
  · cases hw : u1.whole with
    | false => rfl
    | true =>
      obtain ⟨c, r, hcr⟩ : ∃ c r, P.drop cut = c :: r := by
        cases h : P.drop cut with
        | nil => rw [h] at hlen2; simp at hlen2; omega
        | cons c r => exact ⟨c, r, rfl⟩
      have hne := whole_end u1 (f1.1 hc0) (f1.2.1) hc0 hw c
      rw [hcr, feed_cons, feed_stop _ (.inr hne)] at a
      exact absurd a.2.1 hne
  · have t1 := f1.2.2.2.1
    have t2 := f2.2.2.2.1
    rw [hlen1] at t1
    rw [hlen2] at t2
    have : US.new.taken = 0 := rfl
    omega
end Go.Proofs.Ytlcppkcclolgcaa.Pk

namespace Go.Proofs.Ytlcppkcclolgcaa.Pk
set_option maxRecDepth 20000
set_option linter.unusedVariables false
set_option linter.unusedSimpArgs false
open Go.RowKit

/-- the packer as it is made -/
theorem pks_made {w w1 : World} (hb : Below w.heap.size w w1) (t : ByteArray) (L : List Nat) (hL : nb t = L) (ht : t.size ≤ 140737488355328) :
    PkS w ((((Lib.bytesWorld w1 5 t).alloc (.map #[] 0)).alloc (.cells #[.slice (some ⟨w1.heap.size, 0, none⟩) t.size (grownCap w1 t.size 0 5), .int .i64 0, .map (some (w1.heap.size + 1))] 92))) (w1.heap.size + 2) (w1.heap.size + 1) (.slice (some ⟨w1.heap.size, 0, none⟩) t.size (grownCap w1 t.size 0 5)) 0 0 (fun _ => none) L := by
  have hsz := Lib.bytesWorld_size w1 5 t
  have hown := OwnB.conv (base := w.heap.size) w1 t ht hb.size
  rw [hL] at hown
  have hm := LastMap.made (Lib.bytesWorld w1 5 t)
  rw [hsz] at hm
  have hbw := below_conv w w1 t hb (Nat.le_refl _)
  have hb2 : Below w.heap.size w ((Lib.bytesWorld w1 5 t).alloc (.map #[] 0)) := hbw.alloc hbw.size _
  have hs2 : ((Lib.bytesWorld w1 5 t).alloc (.map #[] 0)).heap.size = w1.heap.size + 2 := by simp [hsz]
  refine ⟨⟨?_⟩, ?_, ?_, hb2.alloc hb2.size _, ?_, ?_⟩
  · rw [← hs2]; exact heap_alloc_new _ _
  · exact (hown.later ((Below.refl _ _).alloc (Nat.le_refl _) _)).later ((Below.refl _ _).alloc (Nat.le_refl _) _)
  · exact hm.kept (World.grownBy_alloc _ _ none) (by simp)
  · have := hb.size; omega
  · have := hb.size; omega

theorem PkS.noted {w0 w w' : World} {gp b plain n : Nat} {v : Value} {F F' : List Nat → Option Nat} {out : List Nat} (H : PkS w0 w gp b v plain n F out) (hm : LastMap w' b (n + 1) F') (hg : w.grownBy w' (some b)) : PkS w0 w' gp b v plain (n + 1) F' out :=
  ⟨H.p.far (hg.block _ H.p.lt (by simpa using H.ne)), H.own.kept hg (.inr H.vb), hm, ⟨hg.os.trans H.below.os, hg.tape.trans H.below.tape, hg.output.trans H.below.output, Nat.le_trans H.below.size hg.size, fun k hk => (hg.block k (Nat.lt_of_lt_of_le hk H.below.size) (by have := H.ob; simp; omega)).trans (H.below.block k hk)⟩, H.og, H.ob⟩
theorem noted_le {L : List Nat} {i : Nat} {ws : List Nat} {c : Nat} (h : lastW L i ws = some c) : c ≤ i := by have := (lastW_some h).1; omega

theorem hbo' {rn rf : Nat} {P : Nat → Nat → Prop} (h : (rn, rf).1 ≠ 0 → ∃ n far, (rn, rf) = (n, far) ∧ P n far) (h0 : ¬ rn = 0) : ∃ n far, (rn, rf) = (n, far) ∧ P n far := h h0

set_option maxRecDepth 100000 in
set_option maxHeartbeats 8000000 in
theorem pack_any (s : ByteArray) (w : World) (hs : s.size ≤ 1048576) :
    Calls Try.prog 18 #[.string s] w fun e w' => e = .returned (.tuple #[.string (strOf (packL (nb s))), .int .i64 0]) ∧ Below w.heap.size w w' := by
  obtain ⟨R, hR⟩ : ∃ R, packL (nb s) = R := ⟨_, rfl⟩
  have hRB := packL_bytes (nb s) (nb_bytes s)
  rw [hR] at hRB ⊢
  have HR := Lib.hid hR
  have HRB := Lib.hid hRB
  clear hR hRB
  have hsI : (s.size : Int) ≤ 1048576 := by omega
  have hs0 : (0 : Int) ≤ s.size := by omega
  go_enter Try.func18, Try.ntmps18
  go_upto_region 3 with fail
  go_cut [4] (fun x4 wx => ∃ gp b v, x4 = .pointer (some ⟨gp, 0, none⟩) ∧ PkS w wx gp b v 0 0 (fun _ => none) (le8 s.size))
  case first =>
    have hcv := fun W => Lib.run_convert_string_bytes (P := Try.prog) W 9 38 5 (strOf (le8 s.size)) Try.underlying9 Try.underlying38 Try.underlying5
    have hmk := fun W => run_makeMap (P := Try.prog) 90 W
    go_wp2_with (go_at_call 15; refine (wint_any s.size (by omega) _).mono ?_; rintro e w1 ⟨rfl, hb1⟩; have HB1 := Lib.hid hb1; clear hb1; have hbsz := Lib.bytesWorld_size w1 5 (strOf (le8 s.size)))
    go_meet
    refine ⟨w1.heap.size + 2, w1.heap.size + 1, _, ?_, pks_made HB1.out (strOf (le8 s.size)) (le8 s.size) (nb_strOf _ (fl8_bytes _ 8)) (by rw [strOf_size, le8_length]; omega)⟩
    rfl
  case rest =>
    obtain ⟨gp, b, v, rfl, hP⟩ := hcut
    have HP := Lib.hid hP
    clear hP
    have hG : le8 s.size ++ packG (nb s) s.size 0 0 = R := by
      rw [← HR.out, packL, nb_length]
    have HG := Lib.hid hG
    clear hG HR
    have L8 := le8_length s.size
    have HL8 := Lib.hid L8
    clear L8
    go_wp2_with fail
    go_loopw [5, 6] (fun x5 x6 wr => ∃ v p out n i seen k, x5 = .int .i64 (seen : Nat) ∧ x6 = .int .i64 (i : Nat) ∧ PkS w wr gp b v p n (lastW (nb s) seen) out ∧ seen ≤ i ∧ i ≤ s.size ∧ p ≤ i ∧ n ≤ seen ∧ out.length + 2 * (s.size - p) ≤ 2100000 ∧ s.size - i ≤ k ∧ out ++ packG (nb s) k i p = R) (fun _ x6 _ => s.size - (intOf x6).toNat)
    case atStart => exact ⟨v, 0, le8 s.size, 0, 0, 0, s.size, rfl, rfl, HP.out, by omega, by omega, by omega, by omega, by have := HL8.out; omega, by omega, HG.out⟩
    case round =>
      clear HP HG HL8
      obtain ⟨v, p, out, n, i, seen, k, rfl, rfl, hP, hsi, his, hpi, hns, hol, hk, hRR⟩ := hrel
      have HP := Lib.hid hP
      have HRR := Lib.hid hRR
      clear hP hRR
      have hi0 : (0 : Int) ≤ i := by omega
      have hse0 : (0 : Int) ≤ seen := by omega
      by_cases hlt : i < s.size
      · have hltI : (i : Int) < s.size := by omega
        go_wp2_with fail
        go_loopw [5] (fun x5 wq => ∃ sn n', x5 = .int .i64 (sn : Nat) ∧ PkS w wq gp b v p n' (lastW (nb s) sn) out ∧ sn ≤ i ∧ n' ≤ sn) (fun x5 _ => i - (intOf x5).toNat)
        case atStart => exact ⟨seen, n, rfl, HP.out, hsi, hns⟩
        case round =>
          clear HP
          obtain ⟨sn, n', rfl, hP, hsn, hn'⟩ := hrel
          have HP := Lib.hid hP
          clear hP
          have hsn0 : (0 : Int) ≤ sn := by omega
          by_cases hl2 : sn < i
          · have hl2I : (sn : Int) < i := by omega
            go_wp2_with (go_at_call 33; refine (note_any gp b n' p sn v _ s _ HP.out.p HP.out.m HP.out.ne (by omega) hs (by simp only [maxLen]; omega)).mono ?_; rintro e w3 ⟨rfl, hm3, hg3⟩; rw [noted_lastW] at hm3; have HP3 := Lib.hid (HP.out.noted hm3 hg3); clear hm3 hg3)
            go_roundw
            case rel => exact ⟨sn + 1, n' + 1, by go_num, HP3.out, by omega, by omega⟩
            case measure => simp [intOf]; omega
          · have hl2I : ¬ (sn : Int) < i := by omega
            obtain rfl : sn = i := by omega
            have hF : ∀ ws c, lastW (nb s) sn ws = some c → c ≤ sn := fun ws c h => noted_le h
            have HF := Lib.hid hF
            obtain ⟨⟨rn, rf⟩, hr⟩ : ∃ r, backP (nb s) sn (lastW (nb s) sn) = r := ⟨_, rfl⟩
            have hbo := backP_ok (nb s) sn
            rw [hr] at hbo
            have HBO := Lib.hid hbo
            have HBR := Lib.hid hr
            have hstep : ∀ k', k = k' + 1 → packG (nb s) k sn p = if rn = 0 then packG (nb s) k' (sn + 1) p else runs (nb s) sn (sn - p) p ++ ((124 + rn) :: (rf - 1) % 256 :: (rf - 1) / 256 % 256 :: packG (nb s) k' (sn + rn) (sn + rn)) := by
              intro k' e
              rw [e, packG, if_pos (by rw [nb_length]; exact hlt), hr]
            have HSTEP := Lib.hid hstep
            clear hF hr hbo hstep
            by_cases h0 : rn = 0
            · have hz : ((rn : Int) == 0) = true := by rw [h0]; rfl
              have HZ := Lib.hid h0
              clear h0
              go_wp2_with (go_at_call 34; refine (back_any gp b n' p sn v _ s _ HP.out.p HP.out.m (by omega) hs HF.out).mono ?_; rintro e w3 ⟨rfl, hb3⟩; rw [HBR.out]; have HP3 := Lib.hid (HP.out.later hb3); clear hb3)
              go_roundw
              case rel =>
                refine ⟨v, p, out, n', sn + 1, sn, k - 1, rfl, by go_num, HP3.out, by omega, by omega, by omega, by omega, by omega, by omega, ?_⟩
                have e := HSTEP.out (k - 1) (by omega)
                rw [if_pos HZ.out] at e
                rw [← e]
                exact HRR.out
              case measure => simp [intOf]; omega
            · have hz : ((rn : Int) == 0) = false := by simp; omega
              obtain ⟨_, _, he, hn4, h131, hin, hf1, hfi, hf6, hsame⟩ := hbo' HBO.out h0
              simp only [Prod.mk.injEq] at he
              obtain ⟨rfl, rfl⟩ := he
              clear hsame
              rw [nb_length] at hin
              have hfl : out.length + 2 * (sn - p) ≤ 8000000 := by omega
              have hrl := runs_length (nb s) sn (by rw [nb_length]; omega) (sn - p) p (Nat.le_refl _)
              have hrl2 : (out ++ runs (nb s) sn (sn - p) p).length ≤ out.length + 2 * (sn - p) := by
                rw [List.length_append, hrl]; unfold rc; omega
              have HRL := Lib.hid hrl2
              obtain ⟨x0, hx0⟩ : ∃ x, x = 124 + rn := ⟨_, rfl⟩
              obtain ⟨x1, hx1⟩ : ∃ x, x = (rf - 1) % 256 := ⟨_, rfl⟩
              obtain ⟨x2, hx2⟩ : ∃ x, x = (rf - 1) / 256 % 256 := ⟨_, rfl⟩
              have hstep2 := HSTEP.out
              simp only [if_neg h0, ← hx0, ← hx1, ← hx2] at hstep2
              have HSTEP2 := Lib.hid hstep2
              have hr4 : (4 : Int) ≤ rn := by omega
              have hr131 : (rn : Int) ≤ 131 := by omega
              have hri : (sn : Int) + rn ≤ s.size := by omega
              have hrf1 : (1 : Int) ≤ rf := by omega
              have hrf6 : (rf : Int) ≤ 65536 := by omega
              have hq0 : 128 + (rn : Int) - 4 = (x0 : Int) := by omega
              have hq1 : ((rf : Int) - 1) % 256 = (x1 : Int) := by omega
              have hq2 : ((rf : Int) - 1) / 256 = (x2 : Int) := by omega
              have hcl : (cl .u8 [x0, x1, x2]).toArray = #[.int .u8 (128 + (rn : Int) - 4), .int .u8 (((rf : Int) - 1) % 256), .int .u8 (((rf : Int) - 1) / 256)] := by rw [hq0, hq1, hq2]; rfl
              have HCL := Lib.hid hcl
              clear hrl hrl2 hstep2 hx0 hx1 hx2 h0 hq0 hq1 hq2 hcl
              go_upto_region 14 with (first | (go_at_call 34; refine (back_any gp b n' p sn v _ s _ HP.out.p HP.out.m (by omega) hs HF.out).mono ?_; rintro e w3 ⟨rfl, hb3⟩; rw [HBR.out]; have HP3 := Lib.hid (HP.out.later hb3); clear hb3) | (go_at_call 35; refine (flush_any gp b n' p sn v _ out s w _ HP3.out hpi (by omega) hs hfl).mono ?_; rintro e w4 ⟨rfl, v4, hP4⟩; have HP4 := Lib.hid hP4; clear hP4))
              obtain ⟨A4, k4, hv4⟩ := HP4.out.own.slice
              generalize hl4 : (out ++ runs (nb s) sn (sn - p) p).length = l4 at hv4
              have c4 := HP4.out.p.cell0
              rw [hv4] at c4
              have hnew := news_bytes w4 [x0, x1, x2] 5
              rw [HCL.out] at hnew
              have hown := HP4.out.own.later ((Below.refl w4.heap.size w4).alloc (Nat.le_refl _) (.cells #[.int .u8 (128 + (rn : Int) - 4), .int .u8 (((rf : Int) - 1) % 256), .int .u8 (((rf : Int) - 1) / 256)] 5))
              have hbt : (out ++ runs (nb s) sn (sn - p) p).length + [x0, x1, x2].length ≤ 140737488355328 := by have := HRL.out; simp only [List.length_cons, List.length_nil]; omega
              have hbs : w.heap.size ≤ (w4.alloc (.cells #[.int .u8 (128 + (rn : Int) - 4), .int .u8 (((rf : Int) - 1) % 256), .int .u8 (((rf : Int) - 1) / 256)] 5)).heap.size := by
                have := HP4.out.below.size
                simp
                omega
              have HL4 := Lib.hid hl4
              have HV4 := Lib.hid hv4
              have HNEW := Lib.hid hnew
              have HOWN := Lib.hid hown
              have HBT := Lib.hid hbt
              clear hl4 hv4 hnew hown hbt
              go_wp2_with (at_builtin; refine wpList_app_bytes _ rfl (.tmp 45) (.tmp 57) rfl w.heap.size v4 _ (by first | exact HV4.out.symm | rfl) HOWN.out ⟨w4.heap.size, 0, none⟩ [x0, x1, x2] 3 rfl HNEW.out HBT.out hbs ?_; intro v5 w5 ho5 hg5 _; obtain ⟨A5, k5, hv5⟩ := ho5.slice; generalize ((out ++ runs (nb s) sn (sn - p) p) ++ [x0, x1, x2]).length = l5 at hv5; subst hv5; have hga : w4.grownBy w5 v4.ownBlock := (World.grownBy_alloc w4 _ v4.ownBlock).trans hg5; have hP5 : PkRow w5 gp v4 sn b := HP4.out.p.far (hga.block _ HP4.out.p.lt (fun e => HP4.out.vg e.symm)); have c05 := hP5.cell0; have f05 := hP5.free 0; have hst := HP4.out.step ho5 hga; have c15 := hst.p.cell1; have f15 := hst.p.free 1; have HS5 := Lib.hid hst; clear ho5 hg5 hga hP5 hst)
              have hmv := HS5.out.moved (sn + rn)
              rw [Int.natCast_add] at hmv
              have HMV := Lib.hid hmv
              clear hmv
              go_roundw
              case rel =>
                refine ⟨_, sn + rn, _, n', sn + rn, sn, k - 1, rfl, by go_num, HMV.out, by omega, hin, by omega, by omega, ?_, by omega, ?_⟩
                · have := HRL.out
                  simp only [List.length_append, List.length_cons, List.length_nil] at this ⊢
                  omega
                · rw [← HRR.out, HSTEP2.out (k - 1) (by omega)]
                  simp only [List.append_assoc, List.cons_append, List.nil_append]
              case measure => simp [intOf]; omega
      · have hltI : ¬ (i : Int) < s.size := by omega
        have hrl := runs_length (nb s) s.size (by rw [nb_length]; omega) (s.size - p) p (Nat.le_refl _)
        have hR2 : out ++ runs (nb s) s.size (s.size - p) p = R := by
          rw [← HRR.out]
          congr 1
          cases k with
          | zero => rw [packG, nb_length]
          | succ k => rw [packG, if_neg (by rw [nb_length]; omega), nb_length]
        have HR2 := Lib.hid hR2
        have hconv : ∀ (W : World) (u : Value), OwnB W w.heap.size u R → (convert 38 9 u).run Try.prog W = .ok (.string (strOf R)) W := fun W u h => run_conv_own W h HRB.out
        have HCONV := Lib.hid hconv
        clear hrl hR2 hconv
        go_wp2_with (go_at_call 35; refine (flush_any gp b n p s.size v _ out s w _ HP.out (by omega) (Nat.le_refl _) hs (by omega)).mono ?_; rintro e w4 ⟨rfl, v4, hP4⟩; rw [HR2.out] at hP4; have c4 := hP4.p.cell0; have hcv := HCONV.out w4 v4 hP4.own; have HP4 := Lib.hid hP4; clear hP4)
        go_ret2
        exact ⟨rfl, HP4.out.below⟩
end Go.Proofs.Ytlcppkcclolgcaa.Pk
