/- The walk of tree's walker over a directory. UNDER WAY. -/
import Derived.Test.YtlcppkcclolgcaaWn
namespace Go.Proofs.Ytlcppkcclolgcaa
set_option linter.unusedVariables false
set_option linter.unusedSimpArgs false
open Go.RowKit

/-- is the one string no greater than the other? -/
def leB (s t : ByteArray) : Bool := Op.bytesLess s.toList t.toList || s.toList == t.toList
def ND.nodeC (n : ND) (K : Nat → Except Int Nat) (d b : Nat) : Except Int Nat :=
  if 32 < d then .error 61 else if n.fldE ≠ 0 then .error n.fldE
  else if n.kind = 1 then addC b (frSum [wOpen, wType, wRegular, wContents, n.text, wClose] + if n.exec then 32 else 0)
  else if n.kind = 2 then addC b (frSum [wOpen, wType, wSymlink, wTarget, n.text, wClose])
  else (addC b 72).bind K
def ND.kidsC (nm : ByteArray → Int) : ND → Nat → Nat → Except Int Nat
  | .leaf _ _ _, _, b => .ok b
  | .add p s c, d, b => (p.kidsC nm d b).bind fun b1 => if nm s ≠ 0 then .error (nm s) else if 0 < p.cnt ∧ leB s p.last = true then .error 64
    else (addC b1 (frSum [wEntry, wOpen, wName, s, wNode, wClose])).bind fun b2 => c.nodeC (fun b3 => c.kidsC nm (d + 1) b3) (d + 1) b2
/-- what a walk over a smaller node does -/
def NodeOk (nm : ByteArray → Int) (w0 : World) (B g : Nat) (c : ND) : Prop :=
  ∀ (d b : Nat) (path : ByteArray) (a : Option Addr) (cap : Nat) (w : World), WkS w0 B g b w → b ≤ 1048576 → c.In B w0 a → c.small 1048576 → 1 ≤ d → d ≤ 33 → path.size ≤ d * 1048577 →
    Calls Try.prog 62 #[.pointer (some ⟨g, 0, none⟩), .string path, c.val a cap, .int .i64 (d : Int)] w fun e w' => WkPost w0 B g w (c.nodeC (fun b3 => c.kidsC nm d b3) d b) e w'

theorem below_drewN {B : Nat} {a w : World} (h : Below B a w) (n : Nat) : Below B a (w.drewN n) := ⟨h.os, h.tape, h.output, h.size, h.block⟩
theorem kids_err (nm : ByteArray → Int) (d b : Nat) (q : Int) : ∀ (n : ND) (i : Nat), (n.pre i).kidsC nm d b = .error q → n.kidsC nm d b = .error q := by
  intro n
  induction n with
  | leaf => intro i h; exact h
  | add p s c ih _ =>
    intro i h
    unfold ND.pre at h
    split at h
    · have h1 := ih i h
      show (p.kidsC nm d b).bind _ = _
      rw [h1]
      rfl
    · exact h
theorem kids_step (nm : ByteArray → Int) (d b' bi i : Nat) (n c : ND) (s : ByteArray) (h : (n.pre i).kidsC nm d b' = .ok bi) (hi : i < n.cnt) (e : n.pre (i + 1) = .add (n.pre i) s c) :
    (n.pre (i + 1)).kidsC nm d b' = if nm s ≠ 0 then .error (nm s) else if 0 < i ∧ leB s (n.pre i).last = true then .error 64
      else (addC bi (frSum [wEntry, wOpen, wName, s, wNode, wClose])).bind fun b2 => c.nodeC (fun b3 => c.kidsC nm (d + 1) b3) (d + 1) b2 := by
  rw [e]
  show ((n.pre i).kidsC nm d b').bind _ = _
  rw [h, ND.pre_cnt n i (by omega)]
  rfl
theorem ok_bind (x : Except Int Nat) (b : Nat) (K : Nat → Except Int Nat) (h : x = .ok b) : x.bind K = K b := by rw [h]; rfl
theorem ok_err (x : Except Int Nat) (q : Int) (K : Nat → Except Int Nat) (h : x = .error q) : x.bind K = .error q := by rw [h]; rfl
set_option maxRecDepth 100000 in
set_option maxHeartbeats 4000000 in
theorem node_dir (nm : ByteArray → Int) (w0 : World) (B g b d : Nat) (path t : ByteArray) (x : Bool) (a : Option Addr) (len cap : Nat) (n : ND) (w : World) (H : WkS w0 B g b w) (hb : b ≤ 1048576) (hd1 : 1 ≤ d) (hd : d ≤ 32) (hpath : path.size ≤ d * 1048577) (hlen : len = n.cnt) (hsm : n.small 1048576) (hin : n.In B w0 a) (hcn : n.cnt ≤ 1048576)
    (CF : ∀ w, Calls Try.prog 69 #[.agg #[.int .i64 3, .bool x, .string t, .slice a len cap]] w fun e w' => e = .returned (.int .i64 0) ∧ Below w.heap.size w w')
    (CN : ∀ s w, s.size ≤ 1048576 → Calls Try.prog 58 #[.string s] w fun e w' => e = .returned (.int .i64 (nm s)) ∧ Below w.heap.size w w')
    (ih : ∀ c : ND, c.sz < n.sz → NodeOk nm w0 B g c) :
    Calls Try.prog 62 #[.pointer (some ⟨g, 0, none⟩), .string path, .agg #[.int .i64 3, .bool x, .string t, .slice a len cap], .int .i64 (d : Int)] w
      fun e w' => WkPost w0 B g w ((addC b 72).bind fun b3 => n.kidsC nm d b3) e w' := by
  have HF := Lib.hid CF
  have HK := Lib.hid H
  have HN := Lib.hid CN
  have HI := Lib.hid ih
  have HL := Lib.hid hlen
  have HIN := Lib.hid hin
  have HSM := Lib.hid hsm
  have hdI : ¬ 32 < (d : Int) := by omega
  have C1 : ∀ k cp w, w.heap[k]? = some (.cells (strs [wOpen, wType, wDirectory, wClose]) 9 (0, 0)) → Calls Try.prog 60 #[.slice (some ⟨k, 0, none⟩) 4 cp] w fun e w' => e = .returned (.int .i64 ((frSum [wOpen, wType, wDirectory, wClose] : Nat) : Int)) ∧ w = w' :=
    fun k cp w hr => framed_any _ k 4 cp _ w hr ws_dir (by simp) rfl
  have hN : frSum [wOpen, wType, wDirectory, wClose] = 72 := by decide +kernel
  rw [hN] at C1
  have K1 := Lib.hid C1
  have CA : Hid (∀ w, WkS w0 B g b w → Calls Try.prog 70 #[.pointer (some ⟨g, 0, none⟩), .string path, .int .i64 72] w fun e w' => WkPost w0 B g w (addC b 72) e w') := Lib.hid (fun w H => addP_any w0 B g b 72 path w H hb (by omega))
  clear CF H hN C1 CN ih hlen hin hsm
  go_enter Try.func62, Try.ntmps62
  go_upto_region 15 with (go_at_call 69; refine (HF.out _).mono ?_; rintro e w1 ⟨rfl, h1⟩; have hx := box_later h1; have b0 := cell_of_row w1 _ 0 _ _ _ hx; have b1 := cell_of_row w1 _ 1 _ _ _ hx; have b2 := cell_of_row w1 _ 2 _ _ _ hx; have HX := Lib.hid hx; have HB1 : Hid (Below w.heap.size w w1) := Lib.hid (((Below.refl _ _).alloc (Nat.le_refl _) _).trans (h1.mono (by simp))); have HK1 := Lib.hid (HK.out.later HB1.out); clear h1 hx)
  go_upto_region 16 with (first | (go_at_call 60; refine (K1.out _ _ _ (heap_alloc_new _ _)).mono ?_; rintro e w' ⟨rfl, rfl⟩) | (go_at_call 70; refine (CA.out _ (HK1.out.later ((Below.refl _ _).alloc (Nat.le_refl _) _))).mono ?_; rintro e w3 ⟨hg3, ⟨b', h1, h2, rfl, h3⟩ | ⟨c, p, b', h1, rfl, h3⟩⟩))
  · have hgw : w.grownBy w3 (some g) := only_later (HB1.out.alloc HB1.out.size _) hg3
    have hne : g ≠ w.heap.size := fun e => by have := HK.out.lt; omega
    have hlt1 : w.heap.size < w1.heap.size := lt_of_row HX.out
    have hx3 : w3.heap[w.heap.size]? = some (.cells #[.int .i64 3, .bool x, .string t, .slice a len cap] 26 (0, 0)) := by
      rw [hg3.block w.heap.size (by simp; omega) (by simp; omega), heap_alloc_old w1 _ hlt1]
      exact HX.out
    have b3 := cell_of_row w3 _ 3 _ _ _ hx3
    have HX3 := Lib.hid hx3
    have HG3 := Lib.hid hgw
    have H3 := Lib.hid h3
    have HA := Lib.hid h1
    generalize hkk : w.heap.size = kk at *
    have HKK := Lib.hid hkk
    clear h3 hx3 hgw hg3 hlt1 b0 b1 b2 HX HK1 K1 CA HF h1 hne hkk
    go_wp2_with fail
    go_loopw [64] (fun x64 wr => ∃ i bi : Nat, x64 = .int .i64 i ∧ i ≤ len ∧ bi ≤ 1048576 ∧ (n.pre i).kidsC nm d b' = .ok bi ∧ WkS w0 B g bi wr ∧ w.grownBy wr (some g) ∧ wr.heap[kk]? = some (.cells #[.int .i64 3, .bool x, .string t, .slice a len cap] 26 (0, 0))) (fun x64 _ => len - (intOf x64).toNat)
    case atStart =>
      refine ⟨0, b', rfl, Nat.zero_le _, h2, ?_, H3.out, HG3.out, HX3.out⟩
      have e : ∀ m : ND, (m.pre 0).kidsC nm d b' = .ok b' := by
        intro m
        induction m with
        | leaf => rfl
        | add p s c ih _ => unfold ND.pre; rw [if_pos (Nat.zero_le _)]; exact ih
      exact e n
    case round =>
      obtain ⟨i, bi, rfl, hi, hbi, hck, hw, hgr, hxr⟩ := hrel
      clear H3 HG3 HX3 b3
      have HW := Lib.hid hw
      have HCK := Lib.hid hck
      have HGR := Lib.hid hgr
      have HXR := Lib.hid hxr
      have hi0 : (0 : Int) ≤ i := by omega
      have hlm : (len : Int) ≤ 1048576 := by have := HL.out; omega
      by_cases hlt : i < len
      · have hltI : (i : Int) < len := by omega
        obtain ⟨y, rfl, hat⟩ : ∃ y, a = some y ∧ n.At B w0 y := by
          rcases HIN.out with h | h
          · have := HL.out; omega
          · exact h
        obtain ⟨s, c, e1, e2, e3, e4, ka, kcap, c0, c1, c2, c3, c4, hc⟩ := hat.kid (i := i) (by have := HL.out; omega)
        have hkk : ∀ q : Addr, q.block = y.block → wr.cell? q = w0.cell? q := fun q e => hw.bel.cell (by rw [e]; exact e4)
        replace c0 := (hkk (y.add (i * 5)) (block_add _ _)).trans c0
        replace c1 := (hkk ⟨(y.add (i * 5)).block, (y.add (i * 5)).off + 1, none⟩ (block_add _ _)).trans c1
        replace c2 := (hkk ⟨(y.add (i * 5)).block, (y.add (i * 5)).off + 2, none⟩ (block_add _ _)).trans c2
        replace c3 := (hkk ⟨(y.add (i * 5)).block, (y.add (i * 5)).off + 3, none⟩ (block_add _ _)).trans c3
        replace c4 := (hkk ⟨(y.add (i * 5)).block, (y.add (i * 5)).off + 4, none⟩ (block_add _ _)).trans c4
        have HAT := Lib.hid hat
        have HY := Lib.hid e4
        have HE1 := Lib.hid e1
        have HE2 := Lib.hid e2
        have HE3 := Lib.hid e3
        have HC := Lib.hid hc
        clear hw hck hgr hxr e1 e2 e3 e4 hc hat hkk
        have hss := (HE3.out _ HSM.out).1
        have hsc := (HE3.out _ HSM.out).2
        have CB := Lib.hid (fun w => below_any path s d (by omega) (by omega) (by omega) w)
        have hbs := belowV_size path s d
        have hps : (belowV path s d).size ≤ (d + 1) * 1048577 := by omega
        generalize belowV path s d = at_ at *
        have CC := Lib.hid (fun w => HN.out s w hss)
        have hge : g ≠ wr.heap.size := fun e => by have := HW.out.lt; omega
        have hkl : kk < wr.heap.size := lt_of_row HXR.out
        have HGE := Lib.hid hge
        clear hge
        clear hbs
        go_upto_region 21 with (first | (go_at_call 71; refine (CB.out _).mono ?_; rintro e w' ⟨rfl, rfl⟩) | (go_at_call 58; refine (CC.out _).mono ?_; rintro e w5 ⟨rfl, h5⟩; have H5 := Lib.hid h5; clear h5))
        have hx5 := box_later H5.out
        have hbw : Below wr.heap.size wr w5 := ((Below.refl _ _).alloc (Nat.le_refl _) _).trans (H5.out.mono (by simp))
        have hw5 := HW.out.later hbw
        have hxk5 := (hbw.block kk hkl).trans HXR.out
        have hgr5 : w.grownBy w5 (some g) := only_below HGR.out (hbw.mono (Nat.le_refl _))
        have hcn' : i < n.cnt := by have := HL.out; omega
        have hstep := kids_step nm d b' bi i n c s HCK.out hcn' HE1.out
        have q0 := cell_of_row w5 _ 0 _ _ _ hx5
        have q1 := cell_of_row w5 _ 1 _ _ _ hx5
        have q2 := cell_of_row w5 _ 2 _ _ _ hx5
        have q3 := cell_of_row w5 _ 3 _ _ _ hx5
        have q4 := cell_of_row w5 _ 4 _ _ _ hx5
        have k3 := cell_of_row w5 _ 3 _ _ _ hxk5
        by_cases hnm : nm s = 0
        · have HNM := Lib.hid hnm
          rw [hnm] at hstep
          rw [if_neg (by simp)] at hstep
          have HST := Lib.hid hstep
          have HW5 := Lib.hid hw5
          have HXK5 := Lib.hid hxk5
          have HGR5 := Lib.hid hgr5
          have HBW := Lib.hid hbw
          have HX5 := Lib.hid hx5
          clear hstep hw5 hxk5 hgr5 hbw hx5 c0 c1 c2 c3 c4
          have hq := q_le [wEntry, wOpen, wName, s, wNode, wClose] (ws_entry s hss) 6 6291552 rfl (by omega)
          have KE : Hid (∀ k cp w, w.heap[k]? = some (.cells (strs [wEntry, wOpen, wName, s, wNode, wClose]) 9 (0, 0)) → Calls Try.prog 60 #[.slice (some ⟨k, 0, none⟩) 6 cp] w fun e w' => e = .returned (.int .i64 ((frSum [wEntry, wOpen, wName, s, wNode, wClose] : Nat) : Int)) ∧ w = w') :=
            Lib.hid fun k cp w hr => framed_any _ k 6 cp _ w hr (ws_entry s hss) (by simp) rfl
          generalize frSum [wEntry, wOpen, wName, s, wNode, wClose] = N at *
          have hN0 : (0 : Int) ≤ N := by omega
          have hN2 : (N : Int) ≤ 6291552 := by omega
          have CE := Lib.hid (fun w H => addP_any w0 B g bi N at_ w H hbi (by omega))
          have CR : Hid (∀ w b, WkS w0 B g b w → b ≤ 1048576 → Calls Try.prog 62 #[.pointer (some ⟨g, 0, none⟩), .string at_, .agg #[.int .i64 c.kind, .bool c.exec, .string c.text, .slice ka c.cnt kcap], .int .i64 ((d : Int) + 1)] w fun e w' => WkPost w0 B g w (c.nodeC (fun b3 => c.kidsC nm (d + 1) b3) (d + 1) b) e w') :=
            Lib.hid fun w b H hb => HI.out c HE2.out (d + 1) b at_ ka kcap w H hb HC.out hsc (by omega) (by omega) hps
          have hel : wr.heap.size < w5.heap.size := lt_of_row HX5.out
          have hkl5 : kk < w5.heap.size := lt_of_row HXK5.out
          have hgk : g ≠ kk := fun e => by have := HK.out.lt; have := HKK.out; omega
          have HGK := Lib.hid hgk
          clear hgk
          by_cases hi1 : i = 0
          · have hiI : ¬ (0 : Int) < i := by omega
            replace HST := Lib.hid (HST.out.trans (if_neg (by omega)))
            go_upto_region 23 with fail
            go_quiet (fail)
            go_upto_region 25 with fail
            go_upto_region 26 with (first | (go_at_call 60; refine (KE.out _ _ _ (heap_alloc_new _ _)).mono ?_; rintro e w' ⟨rfl, rfl⟩) | (go_at_call 70; refine (CE.out _ (HW5.out.later ((below_drewN (Below.refl _ _) _).alloc (Nat.le_refl _) _))).mono ?_; rintro e w7 ⟨hg7, ⟨b7, h71, h72, rfl, h73⟩ | ⟨c7, p7, b7, h71, rfl, h73⟩⟩))
            · have hx7 := hg7.block wr.heap.size (by simp; omega) (by have := HGE.out; simp; omega)
              rw [heap_alloc_old _ _ (by exact hel)] at hx7
              replace hx7 := hx7.trans HX5.out
              have hk7 := hg7.block kk (by simp; omega) (by have := HGK.out; simp; omega)
              rw [heap_alloc_old _ _ (by exact hkl5)] at hk7
              replace hk7 := hk7.trans HXK5.out
              have r1 := cell_of_row w7 _ 1 _ _ _ hx7
              have r2 := cell_of_row w7 _ 2 _ _ _ hx7
              have r3 := cell_of_row w7 _ 3 _ _ _ hx7
              have r4 := cell_of_row w7 _ 4 _ _ _ hx7
              have HG7 := Lib.hid (only_trans (only_below HGR5.out ((below_drewN (Below.refl _ _) _).alloc (Nat.le_refl _) _)) hg7)
              have HK7 := Lib.hid hk7
              have H71 := Lib.hid h71
              have H73 := Lib.hid h73
              have hkl7 : kk < w7.heap.size := lt_of_row hk7
              clear hx7 hk7 hg7 h71 h73
              go_upto_region 27 with (go_at_call 62; refine (CR.out _ _ H73.out h72).mono ?_; rintro e w9 ⟨hg9, ⟨b9, h91, h92, rfl, h93⟩ | ⟨c9, p9, b9, h91, rfl, h93⟩⟩)
              · have H91 := Lib.hid h91
                have H93 := Lib.hid h93
                have HG9 := Lib.hid (only_trans HG7.out hg9)
                have HK9 := Lib.hid ((hg9.block kk hkl7 (by have := HGK.out; simp; omega)).trans HK7.out)
                clear h91 h93 hg9
                go_wp2_with fail
                go_roundw
                case rel => exact ⟨i + 1, b9, by go_num, hlt, h92, HST.out.trans ((ok_bind _ _ _ H71.out).trans H91.out), H93.out, HG9.out, HK9.out⟩
                case measure => simp [intOf]; omega
              · exact ⟨rfl, only_trans HG7.out hg9, .inr ⟨_, p9, b9, (ok_bind _ _ _ HA.out).trans (kids_err nm d b' _ n (i + 1) (HST.out.trans ((ok_bind _ _ _ H71.out).trans (by first | exact h91 | rfl)))), rfl, h93⟩⟩
            · have HST2 := Lib.hid ((HST.out.trans (ok_err _ _ _ (by first | exact h71 | rfl))))
              exact ⟨rfl, only_trans (only_below HGR5.out ((below_drewN (Below.refl _ _) _).alloc (Nat.le_refl _) _)) hg7, .inr ⟨_, p7, b7, (ok_bind _ _ _ HA.out).trans (kids_err nm d b' _ n (i + 1) HST2.out), rfl, h73⟩⟩
          · obtain ⟨jn, rfl⟩ : ∃ jn, i = jn + 1 := ⟨i - 1, by omega⟩
            obtain ⟨s', c', e1', _, _, _, _, _, p0, _⟩ := HAT.out.kid (i := jn) (by have := HL.out; omega)
            have hlast : (n.pre (jn + 1)).last = s' := by rw [e1']; rfl
            have g0 : w5.cell? (y.add (jn * 5)) = some (.string s') := by
              rw [HBW.out.cell (by rw [block_add]; exact Nat.lt_of_lt_of_le HY.out (Nat.le_trans HW.out.hg (Nat.le_of_lt HW.out.lt)))]
              exact (HW.out.bel.cell (by rw [block_add]; exact HY.out)).trans p0
            rw [hlast] at HST
            have hj0 : (0 : Int) ≤ jn := by omega
            have hj1 : (jn : Int) < len := by omega
            clear e1' p0 hlast
            by_cases hle : leB s s' = true
            · replace HST := Lib.hid (HST.out.trans (if_pos ⟨by omega, hle⟩))
              have hleb : (Op.bytesLess s.toList s'.toList || s.toList == s'.toList) = true := hle
              clear hle
              go_upto_region 23 with fail
              go_quiet (fail)
              go_wp2_with fail
              exact ⟨rfl, only_below HGR5.out (below_drewN (Below.refl _ _) _), .inr ⟨64, _, bi, (ok_bind _ _ _ HA.out).trans (kids_err nm d b' _ n (jn + 1 + 1) HST.out), rfl, HW5.out.later (below_drewN (Below.refl _ _) _)⟩⟩
            · replace HST := Lib.hid (HST.out.trans (if_neg (fun h => hle h.2)))
              have hleb : (Op.bytesLess s.toList s'.toList || s.toList == s'.toList) = false := by
                have : leB s s' = false := by simpa using hle
                exact this
              go_upto_region 23 with fail
              go_quiet (fail)
              go_upto_region 25 with fail
              go_upto_region 26 with (first | (go_at_call 60; refine (KE.out _ _ _ (heap_alloc_new _ _)).mono ?_; rintro e w' ⟨rfl, rfl⟩) | (go_at_call 70; refine (CE.out _ (HW5.out.later ((below_drewN (Below.refl _ _) _).alloc (Nat.le_refl _) _))).mono ?_; rintro e w7 ⟨hg7, ⟨b7, h71, h72, rfl, h73⟩ | ⟨c7, p7, b7, h71, rfl, h73⟩⟩))
              · have hx7 := hg7.block wr.heap.size (by simp; omega) (by have := HGE.out; simp; omega)
                rw [heap_alloc_old _ _ (by exact hel)] at hx7
                replace hx7 := hx7.trans HX5.out
                have hk7 := hg7.block kk (by simp; omega) (by have := HGK.out; simp; omega)
                rw [heap_alloc_old _ _ (by exact hkl5)] at hk7
                replace hk7 := hk7.trans HXK5.out
                have r1 := cell_of_row w7 _ 1 _ _ _ hx7
                have r2 := cell_of_row w7 _ 2 _ _ _ hx7
                have r3 := cell_of_row w7 _ 3 _ _ _ hx7
                have r4 := cell_of_row w7 _ 4 _ _ _ hx7
                have HG7 := Lib.hid (only_trans (only_below HGR5.out ((below_drewN (Below.refl _ _) _).alloc (Nat.le_refl _) _)) hg7)
                have HK7 := Lib.hid hk7
                have H71 := Lib.hid h71
                have H73 := Lib.hid h73
                have hkl7 : kk < w7.heap.size := lt_of_row hk7
                clear hx7 hk7 hg7 h71 h73
                go_upto_region 27 with (go_at_call 62; refine (CR.out _ _ H73.out h72).mono ?_; rintro e w9 ⟨hg9, ⟨b9, h91, h92, rfl, h93⟩ | ⟨c9, p9, b9, h91, rfl, h93⟩⟩)
                · have H91 := Lib.hid h91
                  have H93 := Lib.hid h93
                  have HG9 := Lib.hid (only_trans HG7.out hg9)
                  have HK9 := Lib.hid ((hg9.block kk hkl7 (by have := HGK.out; simp; omega)).trans HK7.out)
                  clear h91 h93 hg9
                  go_wp2_with fail
                  go_roundw
                  case rel => exact ⟨jn + 1 + 1, b9, by go_num, hlt, h92, HST.out.trans ((ok_bind _ _ _ H71.out).trans H91.out), H93.out, HG9.out, HK9.out⟩
                  case measure => simp [intOf]; omega
                · exact ⟨rfl, only_trans HG7.out hg9, .inr ⟨_, p9, b9, (ok_bind _ _ _ HA.out).trans (kids_err nm d b' _ n (jn + 1 + 1) (HST.out.trans ((ok_bind _ _ _ H71.out).trans (by first | exact h91 | rfl)))), rfl, h93⟩⟩
              · have HST2 := Lib.hid ((HST.out.trans (ok_err _ _ _ (by first | exact h71 | rfl))))
                exact ⟨rfl, only_trans (only_below HGR5.out ((below_drewN (Below.refl _ _) _).alloc (Nat.le_refl _) _)) hg7, .inr ⟨_, p7, b7, (ok_bind _ _ _ HA.out).trans (kids_err nm d b' _ n (jn + 1 + 1) HST2.out), rfl, h73⟩⟩
        · have hnb : (nm s != 0) = true := by simpa using hnm
          rw [if_pos hnm] at hstep
          have herr := kids_err nm d b' (nm s) n (i + 1) hstep
          have HER := Lib.hid herr
          have HW5 := Lib.hid hw5
          have HGR5 := Lib.hid hgr5
          clear hstep herr hw5 hgr5 hnm
          generalize nm s = q at *
          go_wp2_with fail
          exact ⟨rfl, HGR5.out, .inr ⟨q, _, bi, (ok_bind _ _ _ HA.out).trans HER.out, rfl, HW5.out⟩⟩
      · have hltI : ¬ (i : Int) < len := by omega
        have hii : i = n.cnt := by have := HL.out; omega
        have hall := hck
        rw [hii, ND.pre_all] at hall
        have HALL := Lib.hid hall
        clear hall hck hw hgr hxr
        go_wp2_with fail
        go_end0
        exact ⟨HGR.out, .inl ⟨bi, (ok_bind _ _ _ HA.out).trans HALL.out, hbi, rfl, HW.out⟩⟩
  · exact ⟨rfl, only_later (HB1.out.alloc HB1.out.size _) hg3, .inr ⟨_, p, b', ok_err _ _ _ (by first | exact h1 | rfl), rfl, h3⟩⟩
end Go.Proofs.Ytlcppkcclolgcaa

