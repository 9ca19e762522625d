/- The walk of depotlaw01.awake and of the law ShaForks. -/
import Derived.Test.YtemioilfedpohaaDoorSum
import Derived.Test.YtemioilfedpohaaDoorDigEq
namespace Go.Proofs.YtemioilfedpohaaDoor
set_option linter.unusedVariables false
set_option linter.unusedSimpArgs false
open Go.RowKit

/-- what stands of three States -/
structure Frk (w0 w : World) (gs gf gg : Nat) (S F G : List Nat) : Prop where
  tab : Tab w
  o1 : w0.heap.size ≤ gs
  o2 : gs < gf
  o3 : gf < gg
  ss : StAt w gs S
  sf : StAt w gf F
  sg : StAt w gg G
  below : Below w0.heap.size w0 w
theorem Frk.later {w0 w w' : World} {gs gf gg : Nat} {S F G : List Nat} (H : Frk w0 w gs gf gg S F G) (hb : Below w.heap.size w w') : Frk w0 w' gs gf gg S F G :=
  ⟨H.tab.below hb H.tab.two, H.o1, H.o2, H.o3, H.ss.below hb H.ss.lt, H.sf.below hb H.sf.lt, H.sg.below hb H.sg.lt, H.below.trans (hb.mono H.below.size)⟩

theorem reset_at (g : Nat) (T : List Nat) (w : World) (hst : StAt w g T) (hT : Tab w) : Calls Tryd.prog 24 #[.pointer (some ⟨g, 0, none⟩)] w (WtOut w g []) := by
  obtain ⟨n, h, buf, used, hs, _⟩ := hst
  exact reset_any g _ w hs.row (by rw [List.size_toArray, stc_length hs.h8 hs.b64]) hT

set_option maxRecDepth 100000 in
set_option maxHeartbeats 2000000 in
theorem shaForks_walk (a : ByteArray) (ha : a.size ≤ 140737488351232) (b : ByteArray) (hb : b.size ≤ 140737488351232) (c : ByteArray) (hc : c.size ≤ 140737488351232) (w : World) (hT : Tab w) :
    Calls Tryd.prog 7 #[.string a, .string b, .string c] w fun e w' => e = .returned (.bool true) ∧ Below w.heap.size w w' := by
  have HT := Lib.hid hT
  have hw2 := hT.two
  have hde := dig_same
  have hsum : a.size + c.size ≤ 9223372036854775807 := by omega
  have he : nb (⟨#[]⟩ : ByteArray) = [] := rfl
  clear hT
  go_enter Tryd.func7, Tryd.ntmps7
  go_wp2_with fail
  refine (awake_any w HT.out).mono ?_
  rintro e w1 ⟨rfl, hb1⟩
  have T1 := Lib.hid (HT.out.below hb1 HT.out.two)
  have B1 := Lib.hid hb1
  clear hb1
  go_wp2_with fail
  refine (new_any w1 T1.out).mono ?_
  rintro e w2 ⟨gs, hgs, rfl, hst, hb2⟩
  have T2 := Lib.hid (T1.out.below hb2 T1.out.two)
  have B2 := Lib.hid (B1.out.trans (hb2.mono B1.out.size))
  have S2 := Lib.hid hst
  have hgw : w.heap.size ≤ gs := Nat.le_trans B1.out.size hgs
  clear hst hb2 B1 T1 hgs
  go_wp2_with fail
  refine (writeText_any gs [] a w2 S2.out T2.out (by omega) (by simp; omega)).mono ?_
  rintro e w3 ⟨rfl, hst, ho⟩
  rw [List.nil_append] at hst
  have T3 := Lib.hid (T2.out.only (by omega) ho)
  have B3 := Lib.hid (only_new B2.out ho (Nat.le_refl _) hgw)
  have S3 := Lib.hid hst
  clear hst ho T2 B2 S2
  go_wp2_with fail
  refine (fork_any gs (nb a) w3 S3.out).mono ?_
  rintro e w4 ⟨gf, hgf, rfl, hst, hb4⟩
  have T4 := Lib.hid (T3.out.below hb4 T3.out.two)
  have B4 := Lib.hid (B3.out.trans (hb4.mono B3.out.size))
  have S4 := Lib.hid (S3.out.below hb4 S3.out.lt)
  have F4 := Lib.hid hst
  have hgsf : gs < gf := Nat.lt_of_lt_of_le S3.out.lt hgf
  clear hst hb4 T3 B3 S3 hgf
  go_wp2_with fail
  refine (writeText_any gs (nb a) b w4 S4.out T4.out (by omega) (by rw [nb_length]; omega)).mono ?_
  rintro e w5 ⟨rfl, hst, ho⟩
  have T5 := Lib.hid (T4.out.only (by omega) ho)
  have B5 := Lib.hid (only_new B4.out ho (Nat.le_refl _) hgw)
  have S5 := Lib.hid hst
  have F5 := Lib.hid (F4.out.only ho (by omega))
  clear hst ho T4 B4 S4 F4
  go_wp2_with fail
  refine (writeText_any gf (nb a) c w5 F5.out T5.out (by omega) (by rw [nb_length]; omega)).mono ?_
  rintro e w6 ⟨rfl, hst, ho⟩
  have T6 := Lib.hid (T5.out.only (by omega) ho)
  have B6 := Lib.hid (only_new B5.out ho (Nat.le_refl _) (by omega))
  have F6 := Lib.hid hst
  have S6 := Lib.hid (S5.out.only ho (by omega))
  clear hst ho T5 B5 S5 F5
  go_wp2_with fail
  refine (fork_any gf (nb a ++ nb c) w6 F6.out).mono ?_
  rintro e w7 ⟨gg, hgg, rfl, hst, hb7⟩
  have K7 := Lib.hid (show Frk w w7 gs gf gg (nb a ++ nb b) (nb a ++ nb c) (nb a ++ nb c) from
    ⟨T6.out.below hb7 T6.out.two, hgw, hgsf, Nat.lt_of_lt_of_le F6.out.lt hgg, S6.out.below hb7 S6.out.lt, F6.out.below hb7 F6.out.lt, hst, B6.out.trans (hb7.mono B6.out.size)⟩)
  clear hst hb7 T6 B6 F6 S6 hgg
  go_wp2_with fail
  refine (reset_at gs _ w7 K7.out.ss K7.out.tab).mono ?_
  rintro e w8 ⟨rfl, hst, ho⟩
  have K8 := Lib.hid (show Frk w w8 gs gf gg [] (nb a ++ nb c) (nb a ++ nb c) from
    ⟨K7.out.tab.only (by omega) ho, hgw, hgsf, K7.out.o3, hst, K7.out.sf.only ho (by omega), K7.out.sg.only ho (by have := K7.out.o3; omega), only_new K7.out.below ho (Nat.le_refl _) hgw⟩)
  clear hst ho K7
  go_wp2_with fail
  refine (writeText_any gs [] c w8 K8.out.ss K8.out.tab (by omega) (by simp; omega)).mono ?_
  rintro e w9 ⟨rfl, hst, ho⟩
  rw [List.nil_append] at hst
  have K9 := Lib.hid (show Frk w w9 gs gf gg (nb c) (nb a ++ nb c) (nb a ++ nb c) from
    ⟨K8.out.tab.only (by omega) ho, hgw, hgsf, K8.out.o3, hst, K8.out.sf.only ho (by omega), K8.out.sg.only ho (by have := K8.out.o3; omega), only_new K8.out.below ho (Nat.le_refl _) hgw⟩)
  clear hst ho K8
  go_wp2_with fail
  have hgo := K9.out.o3
  refine (reset_at gg _ w9 K9.out.sg K9.out.tab).mono ?_
  rintro e wa ⟨rfl, hst, ho⟩
  have Ka := Lib.hid (show Frk w wa gs gf gg (nb c) (nb a ++ nb c) [] from
    ⟨K9.out.tab.only (by omega) ho, hgw, hgsf, hgo, K9.out.ss.only ho (by omega), K9.out.sf.only ho (by omega), hst, only_new K9.out.below ho (Nat.le_refl _) (by omega)⟩)
  clear hst ho K9
  go_wp2_with fail
  refine (sum_any gs (nb c) wa Ka.out.ss Ka.out.tab (by rw [nb_length]; omega)).mono ?_
  rintro e wb ⟨rfl, hbb⟩
  have Kb := Lib.hid (Ka.out.later hbb)
  clear hbb Ka
  go_wp2_with fail
  refine (of_any c wb Kb.out.tab (by omega)).mono ?_
  rintro e wc ⟨rfl, hbb⟩
  have Kc := Lib.hid (Kb.out.later hbb)
  clear hbb Kb
  go_wp2_with fail
  refine (sum_any gf (nb a ++ nb c) wc Kc.out.sf Kc.out.tab (by rw [List.length_append, nb_length, nb_length]; omega)).mono ?_
  rintro e wd ⟨rfl, hbb⟩
  have Kd := Lib.hid (Kc.out.later hbb)
  clear hbb Kc
  go_wp2_with fail
  refine (of_any (a ++ c) wd Kd.out.tab (by rw [ByteArray.size_append]; omega)).mono ?_
  rintro e we ⟨rfl, hbb⟩
  rw [nb_append]
  have Ke := Lib.hid (Kd.out.later hbb)
  clear hbb Kd
  go_wp2_with fail
  refine (size_any gf (nb a ++ nb c) we Ke.out.sf).mono ?_
  rintro e w' ⟨rfl, rfl⟩
  rw [List.length_append, nb_length, nb_length]
  go_wp2_with fail
  refine (sum_any gg [] we Ke.out.sg Ke.out.tab (by decide)).mono ?_
  rintro e wf ⟨rfl, hbb⟩
  have Kf := Lib.hid (Ke.out.later hbb)
  clear hbb Ke
  go_wp2_with fail
  refine (of_any ⟨#[]⟩ wf Kf.out.tab (by decide)).mono ?_
  rintro e wg ⟨rfl, hbb⟩
  rw [he]
  have Kg := Lib.hid (Kf.out.later hbb)
  clear hbb Kf he
  go_wp2_with fail
  refine (size_any gg [] wg Kg.out.sg).mono ?_
  rintro e w' ⟨rfl, rfl⟩
  rw [List.length_nil]
  go_wp2_with fail
  go_ret
  exact ⟨rfl, Kg.out.below⟩
end Go.Proofs.YtemioilfedpohaaDoor

