/- The walk of the law ShaCuts. -/
import Derived.Test.YtemioilfedpohaaDoorDigEq
import Derived.Test.YtemioilfedpohaaDoorLaid
import Derived.Deep.RegionHeld3
import Derived.Lib.ConvBytes
namespace Go.Proofs.YtemioilfedpohaaDoor
set_option linter.unusedVariables false
set_option linter.unusedSimpArgs false
open Go.RowKit

theorem nb_extract2 (u : ByteArray) (a b : Nat) (h : b ≤ u.size) : nb (u.extract a b) = ((nb u).drop a).take (b - a) := by
  have hs : u.data.toList.length = u.size := by simp
  simp only [nb, ByteArray.data_extract, Array.toList_extract, List.extract_eq_drop_take', List.map_drop, List.map_take]
theorem take_more (T : List Nat) (a m : Nat) : T.take a ++ (T.drop a).take m = T.take (a + m) := by rw [List.take_add]

/-- one State stands -/
structure OneSt (w0 w : World) (g : Nat) (T : List Nat) : Prop where
  tab : Tab w
  o : w0.heap.size ≤ g
  st : StAt w g T
  below : Below w0.heap.size w0 w
theorem OneSt.later {w0 w w' : World} {g : Nat} {T : List Nat} (H : OneSt w0 w g T) (hb : Below w.heap.size w w') : OneSt w0 w' g T :=
  ⟨H.tab.below hb H.tab.two, H.o, H.st.below hb H.st.lt, H.below.trans (hb.mono H.below.size)⟩
theorem OneSt.only {w0 w w' : World} {g : Nat} {T T' : List Nat} (H : OneSt w0 w g T) (hg : 2 ≤ g) (hs : StAt w' g T') (ho : w.grownBy w' (some g)) : OneSt w0 w' g T' :=
  ⟨H.tab.only hg ho, H.o, hs, only_new H.below ho (Nat.le_refl _) H.o⟩
theorem OneSt.drew {w0 w : World} {g : Nat} {T : List Nat} (H : OneSt w0 w g T) : OneSt w0 w.drew g T :=
  H.later ⟨rfl, rfl, rfl, Nat.le_refl _, fun _ _ => rfl⟩
theorem below_bytes (w : World) (e : TypeId) (s : ByteArray) : Below w.heap.size w (Lib.bytesWorld w e s) :=
  ⟨rfl, rfl, rfl, by rw [Lib.bytesWorld_size]; omega, fun k hk => Lib.bytesWorld_at_old w e s k hk⟩
theorem rdb_bytes (w : World) (e : TypeId) (s : ByteArray) (g : Nat) (hg : g < w.heap.size) : RdB (Lib.bytesWorld w e s) g (some ⟨w.heap.size, 0, none⟩) (nb s) := ⟨fun _ => by
  refine ⟨_, rfl, by simp; omega, by rw [Lib.bytesWorld_size]; simp, fun j hj => ?_⟩
  rw [nb_length] at hj
  have hadd : (⟨w.heap.size, 0, none⟩ : Addr).add j = ⟨w.heap.size, j, none⟩ := by unfold Addr.add; split <;> simp_all
  rw [hadd, Lib.bytesWorld_cell w e s j hj]
  congr 2
  simp [nb, List.getD_eq_getElem?_getD, show j < s.size from hj]⟩

/-- the row of cuts read -/
theorem IsRow.at_ {k : IntKind} {w : World} {a : Option Addr} {len cap : Nat} {zs : List Int} (h : IsRow k w a len cap zs) (h0 : 0 < len) :
    ∃ x, a = some x ∧ x.block < w.heap.size ∧ len ≤ zs.length ∧ ∀ i, i < len → w.cell? (x.add i) = some (.int k (zs.getD i 0)) := by
  rcases h with ⟨_, rfl, _, _⟩ | ⟨x, rfl, h1, _, h2, h3, _⟩
  · omega
  · have hc := h3 0 (by omega)
    have hb : (x.add 0).block = x.block := by unfold Addr.add; split <;> rfl
    exact ⟨x, rfl, by rw [← hb]; exact block_lt_of_cell hc, by omega, fun i hi => h3 i (by omega)⟩
theorem block_add (a : Addr) (j : Nat) : (a.add j).block = a.block := by unfold Addr.add; split <;> rfl

set_option maxRecDepth 100000 in
set_option maxHeartbeats 2000000 in
theorem shaCuts_walk (s : ByteArray) (hs : s.size ≤ 140737488351232) (a : Option Addr) (len cap : Nat) (zs : List Int) (w : World) (hrow : IsRow .i64 w a len cap zs) (hlen : len * 8 ≤ 140737488351232) (hwf : ∀ n ∈ zs, (Lit.int .i64 n).wf = true) (hT : Tab w) :
    Calls Tryd.prog 10 #[.string s, .slice a len cap] w fun e w' => e = .returned (.bool true) ∧ Below w.heap.size w w' := by
  have HT := Lib.hid hT
  have HROW := Lib.hid hrow
  have hw2 := hT.two
  have hde := dig_same
  have hdn := dig_nsame
  clear hT hrow
  go_enter Tryd.func10, Tryd.ntmps10
  go_wp2_with fail
  refine (awake_any w HT.out).mono ?_
  rintro e w1 ⟨rfl, hb1⟩
  have T1 := Lib.hid (HT.out.below hb1 HT.out.two)
  have B1 := Lib.hid hb1
  clear hb1
  go_wp2_with fail
  refine (new_any w1 T1.out).mono ?_
  rintro e w2 ⟨gs, hgs, rfl, hst, hb2⟩
  have O2 := Lib.hid (show OneSt w w2 gs [] from ⟨T1.out.below hb2 T1.out.two, Nat.le_trans B1.out.size hgs, hst, B1.out.trans (hb2.mono B1.out.size)⟩)
  have hgw : w.heap.size ≤ gs := Nat.le_trans B1.out.size hgs
  clear hst hb2 B1 T1 hgs
  go_wp2_with fail
  go_loopw [16, 6] (fun i at_ wr => ∃ k p : Nat, k ≤ len ∧ p ≤ s.size ∧ i = .int .i64 k ∧ at_ = .int .i64 p ∧ OneSt w wr gs ((nb s).take p)) (fun i _ _ => len - (intOf i).toNat)
  case atStart => exact ⟨0, 0, by omega, by omega, rfl, rfl, O2.out⟩
  case round =>
    clear O2
    obtain ⟨k, p, hk, hp, rfl, rfl, hone⟩ := hrel
    by_cases hlt : k < len
    · obtain ⟨x, rfl, hxb, hzl, hcells⟩ := HROW.out.at_ (by omega)
      have c0 : wr.cell? (x.add k) = some (.int .i64 (zs.getD k 0)) := by
        rw [hone.below.cell (by rw [block_add]; exact hxb)]; exact hcells k hlt
      have hwz := bounds_i64 (hwf (zs.getD k 0) (by rw [List.getD_eq_getElem?_getD, List.getElem?_eq_getElem (by omega)]; exact List.getElem_mem _))
      generalize zs.getD k 0 = c at *
      have HO := Lib.hid hone
      clear hone hcells hwf
      have hkI : (k : Int) < len := by omega
      have hk0 : (0 : Int) ≤ k := by omega
      have hpI : (p : Int) ≤ s.size := by omega
      by_cases hc1 : c < 0
      · obtain ⟨m, hm⟩ : ∃ m, m = s.size - p := ⟨_, rfl⟩
        have hm1 : p + m ≤ s.size := by omega
        have hmI : (s.size : Int) - p = m := by omega
        have d1 : decide (c < 0) = true := by simpa using hc1
        have d2 : True := trivial
        clear hm
        go_wp2_with fail
        refine (writeText_any gs ((nb s).take p) (s.extract p (p + m)) wr HO.out.st HO.out.tab (by omega) (by rw [List.length_take, nb_length, ByteArray.size_extract]; omega)).mono ?_
        rintro e w4 ⟨rfl, hst, ho⟩
        rw [nb_extract2 _ _ _ hm1, show p + m - p = m by omega, take_more] at hst
        have H4 := Lib.hid (HO.out.only (by omega) hst ho)
        clear hst ho HO d1 d2
        have hpm : ((p : Int) + m) = ((p + m : Nat) : Int) := by omega
        have hpl : ((nb s).take (p + m)).length = p + m := by rw [List.length_take, nb_length]; omega
        have hex : nb (s.extract 0 (p + m)) = (nb s).take (p + m) := by rw [nb_extract2 _ _ _ hm1]; simp
        obtain ⟨q, hq⟩ : ∃ q, q = p + m := ⟨_, rfl⟩
        rw [← hq] at hpm hpl hex hm1 H4
        have hqI0 : (0 : Int) ≤ q := by omega
        have hqI1 : (q : Int) ≤ s.size := by omega
        have HQ := Lib.hid hq
        have HPL := Lib.hid hpl
        have HEX := Lib.hid hex
        clear hq hpl hex
        go_wp2_with fail
        clear hpm
        refine wp_region_noPanic ?_
        refine wp_region_held_drew (S := fun w' => OneSt w w' gs ((nb s).take q)) (by kernel_rfl) H4.out.drew (fun hHeld => ?_)
        clear H4
        refine wpAnyH_take (i := 0) (oi := _) (v := (.pointer (some ⟨gs, 0, none⟩))) rfl (by kernel_rfl) (by kernel_rfl) (by kernel_rfl) (fun _ _ _ h => h) (Or.inl ⟨by rfl, fun w' _ => by go_simp⟩) hHeld ?_
        try simp only [Act.put, List.getElem_toArray, List.getElem_cons_succ, List.getElem_cons_zero, List.setIfInBounds_toArray, List.set_cons_zero, List.set_cons_succ]
        refine wpAnyH_take (i := 1) (oi := _) (v := (.pointer (some ⟨gs, 0, none⟩))) rfl (by kernel_rfl) (by kernel_rfl) (by kernel_rfl) (fun _ _ _ h => h) (Or.inl ⟨by rfl, fun w' _ => by go_simp⟩) hHeld ?_
        try simp only [Act.put, List.getElem_toArray, List.getElem_cons_succ, List.getElem_cons_zero, List.setIfInBounds_toArray, List.set_cons_zero, List.set_cons_succ]
        refine wpAnyH_take (i := 2) (oi := _) (v := (.pointer (some ⟨gs, 0, none⟩))) rfl (by kernel_rfl) (by kernel_rfl) (by kernel_rfl) (fun _ _ _ h => h) (Or.inl ⟨by rfl, fun w' _ => by go_simp⟩) hHeld ?_
        try simp only [Act.put, List.getElem_toArray, List.getElem_cons_succ, List.getElem_cons_zero, List.setIfInBounds_toArray, List.set_cons_zero, List.set_cons_succ]
        refine wpAnyH_take (i := 4) (oi := _) (v := (.int .i64 (q : Int))) rfl (by kernel_rfl) (by kernel_rfl) (by kernel_rfl) (fun _ _ _ h => h) (Or.inl ⟨by rfl, fun w' _ => by go_simp⟩) hHeld ?_
        try simp only [Act.put, List.getElem_toArray, List.getElem_cons_succ, List.getElem_cons_zero, List.setIfInBounds_toArray, List.set_cons_zero, List.set_cons_succ]
        refine wpAnyH_ready (rs := [3]) (by kernel_rfl) (by simp) ?_
        refine AllReadyH.cons (o := _) rfl (fun K hK => ?_) AllReadyH.nil
        rw [if_pos (by rfl)]
        go_simp
        go_at_call 26
        refine (size_any gs _ _ hHeld.st).mono ?_
        rintro e w5 ⟨rfl, rfl⟩
        rw [HPL.out]
        refine hK.out _ _ hHeld (fun hHeld => ?_)
        clear hK K
        try dsimp only
        try simp only [Act.put, List.getElem_toArray, List.getElem_cons_succ, List.getElem_cons_zero, List.setIfInBounds_toArray, List.set_cons_zero, List.set_cons_succ]
        refine wpAnyH_take (i := 5) (oi := _) (v := (.bool false)) rfl (by kernel_rfl) (by kernel_rfl) (by kernel_rfl) (fun _ _ _ h => h) (Or.inl ⟨by rfl, fun w' _ => by go_simp⟩) hHeld ?_
        try simp only [Act.put, List.getElem_toArray, List.getElem_cons_succ, List.getElem_cons_zero, List.setIfInBounds_toArray, List.set_cons_zero, List.set_cons_succ]
        refine wpAnyH_take (i := 6) (oi := _) (v := (.bool false)) rfl (by kernel_rfl) (by kernel_rfl) (by kernel_rfl) (fun _ _ _ h => h) (Or.inl ⟨by rfl, fun w' _ => by go_simp⟩) hHeld ?_
        try simp only [Act.put, List.getElem_toArray, List.getElem_cons_succ, List.getElem_cons_zero, List.setIfInBounds_toArray, List.set_cons_zero, List.set_cons_succ]
        refine wpAnyH_take (i := 7) (oi := _) (v := (.pointer (some ⟨gs, 0, none⟩))) rfl (by kernel_rfl) (by kernel_rfl) (by kernel_rfl) (fun _ _ _ h => h) (Or.inl ⟨by rfl, fun w' _ => by go_simp⟩) hHeld ?_
        try simp only [Act.put, List.getElem_toArray, List.getElem_cons_succ, List.getElem_cons_zero, List.setIfInBounds_toArray, List.set_cons_zero, List.set_cons_succ]
        refine wpAnyH_take (i := 9) (oi := _) (v := (.string s)) rfl (by kernel_rfl) (by kernel_rfl) (by kernel_rfl) (fun _ _ _ h => h) (Or.inl ⟨by rfl, fun w' _ => by go_simp⟩) hHeld ?_
        try simp only [Act.put, List.getElem_toArray, List.getElem_cons_succ, List.getElem_cons_zero, List.setIfInBounds_toArray, List.set_cons_zero, List.set_cons_succ]
        refine wpAnyH_take (i := 10) (oi := _) (v := (.int .i64 (q : Int))) rfl (by kernel_rfl) (by kernel_rfl) (by kernel_rfl) (fun _ _ _ h => h) (Or.inl ⟨by rfl, fun w' _ => by go_simp⟩) hHeld ?_
        try simp only [Act.put, List.getElem_toArray, List.getElem_cons_succ, List.getElem_cons_zero, List.setIfInBounds_toArray, List.set_cons_zero, List.set_cons_succ]
        refine wpAnyH_take (i := 11) (oi := _) (v := (.string (s.extract 0 q))) rfl (by kernel_rfl) (by kernel_rfl) (by kernel_rfl) (fun _ _ _ h => h) (Or.inl ⟨by rfl, fun w' _ => by go_simp⟩) hHeld ?_
        try simp only [Act.put, List.getElem_toArray, List.getElem_cons_succ, List.getElem_cons_zero, List.setIfInBounds_toArray, List.set_cons_zero, List.set_cons_succ]
        refine wpAnyH_ready (rs := [8]) (by kernel_rfl) (by simp) ?_
        refine AllReadyH.cons (o := _) rfl (fun K hK => ?_) AllReadyH.nil
        rw [if_pos (by rfl)]
        go_simp
        go_at_call 25
        refine (sum_any gs _ _ hHeld.st hHeld.tab (by rw [HPL.out]; omega)).mono ?_
        rintro e w6 ⟨rfl, hb6⟩
        refine hK.out _ _ (hHeld.later hb6) (fun hHeld => ?_)
        clear hK K hb6
        try dsimp only
        try simp only [Act.put, List.getElem_toArray, List.getElem_cons_succ, List.getElem_cons_zero, List.setIfInBounds_toArray, List.set_cons_zero, List.set_cons_succ]
        refine wpAnyH_ready (rs := [12]) (by kernel_rfl) (by simp) ?_
        refine AllReadyH.cons (o := _) rfl (fun K hK => ?_) AllReadyH.nil
        rw [if_pos (by rfl)]
        go_simp
        go_at_call 16
        refine (of_any (s.extract 0 q) _ hHeld.tab (by rw [ByteArray.size_extract]; omega)).mono ?_
        rintro e w7 ⟨rfl, hb7⟩
        rw [HEX.out]
        refine hK.out _ _ (hHeld.later hb7) (fun hHeld => ?_)
        clear hK K hb7
        try dsimp only
        try simp only [Act.put, List.getElem_toArray, List.getElem_cons_succ, List.getElem_cons_zero, List.setIfInBounds_toArray, List.set_cons_zero, List.set_cons_succ]
        refine wpAnyH_take (i := 13) (oi := _) (v := (.bool false)) rfl (by kernel_rfl) (by kernel_rfl) (by kernel_rfl) (fun _ _ _ h => h) (Or.inl ⟨by rfl, fun w' _ => by go_simp⟩) hHeld ?_
        try simp only [Act.put, List.getElem_toArray, List.getElem_cons_succ, List.getElem_cons_zero, List.setIfInBounds_toArray, List.set_cons_zero, List.set_cons_succ]
        refine wpAnyH_take (i := 14) (oi := _) (v := (.bool false)) rfl (by kernel_rfl) (by kernel_rfl) (by kernel_rfl) (fun _ _ _ h => h) (Or.inl ⟨by rfl, fun w' _ => by go_simp⟩) hHeld ?_
        try simp only [Act.put, List.getElem_toArray, List.getElem_cons_succ, List.getElem_cons_zero, List.setIfInBounds_toArray, List.set_cons_zero, List.set_cons_succ]
        refine wpAnyH_done (by kernel_rfl) ?_ _
        refine NoPanic.normal ?_
        have H8 := Lib.hid hHeld
        clear hHeld
        go_wp2_with fail
        go_roundw
        case rel => exact ⟨k + 1, q, by omega, by omega, by go_num, rfl, H8.out⟩
        case measure => simp [intOf]; omega
      · by_cases hc2 : c > (s.size : Int) - p
        · obtain ⟨m, hm⟩ : ∃ m, m = s.size - p := ⟨_, rfl⟩
          have hm1 : p + m ≤ s.size := by omega
          have hmI : (s.size : Int) - p = m := by omega
          have d1 : decide (c < 0) = false := by simpa using hc1
          have d2 : decide ((m : Int) < c) = true := by simp; omega
          clear hm
          go_wp2_with fail
          refine (writeText_any gs ((nb s).take p) (s.extract p (p + m)) wr HO.out.st HO.out.tab (by omega) (by rw [List.length_take, nb_length, ByteArray.size_extract]; omega)).mono ?_
          rintro e w4 ⟨rfl, hst, ho⟩
          rw [nb_extract2 _ _ _ hm1, show p + m - p = m by omega, take_more] at hst
          have H4 := Lib.hid (HO.out.only (by omega) hst ho)
          clear hst ho HO d1 d2
          have hpm : ((p : Int) + m) = ((p + m : Nat) : Int) := by omega
          have hpl : ((nb s).take (p + m)).length = p + m := by rw [List.length_take, nb_length]; omega
          have hex : nb (s.extract 0 (p + m)) = (nb s).take (p + m) := by rw [nb_extract2 _ _ _ hm1]; simp
          obtain ⟨q, hq⟩ : ∃ q, q = p + m := ⟨_, rfl⟩
          rw [← hq] at hpm hpl hex hm1 H4
          have hqI0 : (0 : Int) ≤ q := by omega
          have hqI1 : (q : Int) ≤ s.size := by omega
          have HQ := Lib.hid hq
          have HPL := Lib.hid hpl
          have HEX := Lib.hid hex
          clear hq hpl hex
          go_wp2_with fail
          clear hpm
          refine wp_region_noPanic ?_
          refine wp_region_held_drew (S := fun w' => OneSt w w' gs ((nb s).take q)) (by kernel_rfl) H4.out.drew (fun hHeld => ?_)
          clear H4
          refine wpAnyH_take (i := 0) (oi := _) (v := (.pointer (some ⟨gs, 0, none⟩))) rfl (by kernel_rfl) (by kernel_rfl) (by kernel_rfl) (fun _ _ _ h => h) (Or.inl ⟨by rfl, fun w' _ => by go_simp⟩) hHeld ?_
          try simp only [Act.put, List.getElem_toArray, List.getElem_cons_succ, List.getElem_cons_zero, List.setIfInBounds_toArray, List.set_cons_zero, List.set_cons_succ]
          refine wpAnyH_take (i := 1) (oi := _) (v := (.pointer (some ⟨gs, 0, none⟩))) rfl (by kernel_rfl) (by kernel_rfl) (by kernel_rfl) (fun _ _ _ h => h) (Or.inl ⟨by rfl, fun w' _ => by go_simp⟩) hHeld ?_
          try simp only [Act.put, List.getElem_toArray, List.getElem_cons_succ, List.getElem_cons_zero, List.setIfInBounds_toArray, List.set_cons_zero, List.set_cons_succ]
          refine wpAnyH_take (i := 2) (oi := _) (v := (.pointer (some ⟨gs, 0, none⟩))) rfl (by kernel_rfl) (by kernel_rfl) (by kernel_rfl) (fun _ _ _ h => h) (Or.inl ⟨by rfl, fun w' _ => by go_simp⟩) hHeld ?_
          try simp only [Act.put, List.getElem_toArray, List.getElem_cons_succ, List.getElem_cons_zero, List.setIfInBounds_toArray, List.set_cons_zero, List.set_cons_succ]
          refine wpAnyH_take (i := 4) (oi := _) (v := (.int .i64 (q : Int))) rfl (by kernel_rfl) (by kernel_rfl) (by kernel_rfl) (fun _ _ _ h => h) (Or.inl ⟨by rfl, fun w' _ => by go_simp⟩) hHeld ?_
          try simp only [Act.put, List.getElem_toArray, List.getElem_cons_succ, List.getElem_cons_zero, List.setIfInBounds_toArray, List.set_cons_zero, List.set_cons_succ]
          refine wpAnyH_ready (rs := [3]) (by kernel_rfl) (by simp) ?_
          refine AllReadyH.cons (o := _) rfl (fun K hK => ?_) AllReadyH.nil
          rw [if_pos (by rfl)]
          go_simp
          go_at_call 26
          refine (size_any gs _ _ hHeld.st).mono ?_
          rintro e w5 ⟨rfl, rfl⟩
          rw [HPL.out]
          refine hK.out _ _ hHeld (fun hHeld => ?_)
          clear hK K
          try dsimp only
          try simp only [Act.put, List.getElem_toArray, List.getElem_cons_succ, List.getElem_cons_zero, List.setIfInBounds_toArray, List.set_cons_zero, List.set_cons_succ]
          refine wpAnyH_take (i := 5) (oi := _) (v := (.bool false)) rfl (by kernel_rfl) (by kernel_rfl) (by kernel_rfl) (fun _ _ _ h => h) (Or.inl ⟨by rfl, fun w' _ => by go_simp⟩) hHeld ?_
          try simp only [Act.put, List.getElem_toArray, List.getElem_cons_succ, List.getElem_cons_zero, List.setIfInBounds_toArray, List.set_cons_zero, List.set_cons_succ]
          refine wpAnyH_take (i := 6) (oi := _) (v := (.bool false)) rfl (by kernel_rfl) (by kernel_rfl) (by kernel_rfl) (fun _ _ _ h => h) (Or.inl ⟨by rfl, fun w' _ => by go_simp⟩) hHeld ?_
          try simp only [Act.put, List.getElem_toArray, List.getElem_cons_succ, List.getElem_cons_zero, List.setIfInBounds_toArray, List.set_cons_zero, List.set_cons_succ]
          refine wpAnyH_take (i := 7) (oi := _) (v := (.pointer (some ⟨gs, 0, none⟩))) rfl (by kernel_rfl) (by kernel_rfl) (by kernel_rfl) (fun _ _ _ h => h) (Or.inl ⟨by rfl, fun w' _ => by go_simp⟩) hHeld ?_
          try simp only [Act.put, List.getElem_toArray, List.getElem_cons_succ, List.getElem_cons_zero, List.setIfInBounds_toArray, List.set_cons_zero, List.set_cons_succ]
          refine wpAnyH_take (i := 9) (oi := _) (v := (.string s)) rfl (by kernel_rfl) (by kernel_rfl) (by kernel_rfl) (fun _ _ _ h => h) (Or.inl ⟨by rfl, fun w' _ => by go_simp⟩) hHeld ?_
          try simp only [Act.put, List.getElem_toArray, List.getElem_cons_succ, List.getElem_cons_zero, List.setIfInBounds_toArray, List.set_cons_zero, List.set_cons_succ]
          refine wpAnyH_take (i := 10) (oi := _) (v := (.int .i64 (q : Int))) rfl (by kernel_rfl) (by kernel_rfl) (by kernel_rfl) (fun _ _ _ h => h) (Or.inl ⟨by rfl, fun w' _ => by go_simp⟩) hHeld ?_
          try simp only [Act.put, List.getElem_toArray, List.getElem_cons_succ, List.getElem_cons_zero, List.setIfInBounds_toArray, List.set_cons_zero, List.set_cons_succ]
          refine wpAnyH_take (i := 11) (oi := _) (v := (.string (s.extract 0 q))) rfl (by kernel_rfl) (by kernel_rfl) (by kernel_rfl) (fun _ _ _ h => h) (Or.inl ⟨by rfl, fun w' _ => by go_simp⟩) hHeld ?_
          try simp only [Act.put, List.getElem_toArray, List.getElem_cons_succ, List.getElem_cons_zero, List.setIfInBounds_toArray, List.set_cons_zero, List.set_cons_succ]
          refine wpAnyH_ready (rs := [8]) (by kernel_rfl) (by simp) ?_
          refine AllReadyH.cons (o := _) rfl (fun K hK => ?_) AllReadyH.nil
          rw [if_pos (by rfl)]
          go_simp
          go_at_call 25
          refine (sum_any gs _ _ hHeld.st hHeld.tab (by rw [HPL.out]; omega)).mono ?_
          rintro e w6 ⟨rfl, hb6⟩
          refine hK.out _ _ (hHeld.later hb6) (fun hHeld => ?_)
          clear hK K hb6
          try dsimp only
          try simp only [Act.put, List.getElem_toArray, List.getElem_cons_succ, List.getElem_cons_zero, List.setIfInBounds_toArray, List.set_cons_zero, List.set_cons_succ]
          refine wpAnyH_ready (rs := [12]) (by kernel_rfl) (by simp) ?_
          refine AllReadyH.cons (o := _) rfl (fun K hK => ?_) AllReadyH.nil
          rw [if_pos (by rfl)]
          go_simp
          go_at_call 16
          refine (of_any (s.extract 0 q) _ hHeld.tab (by rw [ByteArray.size_extract]; omega)).mono ?_
          rintro e w7 ⟨rfl, hb7⟩
          rw [HEX.out]
          refine hK.out _ _ (hHeld.later hb7) (fun hHeld => ?_)
          clear hK K hb7
          try dsimp only
          try simp only [Act.put, List.getElem_toArray, List.getElem_cons_succ, List.getElem_cons_zero, List.setIfInBounds_toArray, List.set_cons_zero, List.set_cons_succ]
          refine wpAnyH_take (i := 13) (oi := _) (v := (.bool false)) rfl (by kernel_rfl) (by kernel_rfl) (by kernel_rfl) (fun _ _ _ h => h) (Or.inl ⟨by rfl, fun w' _ => by go_simp⟩) hHeld ?_
          try simp only [Act.put, List.getElem_toArray, List.getElem_cons_succ, List.getElem_cons_zero, List.setIfInBounds_toArray, List.set_cons_zero, List.set_cons_succ]
          refine wpAnyH_take (i := 14) (oi := _) (v := (.bool false)) rfl (by kernel_rfl) (by kernel_rfl) (by kernel_rfl) (fun _ _ _ h => h) (Or.inl ⟨by rfl, fun w' _ => by go_simp⟩) hHeld ?_
          try simp only [Act.put, List.getElem_toArray, List.getElem_cons_succ, List.getElem_cons_zero, List.setIfInBounds_toArray, List.set_cons_zero, List.set_cons_succ]
          refine wpAnyH_done (by kernel_rfl) ?_ _
          refine NoPanic.normal ?_
          have H8 := Lib.hid hHeld
          clear hHeld
          go_wp2_with fail
          go_roundw
          case rel => exact ⟨k + 1, q, by omega, by omega, by go_num, rfl, H8.out⟩
          case measure => simp [intOf]; omega
        · obtain ⟨m, rfl⟩ : ∃ m : Nat, c = m := ⟨c.toNat, by omega⟩
          have hm1 : p + m ≤ s.size := by omega
          have d1 : decide ((m : Int) < 0) = false := by simp
          have d2 : decide ((s.size : Int) - p < m) = false := by simp; omega
          go_wp2_with fail
          refine (writeText_any gs ((nb s).take p) (s.extract p (p + m)) wr HO.out.st HO.out.tab (by omega) (by rw [List.length_take, nb_length, ByteArray.size_extract]; omega)).mono ?_
          rintro e w4 ⟨rfl, hst, ho⟩
          rw [nb_extract2 _ _ _ hm1, show p + m - p = m by omega, take_more] at hst
          have H4 := Lib.hid (HO.out.only (by omega) hst ho)
          clear hst ho HO d1 d2
          have hpm : ((p : Int) + m) = ((p + m : Nat) : Int) := by omega
          have hpl : ((nb s).take (p + m)).length = p + m := by rw [List.length_take, nb_length]; omega
          have hex : nb (s.extract 0 (p + m)) = (nb s).take (p + m) := by rw [nb_extract2 _ _ _ hm1]; simp
          obtain ⟨q, hq⟩ : ∃ q, q = p + m := ⟨_, rfl⟩
          rw [← hq] at hpm hpl hex hm1 H4
          have hqI0 : (0 : Int) ≤ q := by omega
          have hqI1 : (q : Int) ≤ s.size := by omega
          have HQ := Lib.hid hq
          have HPL := Lib.hid hpl
          have HEX := Lib.hid hex
          clear hq hpl hex
          go_wp2_with fail
          clear hpm
          refine wp_region_noPanic ?_
          refine wp_region_held_drew (S := fun w' => OneSt w w' gs ((nb s).take q)) (by kernel_rfl) H4.out.drew (fun hHeld => ?_)
          clear H4
          refine wpAnyH_take (i := 0) (oi := _) (v := (.pointer (some ⟨gs, 0, none⟩))) rfl (by kernel_rfl) (by kernel_rfl) (by kernel_rfl) (fun _ _ _ h => h) (Or.inl ⟨by rfl, fun w' _ => by go_simp⟩) hHeld ?_
          try simp only [Act.put, List.getElem_toArray, List.getElem_cons_succ, List.getElem_cons_zero, List.setIfInBounds_toArray, List.set_cons_zero, List.set_cons_succ]
          refine wpAnyH_take (i := 1) (oi := _) (v := (.pointer (some ⟨gs, 0, none⟩))) rfl (by kernel_rfl) (by kernel_rfl) (by kernel_rfl) (fun _ _ _ h => h) (Or.inl ⟨by rfl, fun w' _ => by go_simp⟩) hHeld ?_
          try simp only [Act.put, List.getElem_toArray, List.getElem_cons_succ, List.getElem_cons_zero, List.setIfInBounds_toArray, List.set_cons_zero, List.set_cons_succ]
          refine wpAnyH_take (i := 2) (oi := _) (v := (.pointer (some ⟨gs, 0, none⟩))) rfl (by kernel_rfl) (by kernel_rfl) (by kernel_rfl) (fun _ _ _ h => h) (Or.inl ⟨by rfl, fun w' _ => by go_simp⟩) hHeld ?_
          try simp only [Act.put, List.getElem_toArray, List.getElem_cons_succ, List.getElem_cons_zero, List.setIfInBounds_toArray, List.set_cons_zero, List.set_cons_succ]
          refine wpAnyH_take (i := 4) (oi := _) (v := (.int .i64 (q : Int))) rfl (by kernel_rfl) (by kernel_rfl) (by kernel_rfl) (fun _ _ _ h => h) (Or.inl ⟨by rfl, fun w' _ => by go_simp⟩) hHeld ?_
          try simp only [Act.put, List.getElem_toArray, List.getElem_cons_succ, List.getElem_cons_zero, List.setIfInBounds_toArray, List.set_cons_zero, List.set_cons_succ]
          refine wpAnyH_ready (rs := [3]) (by kernel_rfl) (by simp) ?_
          refine AllReadyH.cons (o := _) rfl (fun K hK => ?_) AllReadyH.nil
          rw [if_pos (by rfl)]
          go_simp
          go_at_call 26
          refine (size_any gs _ _ hHeld.st).mono ?_
          rintro e w5 ⟨rfl, rfl⟩
          rw [HPL.out]
          refine hK.out _ _ hHeld (fun hHeld => ?_)
          clear hK K
          try dsimp only
          try simp only [Act.put, List.getElem_toArray, List.getElem_cons_succ, List.getElem_cons_zero, List.setIfInBounds_toArray, List.set_cons_zero, List.set_cons_succ]
          refine wpAnyH_take (i := 5) (oi := _) (v := (.bool false)) rfl (by kernel_rfl) (by kernel_rfl) (by kernel_rfl) (fun _ _ _ h => h) (Or.inl ⟨by rfl, fun w' _ => by go_simp⟩) hHeld ?_
          try simp only [Act.put, List.getElem_toArray, List.getElem_cons_succ, List.getElem_cons_zero, List.setIfInBounds_toArray, List.set_cons_zero, List.set_cons_succ]
          refine wpAnyH_take (i := 6) (oi := _) (v := (.bool false)) rfl (by kernel_rfl) (by kernel_rfl) (by kernel_rfl) (fun _ _ _ h => h) (Or.inl ⟨by rfl, fun w' _ => by go_simp⟩) hHeld ?_
          try simp only [Act.put, List.getElem_toArray, List.getElem_cons_succ, List.getElem_cons_zero, List.setIfInBounds_toArray, List.set_cons_zero, List.set_cons_succ]
          refine wpAnyH_take (i := 7) (oi := _) (v := (.pointer (some ⟨gs, 0, none⟩))) rfl (by kernel_rfl) (by kernel_rfl) (by kernel_rfl) (fun _ _ _ h => h) (Or.inl ⟨by rfl, fun w' _ => by go_simp⟩) hHeld ?_
          try simp only [Act.put, List.getElem_toArray, List.getElem_cons_succ, List.getElem_cons_zero, List.setIfInBounds_toArray, List.set_cons_zero, List.set_cons_succ]
          refine wpAnyH_take (i := 9) (oi := _) (v := (.string s)) rfl (by kernel_rfl) (by kernel_rfl) (by kernel_rfl) (fun _ _ _ h => h) (Or.inl ⟨by rfl, fun w' _ => by go_simp⟩) hHeld ?_
          try simp only [Act.put, List.getElem_toArray, List.getElem_cons_succ, List.getElem_cons_zero, List.setIfInBounds_toArray, List.set_cons_zero, List.set_cons_succ]
          refine wpAnyH_take (i := 10) (oi := _) (v := (.int .i64 (q : Int))) rfl (by kernel_rfl) (by kernel_rfl) (by kernel_rfl) (fun _ _ _ h => h) (Or.inl ⟨by rfl, fun w' _ => by go_simp⟩) hHeld ?_
          try simp only [Act.put, List.getElem_toArray, List.getElem_cons_succ, List.getElem_cons_zero, List.setIfInBounds_toArray, List.set_cons_zero, List.set_cons_succ]
          refine wpAnyH_take (i := 11) (oi := _) (v := (.string (s.extract 0 q))) rfl (by kernel_rfl) (by kernel_rfl) (by kernel_rfl) (fun _ _ _ h => h) (Or.inl ⟨by rfl, fun w' _ => by go_simp⟩) hHeld ?_
          try simp only [Act.put, List.getElem_toArray, List.getElem_cons_succ, List.getElem_cons_zero, List.setIfInBounds_toArray, List.set_cons_zero, List.set_cons_succ]
          refine wpAnyH_ready (rs := [8]) (by kernel_rfl) (by simp) ?_
          refine AllReadyH.cons (o := _) rfl (fun K hK => ?_) AllReadyH.nil
          rw [if_pos (by rfl)]
          go_simp
          go_at_call 25
          refine (sum_any gs _ _ hHeld.st hHeld.tab (by rw [HPL.out]; omega)).mono ?_
          rintro e w6 ⟨rfl, hb6⟩
          refine hK.out _ _ (hHeld.later hb6) (fun hHeld => ?_)
          clear hK K hb6
          try dsimp only
          try simp only [Act.put, List.getElem_toArray, List.getElem_cons_succ, List.getElem_cons_zero, List.setIfInBounds_toArray, List.set_cons_zero, List.set_cons_succ]
          refine wpAnyH_ready (rs := [12]) (by kernel_rfl) (by simp) ?_
          refine AllReadyH.cons (o := _) rfl (fun K hK => ?_) AllReadyH.nil
          rw [if_pos (by rfl)]
          go_simp
          go_at_call 16
          refine (of_any (s.extract 0 q) _ hHeld.tab (by rw [ByteArray.size_extract]; omega)).mono ?_
          rintro e w7 ⟨rfl, hb7⟩
          rw [HEX.out]
          refine hK.out _ _ (hHeld.later hb7) (fun hHeld => ?_)
          clear hK K hb7
          try dsimp only
          try simp only [Act.put, List.getElem_toArray, List.getElem_cons_succ, List.getElem_cons_zero, List.setIfInBounds_toArray, List.set_cons_zero, List.set_cons_succ]
          refine wpAnyH_take (i := 13) (oi := _) (v := (.bool false)) rfl (by kernel_rfl) (by kernel_rfl) (by kernel_rfl) (fun _ _ _ h => h) (Or.inl ⟨by rfl, fun w' _ => by go_simp⟩) hHeld ?_
          try simp only [Act.put, List.getElem_toArray, List.getElem_cons_succ, List.getElem_cons_zero, List.setIfInBounds_toArray, List.set_cons_zero, List.set_cons_succ]
          refine wpAnyH_take (i := 14) (oi := _) (v := (.bool false)) rfl (by kernel_rfl) (by kernel_rfl) (by kernel_rfl) (fun _ _ _ h => h) (Or.inl ⟨by rfl, fun w' _ => by go_simp⟩) hHeld ?_
          try simp only [Act.put, List.getElem_toArray, List.getElem_cons_succ, List.getElem_cons_zero, List.setIfInBounds_toArray, List.set_cons_zero, List.set_cons_succ]
          refine wpAnyH_done (by kernel_rfl) ?_ _
          refine NoPanic.normal ?_
          have H8 := Lib.hid hHeld
          clear hHeld
          go_wp2_with fail
          go_roundw
          case rel => exact ⟨k + 1, q, by omega, by omega, by go_num, rfl, H8.out⟩
          case measure => simp [intOf]; omega
    · have HO := Lib.hid hone
      have hcv := fun W => Lib.run_convert_string_bytes (P := Tryd.prog) W 9 45 5 (s.extract p s.size) Tryd.underlying9 Tryd.underlying45 Tryd.underlying5
      have hkI : ¬ (k : Int) < len := by omega
      have hpI0 : (0 : Int) ≤ p := by omega
      have hpI1 : (p : Int) ≤ s.size := by omega
      have hxl : (nb (s.extract p s.size)).length = (s.extract p s.size).size := nb_length _
      have hfull : (nb s).take p ++ nb (s.extract p s.size) = nb s := by rw [nb_extract, List.take_append_drop]
      have hgc := fun W : World => grownCap_ge W (s.extract p s.size).size 0 5
      have hxs : (s.extract p s.size).size ≤ s.size := by rw [ByteArray.size_extract]; omega
      obtain ⟨u, hu⟩ : ∃ u, u = s.extract p s.size := ⟨_, rfl⟩
      rw [← hu] at hcv hxl hfull hgc hxs
      have HU := Lib.hid hu
      have HXL := Lib.hid hxl
      have HF := Lib.hid hfull
      have HGC := Lib.hid hgc
      have hse : s.extract p s.size = u := hu.symm
      clear hu hxl hfull hgc hone
      go_wp2_with fail
      have hob := HO.out.later (below_bytes wr 5 u)
      have hrd := rdb_bytes wr 5 u gs HO.out.st.lt
      rw [← HXL.out]
      refine (write_any gs ((nb s).take p) (nb u) _ _ _ hob.st hob.tab (by omega) (by rw [List.length_take, HXL.out, nb_length]; omega) (nb_bytes u) hrd (by rw [HXL.out]; exact HGC.out wr)).mono ?_
      rintro e w4 ⟨rfl, hst, ho⟩
      rw [HF.out] at hst
      have H4 := Lib.hid (hob.only (by omega) hst ho)
      clear hst ho hob hrd HO hcv hse
      go_wp2_with fail
      refine (sum_any gs (nb s) w4 H4.out.st H4.out.tab (by rw [nb_length]; omega)).mono ?_
      rintro e w5 ⟨rfl, hb5⟩
      have H5 := Lib.hid (H4.out.later hb5)
      clear H4 hb5
      go_wp2_with fail
      refine (of_any s w5 H5.out.tab (by omega)).mono ?_
      rintro e w6 ⟨rfl, hb6⟩
      have H6 := Lib.hid (H5.out.later hb6)
      clear H5 hb6
      go_wp2_with fail
      refine (size_any gs (nb s) w6 H6.out.st).mono ?_
      rintro e w7 ⟨rfl, rfl⟩
      rw [nb_length]
      go_wp2_with fail
      refine (sum_any gs (nb s) w6 H6.out.st H6.out.tab (by rw [nb_length]; omega)).mono ?_
      rintro e w7 ⟨rfl, hb7⟩
      have H7 := Lib.hid (H6.out.later hb7)
      clear H6 hb7
      go_wp2_with fail
      refine (sum_any gs (nb s) w7 H7.out.st H7.out.tab (by rw [nb_length]; omega)).mono ?_
      rintro e w8 ⟨rfl, hb8⟩
      have H8 := Lib.hid (H7.out.later hb8)
      clear H7 hb8
      go_wp2_with fail
      go_ret
      exact ⟨rfl, H8.out.below⟩
theorem IsRow.wf {k : IntKind} {w : World} {a : Option Addr} {len cap : Nat} {zs : List Int} (h : IsRow k w a len cap zs) : ∀ n ∈ zs, (Lit.int k n).wf = true := by
  rcases h with ⟨_, _, _, rfl⟩ | ⟨_, _, _, _, _, _, h⟩
  · simp
  · exact h
theorem shaCuts_all (s : ByteArray) (hs : s.size ≤ 140737488351232) (a : Option Addr) (len cap : Nat) (zs : List Int) (w : World) (hrow : IsRow .i64 w a len cap zs) (hlen : len * 8 ≤ 140737488351232) (hT : Tab w) :
    Calls Tryd.prog 10 #[.string s, .slice a len cap] w fun e w' => e = .returned (.bool true) ∧ Below w.heap.size w w' :=
  shaCuts_walk s hs a len cap zs w hrow hlen hrow.wf hT
end Go.Proofs.YtemioilfedpohaaDoor

