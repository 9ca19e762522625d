/- The walk of the parser's close. -/
import Derived.Test.YtlcppkcclolgcaaPu
namespace Go.Proofs.Ytlcppkcclolgcaa
set_option linter.unusedVariables false
set_option linter.unusedSimpArgs false
open Go.RowKit
open Go.Proofs.YtlcppkcclolgcaaW.PrintLast

theorem wp_own_at {P : Program} (w : World) {o : Oper} {a : Act} {K : Act → World → Prop} {Q : Exit → Act → World → Prop} (s x : Operand) (t : TypeId)
    (ho : o.op = .call { callee := .builtin .append, args := #[s, x], argTypes := #[t, t] })
    (base : Nat) (e : TypeId) (i : TypeInfo) (z : Value) (size bytes : Nat) (ht : P.underlying t = some (.slice e)) (hi : P.info? e = some i) (hz : i.zero = some z)
    (hsize : i.size = size) (hby : i.bytes = bytes) (hzs : z.cells.size = size) (hsz : 0 < size)
    (v : Value) (n : Nat) (xs : List Value) (hs : a.eval s = v) (hown : w.ownsRow base e size v n xs)
    (ad : Addr) (m c : Nat) (news : List Value) (hx : a.eval x = .slice (some ad) m c) (hl : news.length = m * size) (hnews : ∀ j u, news[j]? = some u → w.cell? (ad.add j) = some u) (h1 : ∀ u ∈ news, u.oneCell' = true)
    (h63 : n + m ≤ maxLen) (hbytes : (n + m) * bytes ≤ 140737488355328) (hbase : base ≤ w.heap.size)
    (h : ∀ v' w', w'.ownsRow base e size v' (n + m) (xs ++ news) → w.grownBy w' v.ownBlock → (v'.ownBlock = v.ownBlock ∨ v'.ownBlock = some w.heap.size) → K (a.put o.dst v') w') : o.wp P a w K Q := by
  obtain ⟨v', w', hr, h2, h3, h4, h5⟩ := run_append_own_at (P := P) w base t o.type e i z size bytes ht hi hz hsize hby hzs hsz v n xs hown ad m c news hl hnews h1 h63 hbytes hbase
  unfold Oper.wp execOp
  simp only [ho, resolve, invoke, builtin, Sem.run_bind, Sem.run_pure, Result.andThen_ok, List.map_toArray, List.map_cons, List.map_nil, hs, hx, hr]
  exact h v' w' h2 h3 h5
theorem zero5_one : ∀ u ∈ zero5, u.oneCell' = true := by
  intro u hu
  simp only [zero5, List.mem_cons, List.not_mem_nil, or_false] at hu
  rcases hu with rfl | rfl | rfl | rfl | rfl <;> rfl
theorem owns_row {w : World} {B : Nat} {e : TypeId} {sz n m : Nat} {v : Value} {xs : List Value} (h : w.ownsRow B e sz v n xs) (hn : n = m + 1) : ∃ g c, v = .slice (some ⟨g, 0, none⟩) (m + 1) c := by
  subst hn
  obtain ⟨_, ⟨_, h0⟩ | ⟨g, cap, cur, h, _⟩⟩ := h
  · omega
  · exact ⟨g, cap, h⟩
theorem zero_cells {w : World} {B : Nat} {g n c : Nat} {ks : List Value} (h : w.ownsRow B 79 5 (.slice (some ⟨g, 0, none⟩) (n + 1) c) (n + 1) (ks ++ zero5)) (hk : ks.length = n * 5) : (∀ j, j < 5 → w.cell? ⟨g, n * 5 + j, none⟩ = zero5[j]?) ∧ ∀ j, w.frozen? ⟨g, j, none⟩ = false := by
  have hc := h
  obtain ⟨_, ⟨h2, _⟩ | ⟨g', cap', cur, hv, hb, hg, hn, hm, hs, ht⟩⟩ := h
  · cases h2
  · injection hv with e1 e2 e3
    injection e1 with e1
    injection e1 with e1
    subst e1
    refine ⟨fun j hj => ?_, fun j => frozen_of_row w g j _ _ hg⟩
    have hz : (ks ++ zero5)[n * 5 + j]? = zero5[j]? := by rw [List.getElem?_append_right (by omega), show n * 5 + j - ks.length = j by omega]
    have hjl : j < zero5.length := by simpa [zero5] using hj
    have := hc.cells (g := g) rfl (n * 5 + j) _ (hz.trans (List.getElem?_eq_getElem hjl))
    rw [addr_add0] at this
    rw [this, List.getElem?_eq_getElem hjl]
set_option maxRecDepth 100000 in
set_option maxHeartbeats 4000000 in
theorem pclose_any (w0 : World) (S : Nat → Prop) (B gp : Nat) (fl : Nat → Nat) (p : PS) (gf : Nat) (sv rv : Value) (w : World) (H : PaW w0 S w B gp fl p gf sv rv) (l : Lv) (r : List Lv) (hs : p.x.stack = l :: r) (hr : r.length ≤ 32) (hcn : ∀ m ∈ r, m.node.cnt ≤ 1048576) :
    Calls Try.prog 49 #[.pointer (some ⟨gp, 0, none⟩)] w fun e w' => e = .returned (.tuple #[]) ∧ ∃ fl' sv' rv', PaW w0 S w' B gp fl' { p with x := p.x.close } gf sv' rv' := by
  obtain ⟨gs, cap, kv, ks, T⟩ := H.top hs
  have CT := Lib.hid ((ptop_any w0 S B gp fl p gf sv rv w H gs r.length cap T.sv (by omega)).mono fun e w' h => (show e = .returned (.pointer (some ⟨gs, r.length * 5, none⟩)) ∧ Below w.heap.size w w' from ⟨h.1, by obtain ⟨k, rfl⟩ := h.2; exact below_drw w k⟩))
  have HH := Lib.hid H
  have HT := Lib.hid T
  obtain ⟨A3, l3, k3, hkv⟩ := owns_slice T.own
  have HKV := Lib.hid hkv
  clear H T hkv
  go_enter Try.func49, Try.ntmps49
  go_upto_region 1 with (go_at_call 46; refine CT.out.mono ?_; rintro e w1 ⟨rfl, h1⟩; have HX := Lib.hid (HH.out.later h1); have TX := Lib.hid (HT.out.later h1); have d0 : w1.cell? ⟨gs, r.length * 5, none⟩ = some (.int .i64 l.node.kind) := TX.out.cell 0 (by omega); have d1 : w1.cell? ⟨gs, r.length * 5 + 1, none⟩ = some (.bool l.node.exec) := TX.out.cell 1 (by omega); have d2 : w1.cell? ⟨gs, r.length * 5 + 2, none⟩ = some (.string l.node.text) := TX.out.cell 2 (by omega); have d3 : w1.cell? ⟨gs, r.length * 5 + 3, none⟩ = some (.slice A3 l3 k3) := (TX.out.cell 3 (by omega)).trans (congrArg some HKV.out); clear h1)
  have hB : Below w1.heap.size w1 (w1.alloc (.cells #[.int .i64 l.node.kind, .bool l.node.exec, .string l.node.text, .slice A3 l3 k3] 26)).drew := ((Below.refl _ _).alloc (Nat.le_refl _) _).drew
  have HX2 := Lib.hid (HX.out.later hB)
  have TX2 := Lib.hid (TX.out.later hB)
  have hbx : (w1.alloc (.cells #[.int .i64 l.node.kind, .bool l.node.exec, .string l.node.text, .slice A3 l3 k3] 26)).drew.heap[w1.heap.size]? = some (.cells #[.int .i64 l.node.kind, .bool l.node.exec, .string l.node.text, .slice A3 l3 k3] 26 (0, 0)) := heap_alloc_new w1 _
  have HBX := Lib.hid hbx
  have e9 := HX.out.c9
  rw [TX.out.sv] at e9
  have hgs := TX.out.lt
  have hgp := HX.out.lt
  have e1 : ((r.length + 1 : Nat) : Int) = (r.length : Int) + 1 := by omega
  have hr0 : (0 : Int) ≤ r.length := by omega
  have hr1 : (r.length : Int) ≤ 32 := by omega
  obtain ⟨cr0, _, hrow0, _⟩ := HX.out.stk_top hs TX.out
  rw [TX.out.sv] at hrow0
  obtain ⟨hcap1, hcap2⟩ := owns_cap hrow0
  have hcI : (r.length : Int) ≤ cap := by omega
  have hwr : IntKind.i64.wrap (r.length : Int) = r.length := IntWalk.i64_in _ (by omega)
  clear hB hbx hrow0
  generalize hm : w1.heap.size = m at *
  have hmg : gp ≠ m := by omega
  have hms : gs ≠ m := by omega
  have e9' : (w1.alloc (.cells #[.int .i64 l.node.kind, .bool l.node.exec, .string l.node.text, .slice A3 l3 k3] 26)).cell? ⟨gp, 9, none⟩ = some (.slice (some ⟨gs, 0, none⟩) (r.length + 1) cap) := cell_past e9 _
  clear d0 d1 d2 d3 e9 hm
  generalize w1.alloc (.cells #[.int .i64 l.node.kind, .bool l.node.exec, .string l.node.text, .slice A3 l3 k3] 26) = wA at *
  go_still_tail 12, (by kernel_rfl)
  change wpList _ _ _ _ _ wA.drew
  generalize wA.drew = w2 at *
  clear e9'
  have e9 := HX2.out.c9
  rw [TX2.out.sv] at e9
  have g9 := HX2.out.free 9
  obtain ⟨hp, a, c, hkv, hin⟩ := HX2.out.pop hs TX2.out
  have HP := Lib.hid hp
  have HIN := Lib.hid hin
  have HBX3 := Lib.hid ((Below.heap_setCell w2 ⟨gp, 9, none⟩ (.slice (some ⟨gs, 0, none⟩) r.length cap) m (fun e => hmg e.symm)).trans HBX.out)
  have hkv2 := HKV.out.symm.trans hkv
  injection hkv2 with q1 q2 q3
  subst q1 q2 q3
  clear hp hin hkv
  go_upto_region 2 with fail
  generalize hw3 : w2.setCell ⟨gp, 9, none⟩ (.slice (some ⟨gs, 0, none⟩) r.length cap) = w3 at *
  clear hw3 e9 g9
  have b0 := cell_of_row w3 m 0 _ _ _ HBX3.out
  have b1 := cell_of_row w3 m 1 _ _ _ HBX3.out
  have b2 := cell_of_row w3 m 2 _ _ _ HBX3.out
  have b3 := cell_of_row w3 m 3 _ _ _ HBX3.out
  have c9 := HP.out.c9
  clear hcap1 hcap2 hcI hwr HX TX HX2 TX2 HH HT CT HBX
  cases r with
  | nil =>
    have k0 : ((([] : List Lv).length : Nat) : Int) = 0 := rfl
    have c10 : w3.cell? ⟨gp, 10, none⟩ = some (.int .i64 p.x.root.kind) := HP.out.cell 10
    have c11 : w3.cell? ⟨gp, 11, none⟩ = some (.bool p.x.root.exec) := HP.out.cell 11
    have c12 : w3.cell? ⟨gp, 12, none⟩ = some (.string p.x.root.text) := HP.out.cell 12
    have c13 : w3.cell? ⟨gp, 13, none⟩ = some rv := HP.out.cell 13
    have c6 := HP.out.c6
    have f10 := HP.out.free 10
    have f11 := HP.out.free 11
    have f12 := HP.out.free 12
    have f13 := HP.out.free 13
    have f6 := HP.out.free 6
    have hcl : p.x.close = { p.x with stack := [], root := l.node, whole := true } := by
      unfold WS.close
      rw [hs]
    obtain ⟨w4, hw4⟩ : ∃ w4, w4 = ((((w3.setCell ⟨gp, 10, none⟩ (.int .i64 l.node.kind)).setCell ⟨gp, 11, none⟩ (.bool l.node.exec)).setCell ⟨gp, 12, none⟩ (.string l.node.text)).setCell ⟨gp, 13, none⟩ (.slice A3 l.node.cnt k3)).setCell ⟨gp, 6, none⟩ (.bool true) := ⟨_, rfl⟩
    have hg4 : w3.grownBy w4 (some gp) := by
      rw [hw4]
      exact only_setG (only_setG (only_setG (only_setG (only_setG (World.grownBy.refl w3 _) 10 _) 11 _) 12 _) 13 _) 6 _
    have hrow : w4.heap[gp]? = some (.cells (pcells { p with x := { p.x with stack := [], root := l.node, whole := true } } gf (.slice (some ⟨gs, 0, none⟩) ([] : List Lv).length cap) (.slice A3 l.node.cnt k3)) 52 (0, 0)) := by
      rw [hw4, heap_setCell_same _ gp 6 _ _ _ (heap_setCell_same _ gp 13 _ _ _ (heap_setCell_same _ gp 12 _ _ _ (heap_setCell_same _ gp 11 _ _ _ (heap_setCell_same _ gp 10 _ _ _ HP.out.row))))]
      rfl
    have hq := HP.out.putRoot l.node A3 k3 HIN.out hrow hg4
    have HQ := Lib.hid hq
    have HW4 := Lib.hid hw4
    have HCL := Lib.hid hcl
    clear hq hrow hg4 hw4 hcl HP HIN HBX3
    go_wp2_with fail
    rw [← HW4.out]
    refine bodyPost_ret (v := .tuple #[]) (by simp [results, Try.results49]) rfl ?_
    rw [HCL.out]
    exact ⟨rfl, _, _, _, HQ.out⟩
  | cons m' r' =>
    have HS2 : Hid (({ p with x := { p.x with stack := m' :: r' } } : PS).x.stack = m' :: r') := Lib.hid rfl
    obtain ⟨gs', cap', kv', ks', T'⟩ := HP.out.top HS2.out
    have CT2 := Lib.hid ((ptop_any w0 S B gp _ _ gf _ rv w3 HP.out gs' r'.length cap' T'.sv (by simp only [List.length_cons] at hr; omega)).mono fun e w' h => (show e = .returned (.pointer (some ⟨gs', r'.length * 5, none⟩)) ∧ Below w3.heap.size w3 w' from ⟨h.1, by obtain ⟨k, rfl⟩ := h.2; exact below_drw w3 k⟩))
    have T2 := Lib.hid T'
    obtain ⟨A4, l4, k4, hkv4⟩ := owns_slice T'.own
    have HKV4 := Lib.hid hkv4
    clear T' hkv4
    have hk1 : (((m' :: r').length : Nat) : Int) = (r'.length : Int) + 1 := by simp
    rw [show ((m' :: r').length) = r'.length + 1 from rfl] at c9
    have hk2 : ((r'.length : Int) + 1 == 0) = false := by simp; omega
    go_upto_region 5 with (go_at_call 46; refine CT2.out.mono ?_; rintro e w4 ⟨rfl, h4⟩; have HX4 := Lib.hid (HP.out.later h4); have TX4 := Lib.hid (T2.out.later h4); have HIN4 := Lib.hid (HIN.out.kept (fun b hb h0 => ⟨h4.block b hb, h0⟩)); have HBX4 := Lib.hid ((h4.block m (lt_of_row HBX3.out)).trans HBX3.out); clear h4)
    obtain ⟨hgs2, hcap2⟩ : gs' = gs ∧ cap' = cap := by
      have h := T2.out.sv
      injection h with h1 h2 h3
      injection h1 with h1
      injection h1 with h1
      exact ⟨h1.symm, h3.symm⟩
    subst hgs2
    subst hcap2
    have d3 : w4.cell? ⟨gs', r'.length * 5 + 3, none⟩ = some (.slice A4 l4 k4) := (TX4.out.cell 3 (by omega)).trans (congrArg some HKV4.out)
    have d4 : w4.cell? ⟨gs', r'.length * 5 + 4, none⟩ = some (.string m'.kid) := TX4.out.cell 4 (by omega)
    have e0 : w4.cell? ⟨m, 0, none⟩ = some (.int .i64 l.node.kind) := cell_of_row w4 m 0 _ _ _ HBX4.out
    have e1' : w4.cell? ⟨m, 1, none⟩ = some (.bool l.node.exec) := cell_of_row w4 m 1 _ _ _ HBX4.out
    have e2 : w4.cell? ⟨m, 2, none⟩ = some (.string l.node.text) := cell_of_row w4 m 2 _ _ _ HBX4.out
    have e3 : w4.cell? ⟨m, 3, none⟩ = some (.slice A3 l.node.cnt k3) := cell_of_row w4 m 3 _ _ _ HBX4.out
    have hl4 : l4 = m'.node.cnt := by
      obtain ⟨_, ⟨h, h'⟩ | ⟨g, cap, cur, h, _⟩⟩ := T2.out.own
      · have h2 := HKV4.out; rw [h2] at h; injection h with _ e _; omega
      · have h2 := HKV4.out; rw [h2] at h; injection h
    subst hl4
    have hcm := hcn m' (List.mem_cons_self ..)
    have hml := lt_of_row HBX4.out
    have hgl := TX4.out.lt
    have s3 := cell_past d3 (.cells #[.string ⟨#[]⟩, .int .i64 0, .bool false, .string ⟨#[]⟩, .slice none 0 0] 79)
    have s4 := cell_past d4 (.cells #[.string ⟨#[]⟩, .int .i64 0, .bool false, .string ⟨#[]⟩, .slice none 0 0] 79)
    have t0 := cell_past e0 (.cells #[.string ⟨#[]⟩, .int .i64 0, .bool false, .string ⟨#[]⟩, .slice none 0 0] 79)
    have t1 := cell_past e1' (.cells #[.string ⟨#[]⟩, .int .i64 0, .bool false, .string ⟨#[]⟩, .slice none 0 0] 79)
    have t2 := cell_past e2 (.cells #[.string ⟨#[]⟩, .int .i64 0, .bool false, .string ⟨#[]⟩, .slice none 0 0] 79)
    have t3 := cell_past e3 (.cells #[.string ⟨#[]⟩, .int .i64 0, .bool false, .string ⟨#[]⟩, .slice none 0 0] 79)
    have HSS := Lib.hid (And.intro s3 (And.intro s4 (And.intro t0 (And.intro t1 (And.intro t2 t3)))))
    clear s3 s4 t0 t1 t2 t3 b0 b1 b2 b3
    obtain ⟨i0, hi0, hz0, hz1, hz2⟩ := info_parts (show (Try.prog.info? 79).map (fun i => (i.zero, i.size, i.bytes)) = some (some (.agg #[.string ⟨#[]⟩, .int .i64 0, .bool false, .string ⟨#[]⟩, .slice none 0 0]), 5, 72) by kernel_rfl)
    have hbz : Below w4.heap.size w4 (w4.alloc (.cells #[.string ⟨#[]⟩, .int .i64 0, .bool false, .string ⟨#[]⟩, .slice none 0 0] 79)).drew := ((Below.refl _ _).alloc (Nat.le_refl _) _).drew
    have hoz : (w4.alloc (.cells #[.string ⟨#[]⟩, .int .i64 0, .bool false, .string ⟨#[]⟩, .slice none 0 0] 79)).drew.ownsRow B 79 5 kv' m'.node.cnt ks' := owns_kept TX4.out.own (fun b hb _ => hbz.block b hb)
    have hnew : ∀ j u, zero5[j]? = some u → (w4.alloc (.cells #[.string ⟨#[]⟩, .int .i64 0, .bool false, .string ⟨#[]⟩, .slice none 0 0] 79)).drew.cell? ((⟨w4.heap.size, 0, none⟩ : Addr).add j) = some u := news_cells w4 zero5 79
    have hBz : B ≤ (w4.alloc (.cells #[.string ⟨#[]⟩, .int .i64 0, .bool false, .string ⟨#[]⟩, .slice none 0 0] 79)).drew.heap.size := by
      have h := HX4.out.hB gp (by rw [HX4.out.lab]; omega)
      have h2 := hbz.size
      omega
    have hm63 : m'.node.cnt + 1 ≤ maxLen := by unfold maxLen; omega
    have hm47 : (m'.node.cnt + 1) * 72 ≤ 140737488355328 := by omega
    have HBZ := Lib.hid hbz
    have HOZ := Lib.hid hoz
    have HNEW := Lib.hid hnew
    have HBBZ := Lib.hid hBz
    clear hbz hoz hnew hBz
    refine wp_region_noPanic ?_
    refine wp_region_last_drew (S := fun w' => w'.cell? ⟨gs', r'.length * 5 + 3, none⟩ = some (.slice A4 m'.node.cnt k4) ∧ w'.cell? ⟨gs', r'.length * 5 + 4, none⟩ = some (.string m'.kid) ∧ w'.cell? ⟨m, 0, none⟩ = some (.int .i64 l.node.kind) ∧ w'.cell? ⟨m, 1, none⟩ = some (.bool l.node.exec) ∧ w'.cell? ⟨m, 2, none⟩ = some (.string l.node.text) ∧ w'.cell? ⟨m, 3, none⟩ = some (.slice A3 l.node.cnt k3)) (ds := [13, 15, 19]) (by kernel_rfl) ⟨d3, d4, e0, e1', e2, e3⟩ (fun hHeld => ?_)
    refine last_pure8 (i := 0) (oi := _) (v := (.pointer (some ⟨gs', r'.length * 5, none⟩))) rfl (by kernel_rfl) (by kernel_rfl) (by kernel_rfl) (fun _ _ _ h => h) (Or.inl ⟨by rfl, fun w' => by go_simp⟩) ?_
    try simp only [Act.put, List.getElem_toArray, List.getElem_cons_succ, List.getElem_cons_zero, List.setIfInBounds_toArray, List.set_cons_zero, List.set_cons_succ]
    refine wpAnyLast_take (i := 1) (oi := _) (v := (.pointer (some ⟨gs', r'.length * 5, none⟩))) rfl (by kernel_rfl) (by kernel_rfl) (by kernel_rfl) (by kernel_rfl) (by kernel_rfl) (fun _ _ _ h => h) (Or.inl ⟨by rfl, fun w' _ => by go_simp⟩) hHeld ?_
    try simp only [Act.put, List.getElem_toArray, List.getElem_cons_succ, List.getElem_cons_zero, List.setIfInBounds_toArray, List.set_cons_zero, List.set_cons_succ]
    refine wpAnyLast_take (i := 2) (oi := _) (v := (.pointer (some ⟨gs', r'.length * 5, none⟩))) rfl (by kernel_rfl) (by kernel_rfl) (by kernel_rfl) (by kernel_rfl) (by kernel_rfl) (fun _ _ _ h => h) (Or.inl ⟨by rfl, fun w' _ => by go_simp⟩) hHeld ?_
    try simp only [Act.put, List.getElem_toArray, List.getElem_cons_succ, List.getElem_cons_zero, List.setIfInBounds_toArray, List.set_cons_zero, List.set_cons_succ]
    refine wpAnyLast_take (i := 3) (oi := _) (v := (.pointer (some ⟨gs', r'.length * 5 + 3, none⟩))) rfl (by kernel_rfl) (by kernel_rfl) (by kernel_rfl) (by kernel_rfl) (by kernel_rfl) (fun _ _ _ h => h) (Or.inl ⟨by rfl, fun w' _ => by go_simp⟩) hHeld ?_
    try simp only [Act.put, List.getElem_toArray, List.getElem_cons_succ, List.getElem_cons_zero, List.setIfInBounds_toArray, List.set_cons_zero, List.set_cons_succ]
    refine wpAnyLast_take (i := 4) (oi := _) (v := (.slice A4 m'.node.cnt k4)) rfl (by kernel_rfl) (by kernel_rfl) (by kernel_rfl) (by kernel_rfl) (by kernel_rfl) (fun _ _ _ h => h) (Or.inl ⟨by rfl, fun w' hSw => by have h1 := hSw.1; go_simp⟩) hHeld ?_
    try simp only [Act.put, List.getElem_toArray, List.getElem_cons_succ, List.getElem_cons_zero, List.setIfInBounds_toArray, List.set_cons_zero, List.set_cons_succ]
    refine wpAnyLast_take (i := 5) (oi := _) (v := (.pointer (some ⟨gs', r'.length * 5, none⟩))) rfl (by kernel_rfl) (by kernel_rfl) (by kernel_rfl) (by kernel_rfl) (by kernel_rfl) (fun _ _ _ h => h) (Or.inl ⟨by rfl, fun w' _ => by go_simp⟩) hHeld ?_
    try simp only [Act.put, List.getElem_toArray, List.getElem_cons_succ, List.getElem_cons_zero, List.setIfInBounds_toArray, List.set_cons_zero, List.set_cons_succ]
    refine wpAnyLast_take (i := 6) (oi := _) (v := (.pointer (some ⟨gs', r'.length * 5, none⟩))) rfl (by kernel_rfl) (by kernel_rfl) (by kernel_rfl) (by kernel_rfl) (by kernel_rfl) (fun _ _ _ h => h) (Or.inl ⟨by rfl, fun w' _ => by go_simp⟩) hHeld ?_
    try simp only [Act.put, List.getElem_toArray, List.getElem_cons_succ, List.getElem_cons_zero, List.setIfInBounds_toArray, List.set_cons_zero, List.set_cons_succ]
    refine wpAnyLast_take (i := 7) (oi := _) (v := (.pointer (some ⟨gs', r'.length * 5 + 4, none⟩))) rfl (by kernel_rfl) (by kernel_rfl) (by kernel_rfl) (by kernel_rfl) (by kernel_rfl) (fun _ _ _ h => h) (Or.inl ⟨by rfl, fun w' _ => by go_simp⟩) hHeld ?_
    try simp only [Act.put, List.getElem_toArray, List.getElem_cons_succ, List.getElem_cons_zero, List.setIfInBounds_toArray, List.set_cons_zero, List.set_cons_succ]
    refine wpAnyLast_take (i := 8) (oi := _) (v := (.string m'.kid)) rfl (by kernel_rfl) (by kernel_rfl) (by kernel_rfl) (by kernel_rfl) (by kernel_rfl) (fun _ _ _ h => h) (Or.inl ⟨by rfl, fun w' hSw => by have h1 := hSw.2.1; go_simp⟩) hHeld ?_
    try simp only [Act.put, List.getElem_toArray, List.getElem_cons_succ, List.getElem_cons_zero, List.setIfInBounds_toArray, List.set_cons_zero, List.set_cons_succ]
    refine wpAnyLast_take (i := 9) (oi := _) (v := (.agg #[.int .i64 l.node.kind, .bool l.node.exec, .string l.node.text, .slice A3 l.node.cnt k3])) rfl (by kernel_rfl) (by kernel_rfl) (by kernel_rfl) (by kernel_rfl) (by kernel_rfl) (fun _ _ _ h => h) (Or.inl ⟨by rfl, fun w' hSw => by have h1 := hSw.2.2.1; have h2 := hSw.2.2.2.1; have h3 := hSw.2.2.2.2.1; have h4 := hSw.2.2.2.2.2; go_simp⟩) hHeld ?_
    try simp only [Act.put, List.getElem_toArray, List.getElem_cons_succ, List.getElem_cons_zero, List.setIfInBounds_toArray, List.set_cons_zero, List.set_cons_succ]
    refine wpAnyLast_take (i := 10) (oi := _) (v := (.agg #[.string m'.kid, .int .i64 l.node.kind, .bool l.node.exec, .string l.node.text, .slice A3 l.node.cnt k3])) rfl (by kernel_rfl) (by kernel_rfl) (by kernel_rfl) (by kernel_rfl) (by kernel_rfl) (fun _ _ _ h => h) (Or.inl ⟨by rfl, fun w' _ => by go_simp⟩) hHeld ?_
    try simp only [Act.put, List.getElem_toArray, List.getElem_cons_succ, List.getElem_cons_zero, List.setIfInBounds_toArray, List.set_cons_zero, List.set_cons_succ]
    refine wpAnyLast_take (i := 11) (oi := _) (v := (.int .i64 (m'.node.cnt : Int))) rfl (by kernel_rfl) (by kernel_rfl) (by kernel_rfl) (by kernel_rfl) (by kernel_rfl) (fun _ _ _ h => h) (Or.inl ⟨by rfl, fun w' _ => by go_simp⟩) hHeld ?_
    try simp only [Act.put, List.getElem_toArray, List.getElem_cons_succ, List.getElem_cons_zero, List.setIfInBounds_toArray, List.set_cons_zero, List.set_cons_succ]
    refine wpAnyLast_ready (rs := [12]) (by kernel_rfl) (by simp) ?_
    refine AllReadyL.cons (o := _) rfl (by decide) (fun K hK => ?_) AllReadyL.nil
    rw [if_pos (by rfl)]
    go_simp
    refine hK.out _ _ HSS.out (fun hHeld => ?_)
    clear hK K
    try dsimp only
    try simp only [Act.put, List.getElem_toArray, List.getElem_cons_succ, List.getElem_cons_zero, List.setIfInBounds_toArray, List.set_cons_zero, List.set_cons_succ]
    refine wpAnyLast_ready (rs := [13]) (by kernel_rfl) (by simp) ?_
    refine AllReadyL.cons_last (o := _) rfl (by decide) (fun K hK => ?_) AllReadyL.nil
    rw [if_pos (by rfl)]
    refine wp_own_at _ (.tmp 42) (.tmp 50) 24 (by rfl) B 79 i0 (.agg #[.string ⟨#[]⟩, .int .i64 0, .bool false, .string ⟨#[]⟩, .slice none 0 0]) 5 72 Try.underlying24 hi0 hz0 hz1 hz2 rfl (by decide) kv' m'.node.cnt ks' (by rw [HKV4.out]; rfl) HOZ.out ⟨w4.heap.size, 0, none⟩ 1 1 zero5 (by rfl) rfl HNEW.out zero5_one hm63 hm47 HBBZ.out ?_
    intro v5 w5 ho5 hg5 ha5
    refine hK.out _ _ ?_
    clear hK K hHeld
    obtain ⟨g5, c5, hv5⟩ := owns_row ho5 rfl
    subst hv5
    have hks := TX4.out.kc.len
    obtain ⟨zc, zf⟩ := zero_cells ho5 hks
    have z0 : w5.cell? ⟨g5, m'.node.cnt * 5, none⟩ = some (.string ⟨#[]⟩) := zc 0 (by omega)
    have z1 : w5.cell? ⟨g5, m'.node.cnt * 5 + 1, none⟩ = some (.int .i64 0) := zc 1 (by omega)
    have z2 : w5.cell? ⟨g5, m'.node.cnt * 5 + 2, none⟩ = some (.bool false) := zc 2 (by omega)
    have z3 : w5.cell? ⟨g5, m'.node.cnt * 5 + 3, none⟩ = some (.string ⟨#[]⟩) := zc 3 (by omega)
    have z4 : w5.cell? ⟨g5, m'.node.cnt * 5 + 4, none⟩ = some (.slice none 0 0) := zc 4 (by omega)
    have y0 := zf (m'.node.cnt * 5)
    have y1 := zf (m'.node.cnt * 5 + 1)
    have y2 := zf (m'.node.cnt * 5 + 2)
    have y3 := zf (m'.node.cnt * 5 + 3)
    have y4 := zf (m'.node.cnt * 5 + 4)
    have hgk : kv'.ownBlock ≠ some gs' := fun e => by
      have h1 := TX4.out.klab _ e
      have h2 := TX4.out.lab
      omega
    have hgz : (w4.alloc (.cells #[.string ⟨#[]⟩, .int .i64 0, .bool false, .string ⟨#[]⟩, .slice none 0 0] 79)).drew.heap.size = w4.heap.size + 1 := by simp
    have hg5' : g5 ≠ gs' := fun e => by
      rcases ha5 with h | h
      · exact hgk (by rw [← h, e]; rfl)
      · injection h with h
        have h : g5 = _ := h
        omega
    have hg5'' : gs' ≠ g5 := fun e => hg5' e.symm
    have hblk : w5.heap[gs']? = w4.heap[gs']? := (hg5.block gs' (by omega) (fun e => hgk e.symm)).trans (HBZ.out.block gs' hgl)
    have q3 : w5.cell? ⟨gs', r'.length * 5 + 3, none⟩ = some (.slice A4 m'.node.cnt k4) := (World.cell?_of_block (a := ⟨gs', r'.length * 5 + 3, none⟩) hblk).trans d3
    have qf : w5.frozen? ⟨gs', r'.length * 5 + 3, none⟩ = false := by
      rw [← TX4.out.free (r'.length * 5 + 3)]
      simp only [World.frozen?, hblk]
    have HO5 := Lib.hid ho5
    have HG5 := Lib.hid hg5
    have HA5 := Lib.hid ha5
    have hcn0 : (0 : Int) ≤ m'.node.cnt := by omega
    have hcn1 : (m'.node.cnt : Int) ≤ 1048576 := by omega
    have had := addr_add0 g5 (m'.node.cnt * 5)
    clear ho5 hg5 ha5 zc zf hks hgk hgz hblk d3 d4 e0 e1' e2 e3 c9
    try dsimp only
    try simp only [Act.put, List.getElem_toArray, List.getElem_cons_succ, List.getElem_cons_zero, List.setIfInBounds_toArray, List.set_cons_zero, List.set_cons_succ]
    refine last_pure8 (i := 14) (oi := _) (v := (.pointer (some ⟨g5, m'.node.cnt * 5, none⟩))) rfl (by kernel_rfl) (by kernel_rfl) (by kernel_rfl) (fun _ _ _ h => h) (Or.inl ⟨by rfl, fun w' => by (go_simp; intro hbad; omega)⟩) ?_
    try simp only [Act.put, List.getElem_toArray, List.getElem_cons_succ, List.getElem_cons_zero, List.setIfInBounds_toArray, List.set_cons_zero, List.set_cons_succ]
    refine last_pure8 (i := 16) (oi := _) (v := (.pointer (some ⟨gs', r'.length * 5, none⟩))) rfl (by kernel_rfl) (by kernel_rfl) (by kernel_rfl) (fun _ _ _ h => h) (Or.inl ⟨by rfl, fun w' => by go_simp⟩) ?_
    try simp only [Act.put, List.getElem_toArray, List.getElem_cons_succ, List.getElem_cons_zero, List.setIfInBounds_toArray, List.set_cons_zero, List.set_cons_succ]
    refine last_pure8 (i := 17) (oi := _) (v := (.pointer (some ⟨gs', r'.length * 5, none⟩))) rfl (by kernel_rfl) (by kernel_rfl) (by kernel_rfl) (fun _ _ _ h => h) (Or.inl ⟨by rfl, fun w' => by go_simp⟩) ?_
    try simp only [Act.put, List.getElem_toArray, List.getElem_cons_succ, List.getElem_cons_zero, List.setIfInBounds_toArray, List.set_cons_zero, List.set_cons_succ]
    refine last_pure8 (i := 18) (oi := _) (v := (.pointer (some ⟨gs', r'.length * 5 + 3, none⟩))) rfl (by kernel_rfl) (by kernel_rfl) (by kernel_rfl) (fun _ _ _ h => h) (Or.inl ⟨by rfl, fun w' => by go_simp⟩) ?_
    try simp only [Act.put, List.getElem_toArray, List.getElem_cons_succ, List.getElem_cons_zero, List.setIfInBounds_toArray, List.set_cons_zero, List.set_cons_succ]
    refine wpAnyLast_ready (rs := [15, 19]) (by kernel_rfl) (by simp) ?_
    refine AllReadyL.cons_last (o := _) rfl (by decide) (fun K hK => ?_) (AllReadyL.cons_last (o := _) rfl (by decide) (fun K hK => ?_) AllReadyL.nil)
    all_goals rw [if_pos (by rfl)]
    · go_simp
      refine hK.out _ _ ?_
      clear hK K
      try dsimp only
      try simp only [Act.put, List.getElem_toArray, List.getElem_cons_succ, List.getElem_cons_zero, List.setIfInBounds_toArray, List.set_cons_zero, List.set_cons_succ]
      refine wpAnyLast_ready (rs := [19]) (by kernel_rfl) (by simp) ?_
      refine AllReadyL.cons_last (o := _) rfl (by decide) (fun K hK => ?_) AllReadyL.nil
      rw [if_pos (by rfl)]
      go_simp
      refine hK.out _ ((put5 w5 g5 (m'.node.cnt * 5) (.string m'.kid) (.int .i64 l.node.kind) (.bool l.node.exec) (.string l.node.text) (.slice A3 l.node.cnt k3)).setCell ⟨gs', r'.length * 5 + 3, none⟩ (.slice (some ⟨g5, 0, none⟩) (m'.node.cnt + 1) c5)) ?_
      clear hK K
      try dsimp only
      try simp only [Act.put, List.getElem_toArray, List.getElem_cons_succ, List.getElem_cons_zero, List.setIfInBounds_toArray, List.set_cons_zero, List.set_cons_succ]
      generalize hw7 : (put5 w5 g5 (m'.node.cnt * 5) (.string m'.kid) (.int .i64 l.node.kind) (.bool l.node.exec) (.string l.node.text) (.slice A3 l.node.cnt k3)).setCell ⟨gs', r'.length * 5 + 3, none⟩ (.slice (some ⟨g5, 0, none⟩) (m'.node.cnt + 1) c5) = w7
      refine wpAnyLast_done (by kernel_rfl) ?_ _
      refine NoPanic.normal ?_
      have hp := HX4.out.addKid2 rfl TX4.out l.node A3 k3 HIN4.out HBZ.out g5 c5 HO5.out HG5.out HA5.out (.inl hw7.symm)
      have HP7 := Lib.hid hp
      clear hp HX4 TX4 HIN4 HBX4 HO5 HG5 HA5 HBZ HOZ HNEW HBBZ HSS z0 z1 z2 z3 z4 y0 y1 y2 y3 y4 q3 qf
      have hpc : { p with x := p.x.close } = { p with x := { p.x with stack := { m' with node := .add m'.node m'.kid l.node } :: r', next := 16 } } := by unfold WS.close; rw [hs]
      have hq := HP7.out.put (p' := { p with x := { p.x with stack := { m' with node := .add m'.node m'.kid l.node } :: r', next := 16 } }) 7 (.int .i64 (16 : Nat)) rfl rfl rfl
      have c7 := HP7.out.c7
      have f7 := HP7.out.free 7
      rw [← hpc] at hq
      have HQ := Lib.hid hq
      clear hq hpc hw7 HP7
      go_wp2_with fail
      go_end0
      exact ⟨rfl, _, _, _, HQ.out⟩
    · go_simp
      refine hK.out _ _ ?_
      clear hK K
      try dsimp only
      try simp only [Act.put, List.getElem_toArray, List.getElem_cons_succ, List.getElem_cons_zero, List.setIfInBounds_toArray, List.set_cons_zero, List.set_cons_succ]
      refine wpAnyLast_ready (rs := [15]) (by kernel_rfl) (by simp) ?_
      refine AllReadyL.cons_last (o := _) rfl (by decide) (fun K hK => ?_) AllReadyL.nil
      rw [if_pos (by rfl)]
      go_simp
      refine hK.out _ (put5 ((w5).setCell ⟨gs', r'.length * 5 + 3, none⟩ (.slice (some ⟨g5, 0, none⟩) (m'.node.cnt + 1) c5)) g5 (m'.node.cnt * 5) (.string m'.kid) (.int .i64 l.node.kind) (.bool l.node.exec) (.string l.node.text) (.slice A3 l.node.cnt k3)) ?_
      clear hK K
      try dsimp only
      try simp only [Act.put, List.getElem_toArray, List.getElem_cons_succ, List.getElem_cons_zero, List.setIfInBounds_toArray, List.set_cons_zero, List.set_cons_succ]
      generalize hw7 : put5 ((w5).setCell ⟨gs', r'.length * 5 + 3, none⟩ (.slice (some ⟨g5, 0, none⟩) (m'.node.cnt + 1) c5)) g5 (m'.node.cnt * 5) (.string m'.kid) (.int .i64 l.node.kind) (.bool l.node.exec) (.string l.node.text) (.slice A3 l.node.cnt k3) = w7
      refine wpAnyLast_done (by kernel_rfl) ?_ _
      refine NoPanic.normal ?_
      have hp := HX4.out.addKid2 rfl TX4.out l.node A3 k3 HIN4.out HBZ.out g5 c5 HO5.out HG5.out HA5.out (.inr hw7.symm)
      have HP7 := Lib.hid hp
      clear hp HX4 TX4 HIN4 HBX4 HO5 HG5 HA5 HBZ HOZ HNEW HBBZ HSS z0 z1 z2 z3 z4 y0 y1 y2 y3 y4 q3 qf
      have hpc : { p with x := p.x.close } = { p with x := { p.x with stack := { m' with node := .add m'.node m'.kid l.node } :: r', next := 16 } } := by unfold WS.close; rw [hs]
      have hq := HP7.out.put (p' := { p with x := { p.x with stack := { m' with node := .add m'.node m'.kid l.node } :: r', next := 16 } }) 7 (.int .i64 (16 : Nat)) rfl rfl rfl
      have c7 := HP7.out.c7
      have f7 := HP7.out.free 7
      rw [← hpc] at hq
      have HQ := Lib.hid hq
      clear hq hpc hw7 HP7
      go_wp2_with fail
      go_end0
      exact ⟨rfl, _, _, _, HQ.out⟩
end Go.Proofs.Ytlcppkcclolgcaa

