/- A parser beside another object; its questions Depth and Whole; listing.Sum. The walk of WholeArchive. -/
import Derived.Test.YtlcppkcclolgcaaDoorDBj
import Derived.Test.YtlcppkcclolgcaaDoorDBl
namespace Go.Proofs.YtlcppkcclolgcaaDoor
set_option maxRecDepth 20000
set_option linter.unusedVariables false
set_option linter.unusedSimpArgs false
open Go.RowKit
/-- block g holds no string -/
def NoStr (w : World) (g : Nat) : Prop := ∀ q : Addr, q.block = g → ∀ s, w.cell? q ≠ some (.string s)
theorem ND.AtS.beside {S : Nat → Prop} {w w' : World} {g : Nat} (hn : NoStr w g) (hk : ∀ b, b < w.heap.size → b ≠ g → w'.heap[b]? = w.heap[b]?) : ∀ {n : ND} {x : Addr}, n.AtS S w x → n.AtS S w' x := by
  intro n
  induction n with
  | leaf => intro x _; trivial
  | add p nm c ih1 ih2 =>
    intro x h
    obtain ⟨h1, h2, a, cap, c0, c1, c2, c3, c4, h3⟩ := h
    have hl : x.block < w.heap.size := by have := block_lt_of_cell c0; rwa [block_add] at this
    have hg : x.block ≠ g := fun e => hn _ ((block_add _ _).trans e) _ c0
    have hx := hk _ hl hg
    have hc : ∀ q : Addr, q.block = x.block → w'.cell? q = w.cell? q := fun q e => World.cell?_of_block (by rw [e]; exact hx)
    refine ⟨ih1 h1, h2, a, cap, (hc (x.add (p.cnt * 5)) (block_add _ _)).trans c0, (hc ⟨(x.add (p.cnt * 5)).block, (x.add (p.cnt * 5)).off + 1, none⟩ (block_add _ _)).trans c1, (hc ⟨(x.add (p.cnt * 5)).block, (x.add (p.cnt * 5)).off + 2, none⟩ (block_add _ _)).trans c2, (hc ⟨(x.add (p.cnt * 5)).block, (x.add (p.cnt * 5)).off + 3, none⟩ (block_add _ _)).trans c3, (hc ⟨(x.add (p.cnt * 5)).block, (x.add (p.cnt * 5)).off + 4, none⟩ (block_add _ _)).trans c4, ?_⟩
    rcases h3 with h3 | ⟨y, e, h3⟩
    · exact .inl h3
    · exact .inr ⟨y, e, ih2 h3⟩
theorem ND.InS.beside {S : Nat → Prop} {w w' : World} {g : Nat} (hn : NoStr w g) (hk : ∀ b, b < w.heap.size → b ≠ g → w'.heap[b]? = w.heap[b]?) {n : ND} {a : Option Addr} (h : n.InS S w a) : n.InS S w' a := by
  rcases h with h | ⟨y, e, h⟩
  · exact .inl h
  · exact .inr ⟨y, e, h.beside hn hk⟩
theorem ND.KC.beside {S : Nat → Prop} {w w' : World} {g : Nat} (hn : NoStr w g) (hk : ∀ b, b < w.heap.size → b ≠ g → w'.heap[b]? = w.heap[b]?) : ∀ {n : ND} {cs : List Value}, n.KC S w cs → n.KC S w' cs := by
  intro n
  induction n with
  | leaf => intro cs h; exact h
  | add p nm c ih _ =>
    rintro cs ⟨cp, a, cap, e, h1, h2⟩
    exact ⟨cp, a, cap, e, ih h1, h2.beside hn hk⟩
theorem StC.beside {fl : Nat → Nat} {w w' : World} {B g : Nat} (hn : NoStr w g) (hk : ∀ b, b < w.heap.size → b ≠ g → w'.heap[b]? = w.heap[b]?) (h0 : fl g = 0) : ∀ {st : List Lv} {cs : List Value}, StC fl w B st cs → StC fl w' B st cs
  | [], _, h => h
  | l :: r, cs, ⟨cr, kv, ks, e, h1, h2, h3, h4⟩ =>
    ⟨cr, kv, ks, e, StC.beside hn hk h0 h1, owns_kept h2 (fun b hb hv => hk b hb (fun e => by have := h4 b hv; rw [e, h0] at this; omega)), h3.beside hn hk, h4⟩
section
variable {w0 w w' : World} {S : Nat → Prop} {B gp g : Nat} {fl : Nat → Nat} {p : PS} {gf : Nat} {sv rv : Value}
theorem PaW.beside (H : PaW w0 S w B gp fl p gf sv rv) (hg : w.grownBy w' (some g)) (h0 : fl g = 0) (hS : g < w0.heap.size → S g) (hn : NoStr w g) : PaW w0 S w' B gp fl p gf sv rv := by
  have hk : ∀ b, b < w.heap.size → b ≠ g → w'.heap[b]? = w.heap[b]? := fun b hb e => hg.block b hb (by simpa using e)
  obtain ⟨cs, h1, h2, h3⟩ := H.stk
  obtain ⟨a, cap, e, h4⟩ := H.root
  have hgp : gp ≠ g := fun e => by have := H.lab; rw [e, h0] at this; omega
  exact ⟨(hk gp H.lt hgp).trans H.row, H.lab, fun k hk' => ⟨(H.hB k hk').1, Nat.lt_of_lt_of_le (H.hB k hk').2 hg.size⟩, H.sl, H.away.grown hg (fun k e hl => by injection e with e; subst e; exact hS hl),
    ⟨cs, owns_kept h1 (fun b hb hv => hk b hb (fun e => by have := h3 b hv; rw [e, h0] at this; omega)), h2.beside hn hk h0, h3⟩, a, cap, e, h4.beside hn hk⟩
theorem PaS.beside (H : PaS w0 S w B gp fl p gf sv rv) (hg : w.grownBy w' (some g)) (h0 : fl g = 0) (hS : g < w0.heap.size → S g) (hn : NoStr w g) : PaS w0 S w' B gp fl p gf sv rv :=
  ⟨H.paw.beside hg h0 hS hn, fun h1 h2 => by
    obtain ⟨v, h, h3, h4⟩ := H.rdr h1 h2
    refine ⟨v, rd_moved h (fun b hb => hg.block b (h.mine hb).1 (fun e => ?_)), h3, h4⟩
    simp only [Option.some.injEq] at e
    subst e
    rcases hb with rfl | hb
    · omega
    · have := h4 b hb
      omega⟩
end
theorem stc_ints (n : Nat) (h buf : List Nat) (used : Nat) : ∀ v ∈ Hs.stc n h buf used, ∀ s, v ≠ .string s := by
  intro v hv s
  simp only [Hs.stc, Hs.cl, List.mem_cons, List.mem_append, List.mem_map, List.not_mem_nil, or_false] at hv
  rcases hv with rfl | ⟨x, _, rfl⟩ | ⟨x, _, rfl⟩ | rfl <;> simp
theorem NoStr.of_st {w : World} {g : Nat} {T : List Nat} (H : Hs.StAt w g T) : NoStr w g := by
  obtain ⟨n, h, buf, used, h1, _⟩ := H
  intro q hq s hc
  unfold World.cell? at hc
  rw [hq, h1.row] at hc
  simp only at hc
  split at hc
  · cases hc
  · have hm := List.mem_of_getElem? (by simpa using hc : (Hs.stc n h buf used)[q.off]? = some (Value.string s))
    exact stc_ints n h buf used _ hm s rfl
theorem stk_slice (w0 : World) (S : Nat → Prop) (B gp : Nat) (fl : Nat → Nat) (p : PS) (gf : Nat) (sv rv : Value) (w : World) (H : PaW w0 S w B gp fl p gf sv rv) : ∃ A c, sv = .slice A p.x.stack.length c := by
  obtain ⟨cs, ⟨_, ⟨e, h⟩ | ⟨g, cap, cur, e, _⟩⟩, _⟩ := H.stk
  · exact ⟨none, 0, by rw [e, h]⟩
  · exact ⟨_, _, e⟩
set_option maxRecDepth 100000 in
theorem depth_any (w0 : World) (S : Nat → Prop) (B gp : Nat) (fl : Nat → Nat) (p : PS) (gf : Nat) (sv rv : Value) (w : World) (H : PaW w0 S w B gp fl p gf sv rv) : Calls Tryd.prog 11 #[.pointer (some ⟨gp, 0, none⟩)] w fun e w' => e = .returned (.int .i64 (p.x.stack.length : Int)) ∧ Below w.heap.size w w' := by
  obtain ⟨A, c, hsv⟩ := stk_slice w0 S B gp fl p gf sv rv w H
  have c9 := H.c9
  rw [hsv] at c9
  clear H hsv
  go_enter Tryd.func11, Tryd.ntmps11
  go_wp2_with fail
  go_ret
  exact ⟨rfl, Below.refl _ _⟩
set_option maxRecDepth 100000 in
theorem whole_any (w0 : World) (S : Nat → Prop) (B gp : Nat) (fl : Nat → Nat) (p : PS) (gf : Nat) (sv rv : Value) (w : World) (H : PaW w0 S w B gp fl p gf sv rv) : Calls Tryd.prog 17 #[.pointer (some ⟨gp, 0, none⟩)] w fun e w' => e = .returned (.bool p.x.whole) ∧ Below w.heap.size w w' := by
  have c6 := H.c6
  clear H
  go_enter Tryd.func17, Tryd.ntmps17
  go_wp2_with fail
  go_ret
  exact ⟨rfl, Below.refl _ _⟩
theorem nb_is (s : ByteArray) : Hs.nb s = nb s := rfl
set_option maxRecDepth 100000 in
theorem lsum_any (n : ND) (na : Option Addr) (nc : Nat) (w : World) (hE : serE n = 0) (hsm : n.small 1048576) (hin : n.In w.heap.size w na) (hT : Hs.Tab w) :
    Calls Tryd.prog 14 #[.agg #[.int .i64 n.kind, .bool n.exec, .string n.text, .slice na n.cnt nc]] w fun e w' => e = .returned (.tuple #[.agg (Hs.cw .u8 (Hs.shaL (Hs.nb (strOf (arc n))))), .int .i64 ((strOf (arc n)).size : Int), .int .i64 0]) ∧ Below w.heap.size w w' := by
  have hts : (strOf (arc n)).size ≤ 1048576 := by rw [strOf_size]; exact (serE_ok.1 hE).2
  obtain ⟨wA, hwA⟩ : ∃ wA, wA = w.alloc (.cells #[.int .i64 n.kind, .bool n.exec, .string n.text, .slice na n.cnt nc] 25) := ⟨_, rfl⟩
  obtain ⟨wB, hwB⟩ : ∃ wB, wB = wA.alloc (.cells (Hs.cw .u8 (Hs.zr 32)) 46) := ⟨_, rfl⟩
  have hbA : Below w.heap.size w wB := by rw [hwB, hwA]; exact ((Below.refl _ _).alloc (Nat.le_refl _) _).alloc (by simp) _
  have hrA : wB.heap[w.heap.size]? = some (.cells #[.int .i64 n.kind, .bool n.exec, .string n.text, .slice na n.cnt nc] 25 (0, 0)) := by rw [hwB, hwA]; exact row_past (heap_alloc_new w _) _
  have hrB : wB.heap[w.heap.size + 1]? = some (.cells (Hs.cw .u8 (Hs.zr 32)) 46 (0, 0)) := by rw [hwB, hwA]; exact alloc_new2 w _ _ _
  have hz32 := (zero_of_info (P := Tryd.prog) (t := 46) (v := .agg (Hs.cw .u8 (Hs.zr 32))) (n := 32) (by kernel_rfl)).1
  have hser : ∀ W, Below w.heap.size w W → Calls Tryd.prog 5 #[.agg #[.int .i64 n.kind, .bool n.exec, .string n.text, .slice na n.cnt nc]] W fun e w' => e = .returned (.tuple #[.string (strOf (arc n)), .int .i64 0]) ∧ Below W.heap.size W w' := fun W hW => by
    have h := serial_any n na nc W hsm (hin.up hW)
    unfold serT at h
    rw [if_pos hE, hE] at h
    exact h
  generalize strOf (arc n) = T at *
  have hof : ∀ W, Hs.Tab W → Calls Tryd.prog 32 #[.string T] W fun e w' => e = .returned (.agg (Hs.cw .u8 (Hs.shaL (Hs.nb T)))) ∧ Below W.heap.size W w' := fun W h => Hs.of_any T W h (by omega)
  have HSER := Lib.hid (hser wB hbA)
  have HOF := Lib.hid hof
  have HT := Lib.hid hT
  have HW := Lib.hid (And.intro hwA hwB)
  have HBA := Lib.hid hbA
  have HRB := Lib.hid hrB
  have p0 := cell_of_row wB w.heap.size 0 _ _ _ hrA
  have p1 := cell_of_row wB w.heap.size 1 _ _ _ hrA
  have p2 := cell_of_row wB w.heap.size 2 _ _ _ hrA
  have p3 := cell_of_row wB w.heap.size 3 _ _ _ hrA
  have hTI : (T.size : Int) ≤ 1048576 := by omega
  have hT0 : (0 : Int) ≤ T.size := by omega
  have hl := Hs.shaL_length (Hs.nb T)
  have h32 : (Hs.cw .u8 (Hs.shaL (Hs.nb T))).size = 32 := by rw [Hs.cw_size, hl]
  have H32 := Lib.hid h32
  clear hser hof hT hbA hrA hrB hin hsm hE hl h32 hwA hwB
  go_enter Tryd.func14, Tryd.ntmps14
  go_upto_region 1 with fail
  rw [← HW.out.1, ← HW.out.2]
  generalize hD : Hs.shaL (Hs.nb T) = D at *
  have HD := Lib.hid hD
  clear hD
  go_wp2_with (first | (go_at_call 5; refine HSER.out.mono ?_; rintro e w1 ⟨rfl, h1⟩; have HB1 := Lib.hid h1; clear h1) | (go_at_call 32; refine (HOF.out _ ((HT.out.below HBA.out HT.out.two).below HB1.out (Nat.le_trans HT.out.two HBA.out.size))).mono ?_; rintro e w2 ⟨rfl, h2⟩; have HB2 := Lib.hid h2; clear h2) | (with_reducible refine wpList_store_row rfl 46 _ _ rfl (w.heap.size + 1) _ rfl rfl 46 (Hs.cw .u8 (Hs.zr 32)) ?_ ?_ ?_ ?_ ?_))
  · exact (HB2.out.block (w.heap.size + 1) (Nat.lt_of_lt_of_le (lt_of_row HRB.out) HB1.out.size)).trans ((HB1.out.block (w.heap.size + 1) (lt_of_row HRB.out)).trans HRB.out)
  · rw [H32.out]; exact Hs.info32
  · rw [H32.out]; rfl
  · exact Hs.cw_one _ _
  · go_wp2_with fail
    have hr2 : w2.heap[w.heap.size + 1]? = some (.cells (Hs.cw .u8 (Hs.zr 32)) 46 (0, 0)) := (HB2.out.block (w.heap.size + 1) (Nat.lt_of_lt_of_le (lt_of_row HRB.out) HB1.out.size)).trans ((HB1.out.block (w.heap.size + 1) (lt_of_row HRB.out)).trans HRB.out)
    have hrow := setRow_heap w2 (w.heap.size + 1) (Hs.cw .u8 (Hs.zr 32)) (Hs.cw .u8 D) 46 (0, 0) hr2
    have hb2 : Below w.heap.size w w2 := (HBA.out.trans (HB1.out.mono HBA.out.size)).trans (HB2.out.mono (Nat.le_trans HBA.out.size HB1.out.size))
    have hfin : Below w.heap.size w (w2.setRow (w.heap.size + 1) (Hs.cw .u8 D)) := below_setRow hb2 (Nat.le_succ _) _
    have hld := run_loadVar_row (P := Tryd.prog) _ _ _ 46 _ _ _ hrow Tryd.underlying46 rfl (by rw [H32.out]; exact Hs.info32)
    generalize w2.setRow (w.heap.size + 1) (Hs.cw .u8 D) = w3 at *
    exact bodyPost_ret (v := .tuple #[.agg (Hs.cw .u8 D), .int .i64 (T.size : Int), .int .i64 0]) (by simp [results, Tryd.results14, asAddr, hld]) rfl ⟨by rw [HD.out], hfin⟩
end Go.Proofs.YtlcppkcclolgcaaDoor

namespace Go.Proofs.YtlcppkcclolgcaaDoor
set_option maxRecDepth 20000
set_option linter.unusedVariables false
set_option linter.unusedSimpArgs false
open Go.RowKit
/-- the pieces' bytes, the first k of them -/
def preK (pcs : List ByteArray) (k : Nat) : List Nat := ((pcs.take k).map nb).flatten
theorem pre_split (pcs : List ByteArray) (k : Nat) : (pcs.map nb).flatten = preK pcs k ++ ((pcs.drop k).map nb).flatten := by
  unfold preK
  rw [← List.flatten_append, ← List.map_append, List.take_append_drop]
theorem pre_succ (pcs : List ByteArray) (k : Nat) (h : k < pcs.length) : preK pcs (k + 1) = preK pcs k ++ nb (pcs.getD k emp) := by
  unfold preK
  rw [List.take_add_one, List.getElem?_eq_getElem h, List.getD_eq_getElem?_getD, List.getElem?_eq_getElem h, List.map_append, List.flatten_append]
  simp
theorem arc_pcs {n : ND} {w0 w : World} {v : Value} {pcs : List ByteArray} (H : PcS w0 w v (strOf (arc n)) (strOf (arc n)).size pcs) : (pcs.map nb).flatten = arc n := by
  have h := H.txt
  rw [List.take_of_length_le (by rw [nb_length]; omega), nb_strOf _ (arc_bytes n)] at h
  exact h
theorem fedK_at {n : ND} (hE : serE n = 0) {w0 w : World} {v : Value} {pcs : List ByteArray} (H : PcS w0 w v (strOf (arc n)) (strOf (arc n)).size pcs) (k : Nat) : (fedK pcs k).at_ = (preK pcs k).length :=
  (parse_pre hE ((arc_pcs H).symm.trans (pre_split pcs k))).2.1
theorem pre_le {n : ND} (hE : serE n = 0) {w0 w : World} {v : Value} {pcs : List ByteArray} (H : PcS w0 w v (strOf (arc n)) (strOf (arc n)).size pcs) (k : Nat) : (preK pcs k).length ≤ 1048576 := by
  rw [← fedK_at hE H k]
  exact (fedK_inv pcs k).most
theorem pre_all {n : ND} {w0 w : World} {v : Value} {pcs : List ByteArray} (H : PcS w0 w v (strOf (arc n)) (strOf (arc n)).size pcs) : preK pcs pcs.length = arc n := by
  unfold preK
  rw [List.take_length]
  exact arc_pcs H
theorem PaX.below {w0 w : World} {gp : Nat} {p : PS} (H : PaX w0 (fun _ => False) w w0.heap.size gp p) : Below w0.heap.size w0 w := by
  obtain ⟨fl, gf, sv, rv, h⟩ := H
  exact h.paw.away.below (B := w0.heap.size) (Nat.le_refl _) (fun k h => h.elim)
/-- a parser and a digest's state, side by side -/
def ArX (w5 : World) (S : Nat → Prop) (wr : World) (B gp gs : Nat) (p : PS) (T : List Nat) : Prop := ∃ fl gf sv rv, PaS w5 S wr B gp fl p gf sv rv ∧ fl gs = 0 ∧ Hs.StAt wr gs T ∧ Hs.Tab wr
section
variable {w5 wr w' : World} {S : Nat → Prop} {B gp gs : Nat} {p p' : PS} {T : List Nat}
theorem ArX.tab (H : ArX w5 S wr B gp gs p T) : Hs.Tab wr := by obtain ⟨_, _, _, _, _, _, _, h⟩ := H; exact h
theorem ArX.away (H : ArX w5 S wr B gp gs p T) : Away w5 S wr := by obtain ⟨_, _, _, _, h, _⟩ := H; exact h.paw.away
theorem ArX.start {w0 : World} {S0 : Nat → Prop} {fl : Nat → Nat} {gf : Nat} {sv rv : Value} (H : PaS w0 S0 wr B gp fl p gf sv rv) (h0 : fl gs = 0) (hst : Hs.StAt wr gs T) (hT : Hs.Tab wr) : ArX wr (fun j => fl j ≠ 0 ∨ j = gs) wr B gp gs p T :=
  ⟨fl, gf, sv, rv, ⟨⟨H.paw.row, H.paw.lab, H.paw.hB, fun k h _ => .inl h, Away.refl _ _, H.paw.stk, H.paw.root⟩, H.rdr⟩, h0, hst, hT⟩
theorem ArX.later (H : ArX w5 S wr B gp gs p T) (hb : Below wr.heap.size wr w') : ArX w5 S w' B gp gs p T := by
  obtain ⟨fl, gf, sv, rv, h1, h2, h3, h4⟩ := H
  exact ⟨fl, gf, sv, rv, h1.later hb, h2, h3.below hb h3.lt, h4.below hb h4.two⟩
theorem ArX.feed (H : ArX w5 S wr B gp gs p T) (hB : 2 ≤ B) (cap : Nat) (s : ByteArray) (bs : List Nat) (hi : PInv p bs) (hl : s.size ≤ 1000000000) (hcap : s.size ≤ cap) (hp : p.feed (nb s) = p') (a : Int) (ha : ((p'.at_ : Nat) : Int) - (p.at_ : Nat) = a) :
    Calls Tryd.prog 10 #[.pointer (some ⟨gp, 0, none⟩), .slice (some ⟨wr.heap.size, 0, none⟩) s.size cap] (Lib.bytesWorld wr 5 s) fun e w' => e = .returned (.int .i64 a) ∧ ArX w5 S w' B gp gs p' T := by
  obtain ⟨fl, gf, sv, rv, h1, h2, h3, h4⟩ := H
  have h := pfeed_conv wr (fun k => fl k ≠ 0) B gp cap s p bs wr ⟨fl, gf, sv, rv, h1.rebase⟩ hi hl hcap
  rw [hp, ha] at h
  refine h.mono ?_
  rintro e w' ⟨he, fl', gf', sv', rv', h'⟩
  have hlt := h3.lt
  have hz : fl' gs = 0 := by
    apply Classical.byContradiction
    intro hne
    exact h'.paw.sl gs hne hlt h2
  have hBs : B ≤ wr.heap.size := by have := h1.paw.hB gp (by rw [h1.paw.lab]; omega); omega
  have hbel : Below B wr w' := h'.paw.away.below hBs (fun k hk => (h1.paw.hB k hk).1)
  exact ⟨he, fl', gf', sv', rv', h1.join h', hz, h3.far (h'.paw.away.block gs hlt (fun hk => hk h2)), h4.below hbel hB⟩
theorem ArX.write (H : ArX w5 S wr B gp gs p T) (hS : S gs) (hg : 2 ≤ gs) (s : ByteArray) (hl : T.length + s.size < 4611686018427387904) :
    Calls Tryd.prog 12 #[.pointer (some ⟨gs, 0, none⟩), .string s] wr fun e w' => e = .returned (.tuple #[]) ∧ ArX w5 S w' B gp gs p (T ++ nb s) := by
  obtain ⟨fl, gf, sv, rv, h1, h2, h3, h4⟩ := H
  refine (Hs.writeText_any gs T s wr h3 h4 hg hl).mono ?_
  rintro e w' ⟨he, hst, hgr⟩
  exact ⟨he, fl, gf, sv, rv, h1.beside hgr h2 (fun _ => hS) (NoStr.of_st h3), h2, hst, h4.only hg hgr⟩
theorem ArX.depth (H : ArX w5 S wr B gp gs p T) : Calls Tryd.prog 11 #[.pointer (some ⟨gp, 0, none⟩)] wr fun e w' => e = .returned (.int .i64 (p.x.stack.length : Int)) ∧ ArX w5 S w' B gp gs p T := by
  have H' := H
  obtain ⟨fl, gf, sv, rv, h1, h2, h3, h4⟩ := H
  refine (depth_any w5 S B gp fl p gf sv rv wr h1.paw).mono ?_
  rintro e w' ⟨he, hb⟩
  exact ⟨he, H'.later hb⟩
end
/-- behind Close -/
def ArC (w6 : World) (B gp gs : Nat) (q : PS) (T : List Nat) : Prop := ∃ wr S fl gf sv rv, PaW wr S w6 B gp fl q gf sv rv ∧ Hs.StAt w6 gs T ∧ Hs.Tab w6
section
variable {w6 w' : World} {B gp gs : Nat} {q : PS} {T : List Nat}
theorem ArC.later (H : ArC w6 B gp gs q T) (hb : Below w6.heap.size w6 w') : ArC w' B gp gs q T := by
  obtain ⟨wr, S, fl, gf, sv, rv, h1, h3, h4⟩ := H
  exact ⟨wr, S, fl, gf, sv, rv, h1.later hb, h3.below hb h3.lt, h4.below hb h4.two⟩
theorem ArC.whole (H : ArC w6 B gp gs q T) : Calls Tryd.prog 17 #[.pointer (some ⟨gp, 0, none⟩)] w6 fun e w' => e = .returned (.bool q.x.whole) ∧ ArC w' B gp gs q T ∧ Below w6.heap.size w6 w' := by
  have H' := H
  obtain ⟨wr, S, fl, gf, sv, rv, h1, h3, h4⟩ := H
  refine (whole_any wr S B gp fl q gf sv rv w6 h1).mono ?_
  rintro e w' ⟨he, hb⟩
  exact ⟨he, H'.later hb, hb⟩
theorem ArC.held (H : ArC w6 B gp gs q T) (h : q.start = q.at_) (hl : q.at_ ≤ 1048576) : Calls Tryd.prog 18 #[.pointer (some ⟨gp, 0, none⟩)] w6 fun e w' => e = .returned (.int .i64 0) ∧ ArC w' B gp gs q T ∧ Below w6.heap.size w6 w' := by
  have H' := H
  obtain ⟨wr, S, fl, gf, sv, rv, h1, h3, h4⟩ := H
  refine (held_any wr S B gp fl q gf sv rv w6 h1 (by omega) hl).mono ?_
  rintro e w' ⟨he, hb⟩
  rw [h, Int.sub_self] at he
  exact ⟨he, H'.later hb, hb⟩
theorem ArC.sum (H : ArC w6 B gp gs q T) (hl : T.length < 2305843009213693952) : Calls Tryd.prog 16 #[.pointer (some ⟨gs, 0, none⟩)] w6 fun e w' => e = .returned (.agg (Hs.cw .u8 (Hs.shaL T))) ∧ ArC w' B gp gs q T ∧ Below w6.heap.size w6 w' := by
  have H' := H
  obtain ⟨wr, S, fl, gf, sv, rv, h1, h3, h4⟩ := H
  refine (Hs.sum_any gs T w6 h3 h4 hl).mono ?_
  rintro e w' ⟨he, hb⟩
  exact ⟨he, H'.later hb, hb⟩
end
/-- the archive of a well-formed tree, closed -/
theorem ArX.close {w5 wr : World} {S : Nat → Prop} {B gp gs : Nat} {n : ND} {T : List Nat} (hE : serE n = 0) (hsm : n.small 1048576) (H : ArX w5 S wr B gp gs (prs (strOf (arc n))) T) (hB : 2 ≤ B) :
    Calls Tryd.prog 13 #[.pointer (some ⟨gp, 0, none⟩)] wr fun e w' => ∃ a c, e = .returned (.tuple #[.agg #[.int .i64 n.kind, .bool n.exec, .string n.text, .slice a n.cnt c], .agg #[.int .i64 0, .int .i64 0]]) ∧ n.InS (fun b => B ≤ b) w' a ∧ Below B wr w' ∧ ∃ q : PS, q.x.whole = true ∧ q.start = q.at_ ∧ q.at_ ≤ 1048576 ∧ ArC w' B gp gs q T := by
  obtain ⟨fl, gf, sv, rv, h1, h2, h3, h4⟩ := H
  have hpr : ∃ k, prs (strOf (arc n)) = ⟨(arc n).length, (arc n).length, 0, 0, false, [], ⟨k, [], true, n⟩⟩ := by
    unfold prs
    rw [nb_strOf _ (arc_bytes n)]
    exact parse_arc hE
  obtain ⟨k, hk⟩ := hpr
  obtain ⟨e1, e2, e3⟩ := prs_arc hE
  refine (pshut_any wr (fun j => fl j ≠ 0) B gp fl (prs (strOf (arc n))) gf sv rv wr h1.rebase.paw (by rw [hk]) (by rw [hk]; exact fun _ _ => hsm)).mono ?_
  rintro e w' ⟨a', c', he, hi, fl7, gf7, sv7, rv7, hp7⟩
  rw [e1, e2, e3] at he
  rw [e1] at hi
  have hlt := h3.lt
  have hBs : B ≤ wr.heap.size := by have := h1.paw.hB gp (by rw [h1.paw.lab]; omega); omega
  have hbel : Below B wr w' := hp7.away.below hBs (fun k hk => (h1.paw.hB k hk).1)
  refine ⟨a', c', he, hi, hbel, (prs (strOf (arc n))).close, ?_, ?_, ?_, wr, _, fl7, gf7, sv7, rv7, hp7, h3.far (hp7.away.block gs hlt (fun hk => hk h2)), h4.below hbel hB⟩
  · rw [hk]; rfl
  · rw [hk]; rfl
  · rw [hk]; exact (serE_ok.1 hE).2
/-- what the last line of WholeArchive reads -/
structure FinS (w0 : World) (bn bg bf bd B gp gs : Nat) (n : ND) (na a7 : Option Addr) (nc c7 : Nat) (q : PS) (D : List Nat) (W : World) : Prop where
  r0 : W.heap[bn]? = some (.cells #[.int .i64 n.kind, .bool n.exec, .string n.text, .slice na n.cnt nc] 25 (0, 0))
  r1 : W.heap[bg]? = some (.cells #[.int .i64 n.kind, .bool n.exec, .string n.text, .slice a7 n.cnt c7] 25 (0, 0))
  r2 : W.heap[bf]? = some (.cells #[.int .i64 0, .int .i64 0] 42 (0, 0))
  rd : W.heap[bd]? = some (.cells (Hs.cw .u8 D) 46 (0, 0))
  hin : n.In W.heap.size W na
  hn : n.In W.heap.size W a7
  c : ArC W B gp gs q (arc n)
  bel : Below w0.heap.size w0 W
section
variable {w0 W W' : World} {bn bg bf bd B gp gs : Nat} {n : ND} {na a7 : Option Addr} {nc c7 : Nat} {q : PS} {D : List Nat}
theorem FinS.later (H : FinS w0 bn bg bf bd B gp gs n na a7 nc c7 q D W) (hb : Below W.heap.size W W') : FinS w0 bn bg bf bd B gp gs n na a7 nc c7 q D W' :=
  ⟨(hb.block _ (lt_of_row H.r0)).trans H.r0, (hb.block _ (lt_of_row H.r1)).trans H.r1, (hb.block _ (lt_of_row H.r2)).trans H.r2, (hb.block _ (lt_of_row H.rd)).trans H.rd, H.hin.up hb, H.hn.up hb, H.c.later hb, H.bel.trans (hb.mono H.bel.size)⟩
theorem FinS.dig (H : FinS w0 bn bg bf bd B gp gs n na a7 nc c7 q D W) : W.rangeAt bd 0 (Hs.cl .u8 D) := by
  intro j v hv
  rw [Nat.zero_add, cell_of_row W _ j _ _ _ H.rd]
  simpa [Hs.cl, Hs.cw] using hv
theorem FinS.equal (H : FinS w0 bn bg bf bd B gp gs n na a7 nc c7 q D W) (hsm : n.small 1048576) : Calls Tryd.prog 15 #[.agg #[.int .i64 n.kind, .bool n.exec, .string n.text, .slice a7 n.cnt c7], .agg #[.int .i64 n.kind, .bool n.exec, .string n.text, .slice na n.cnt nc]] W fun e w' => e = .returned (.bool true) ∧ Below W.heap.size W w' := by
  refine (equal_any n.sz n (Nat.le_refl _) n a7 na c7 nc W H.hn H.hin hsm.cnts).mono ?_
  rintro e w' ⟨he, hb⟩
  rw [eqN_true rfl] at he
  exact ⟨he, hb⟩
end
set_option maxRecDepth 100000 in
set_option maxHeartbeats 8000000 in
theorem archive_law (n : ND) (na : Option Addr) (nc : Nat) (a : Option Addr) (len cap : Nat) (zs : List Int) (w : World) (hin : n.In w.heap.size w na) (hsm : n.small 1048576) (hrow : IsRow .i64 w a len cap zs) (hlen : len ≤ 1048576) (hT : Hs.Tab w) :
    Calls Tryd.prog 3 #[.agg #[.int .i64 n.kind, .bool n.exec, .string n.text, .slice na n.cnt nc], .slice a len cap] w fun e w' => e = .returned (.bool true) ∧ Below w.heap.size w w' := by
  obtain ⟨wA, hwA⟩ : ∃ wA, wA = w.alloc (.cells #[.int .i64 n.kind, .bool n.exec, .string n.text, .slice na n.cnt nc] 25) := ⟨_, rfl⟩
  have hbA : Below w.heap.size w wA := by rw [hwA]; exact (Below.refl _ _).alloc (Nat.le_refl _) _
  have hrA : wA.heap[w.heap.size]? = some (.cells #[.int .i64 n.kind, .bool n.exec, .string n.text, .slice na n.cnt nc] 25 (0, 0)) := by rw [hwA]; exact heap_alloc_new w _
  have hlI : (len : Int) ≤ 1048576 := by omega
  have hl0 : (0 : Int) ≤ len := by omega
  have hw2 := hT.two
  have HTAB := Lib.hid hT
  have HIN := Lib.hid hin
  have HSM := Lib.hid hsm
  have HROW := Lib.hid hrow
  have HWA := Lib.hid hwA
  have HBA := Lib.hid hbA
  have HRA := Lib.hid hrA
  clear hin hsm hrow hwA hbA hrA hT
  go_enter Tryd.func3, Tryd.ntmps3
  go_upto_region 1 with fail
  rw [← HWA.out]
  go_upto_region 3 with (go_at_call 4; refine (small_any wA).mono ?_; rintro e w1 ⟨rfl, h1⟩; have HB1 := Lib.hid h1; clear h1)
  have r1 := (HB1.out.block w.heap.size (lt_of_row HRA.out)).trans HRA.out
  have p0 := cell_of_row w1 w.heap.size 0 _ _ _ r1
  have p1 := cell_of_row w1 w.heap.size 1 _ _ _ r1
  have p2 := cell_of_row w1 w.heap.size 2 _ _ _ r1
  have p3 := cell_of_row w1 w.heap.size 3 _ _ _ r1
  have hbw1 := HBA.out.trans (HB1.out.mono HBA.out.size)
  have hin1 := HIN.out.up hbw1
  have HBW1 := Lib.hid hbw1
  have HR1 := Lib.hid r1
  have hser : Calls Tryd.prog 5 #[.agg #[.int .i64 n.kind, .bool n.exec, .string n.text, .slice na n.cnt nc]] w1 fun e w' => e = .returned (.tuple #[.string (serT n), .int .i64 (serE n)]) ∧ Below w1.heap.size w1 w' := serial_any n na nc w1 HSM.out hin1
  have HSER := Lib.hid hser
  clear r1 hbw1 hser hin1
  go_upto_region 4 with (go_at_call 5; refine HSER.out.mono ?_; rintro e w2 ⟨rfl, h2⟩; have HB2 := Lib.hid h2; clear h2)
  clear p0 p1 p2 p3
  have hbw2 := HBW1.out.trans (HB2.out.mono HBW1.out.size)
  have r2 := (HB2.out.block w.heap.size (lt_of_row HR1.out)).trans HR1.out
  have p0 := cell_of_row w2 w.heap.size 0 _ _ _ r2
  have p1 := cell_of_row w2 w.heap.size 1 _ _ _ r2
  have p2 := cell_of_row w2 w.heap.size 2 _ _ _ r2
  have p3 := cell_of_row w2 w.heap.size 3 _ _ _ r2
  have hchk : Calls Tryd.prog 6 #[.agg #[.int .i64 n.kind, .bool n.exec, .string n.text, .slice na n.cnt nc]] w2 fun e w' => ∃ p : ByteArray, e = .returned (.tuple #[.string p, .int .i64 (serE n)]) ∧ Below w2.heap.size w2 w' :=
    Check_any nm n na nc w2 HSM.out (HIN.out.up hbw2) (fun s w hs => name_any s w hs)
  have HCHK := Lib.hid hchk
  have HBW2 := Lib.hid hbw2
  have HR2 := Lib.hid r2
  clear r2 hbw2 hchk
  go_upto_region 5 with (go_at_call 6; refine HCHK.out.mono ?_; rintro e w3 ⟨pth, rfl, h3⟩; have HB3 := Lib.hid h3; clear h3)
  clear p0 p1 p2 p3
  have hbw3 := HBW2.out.trans (HB3.out.mono HBW2.out.size)
  have hbA3 : Below wA.heap.size wA w3 := below_trans2 (below_trans2 HB1.out HB2.out) HB3.out
  have HBW3 := Lib.hid hbw3
  have HBA3 := Lib.hid hbA3
  clear hbw3 hbA3
  by_cases hE : serE n = 0
  · have hts : serT n = strOf (arc n) := by unfold serT; rw [if_pos hE]
    have hTs : (strOf (arc n)).size ≤ 1048576 := by rw [strOf_size]; exact (serE_ok.1 hE).2
    rw [hE, hts]
    clear hts
    obtain ⟨T, hTT⟩ : ∃ T, strOf (arc n) = T := ⟨_, rfl⟩
    rw [hTT] at hTs ⊢
    have HHT := Lib.hid hTT
    have HE := Lib.hid hE
    have hTI : (T.size : Int) ≤ 1048576 := by omega
    have hT0 : (0 : Int) ≤ T.size := by omega
    have HTS := Lib.hid hTs
    have hT3 : Hs.Tab w3 := HTAB.out.below HBW3.out HTAB.out.two
    have HT3 := Lib.hid hT3
    clear hE hTT hTs hT3
    go_upto_region 8 with (first | (go_at_call 7; refine (newp_any w3).mono ?_; rintro e w4 ⟨gp, rfl, h4⟩; have HP4 := Lib.hid h4; clear h4) | (go_at_call 8; refine (Hs.new_any w4 (HT3.out.below HP4.out.below HT3.out.two)).mono ?_; rintro e w5 ⟨gs, hgs, rfl, hst, hb5⟩; have HGS := Lib.hid hgs; have HST := Lib.hid hst; have HB5 := Lib.hid hb5; clear hgs hst hb5))
    obtain ⟨fl, gf0, sv0, rv0, hps4⟩ := HP4.out
    have hfls : fl gs = 0 := by
      apply Classical.byContradiction
      intro h
      have h1 := (hps4.paw.hB gs h).2
      have h2 := HGS.out
      omega
    have hb35 : Below w3.heap.size w3 w5 := below_trans2 HP4.out.below HB5.out
    have hbw5 : Below w.heap.size w w5 := HBW3.out.trans (hb35.mono HBW3.out.size)
    have hps5 := hps4.later HB5.out
    have hT5 : Hs.Tab w5 := HT3.out.below hb35 HT3.out.two
    have hflB : ∀ k, fl k ≠ 0 → w3.heap.size ≤ k ∧ k < w5.heap.size := hps5.paw.hB
    have hgs2 : w3.heap.size ≤ gs := by have := HGS.out; have := HP4.out.below.size; omega
    have HPC := Lib.hid (pieces_at T (by have := HTS.out; omega) a len cap zs w5 (HROW.out.later hbw5) (by omega))
    have HPS5 := Lib.hid hps5
    have HT5 := Lib.hid hT5
    have HFLS := Lib.hid hfls
    have HFLB := Lib.hid hflB
    have HGS2 := Lib.hid hgs2
    have HB35 := Lib.hid hb35
    have HBW5 := Lib.hid hbw5
    clear hps4 hfls hb35 hbw5 hps5 hT5 hflB hgs2 HP4 HGS HB5
    go_wp2_with (go_at_call 9; refine HPC.out.mono ?_; rintro e w6 ⟨pcs, gq, gc, rfl, hpc, hpl, hg1, hg2, hcells⟩; have hplI : (pcs.length : Int) = len + 1 := (by omega); have HPCS := Lib.hid hpc; clear hpc)
    have HCELLS := Lib.hid hcells
    have hX0 : ArX w6 (fun j => fl j ≠ 0 ∨ j = gs) w6 w3.heap.size gp gs (fedK pcs 0) (preK pcs 0) :=
      ArX.start (HPS5.out.later HPCS.out.bel) HFLS.out (HST.out.below HPCS.out.bel HST.out.lt) (HT5.out.below HPCS.out.bel HT5.out.two)
    have hfg : ¬ (fl gq ≠ 0 ∨ gq = gs) := by
      have h2 := HST.out.lt
      rintro (h | h)
      · have h1 := (HFLB.out gq h).2
        omega
      · omega
    have hpcs : PcS w5 w6 (.slice (some ⟨gq, 0, none⟩) pcs.length gc) (strOf (arc n)) (strOf (arc n)).size pcs := by rw [HHT.out]; exact HPCS.out
    have HPCA := Lib.hid hpcs
    have HX0 := Lib.hid hX0
    have HFG := Lib.hid hfg
    have HG2 := Lib.hid hg2
    have hpcI : (pcs.length : Int) ≤ 1048577 := by omega
    clear hcells hX0 hfg hg1 hg2 hpcs hpl
    go_loopw [56] (fun x56 wr => ∃ k : Nat, x56 = .int .i64 (k : Int) ∧ k ≤ pcs.length ∧ ArX w6 (fun j => fl j ≠ 0 ∨ j = gs) wr w3.heap.size gp gs (fedK pcs k) (preK pcs k)) (fun x56 _ => pcs.length - (intOf x56).toNat)
    case atStart => exact ⟨0, rfl, Nat.zero_le _, HX0.out⟩
    case round =>
      obtain ⟨k, rfl, hk, hX⟩ := hrel
      have hk0 : (0 : Int) ≤ k := by omega
      have HX := Lib.hid hX
      clear hX
      by_cases hlt : k < pcs.length
      · have hltI : (k : Int) < pcs.length := by omega
        have c0 : wr.cell? ⟨gq, k, none⟩ = some (.string (pcs.getD k emp)) :=
          (World.cell?_of_block (a := ⟨gq, k, none⟩) (HX.out.away.block gq HG2.out HFG.out)).trans (HCELLS.out k hlt)
        have hle := piece_le HPCS.out k hlt
        have hnext := fedK_succ pcs k hlt
        have hpre := pre_succ pcs k hlt
        have hat0 := fedK_at HE.out HPCA.out k
        have hat1 := fedK_at HE.out HPCA.out (k + 1)
        have hpl0 := pre_le HE.out HPCA.out k
        have hdep := (fedK_inv pcs (k + 1)).dep
        rw [hpre, List.length_append, nb_length] at hat1
        generalize pcs.getD k emp = x at *
        have hts : x.size ≤ 1048576 := Nat.le_trans hle HTS.out
        have CF := fun cap hc => HX.out.feed (by have := HBW3.out.size; omega) cap x _ (fedK_inv pcs k) (by omega) hc hnext (x.size : Int) (by rw [hat1, hat0]; omega)
        obtain ⟨d, hd⟩ : ∃ d, (fedK pcs (k + 1)).x.stack.length = d := ⟨_, rfl⟩
        rw [hd] at hdep
        have hdI : (d : Int) ≤ 32 := by omega
        have hd0 : (0 : Int) ≤ d := by omega
        have hdec : decide ((32 : Int) < d) = false := by simp; omega
        have hxI : (x.size : Int) ≤ 1048576 := by omega
        have hx0 : (0 : Int) ≤ x.size := by omega
        have CD : ∀ W, ArX w6 (fun j => fl j ≠ 0 ∨ j = gs) W w3.heap.size gp gs (fedK pcs (k + 1)) (preK pcs k) → Calls Tryd.prog 11 #[.pointer (some ⟨gp, 0, none⟩)] W fun e w' => e = .returned (.int .i64 (d : Int)) ∧ ArX w6 (fun j => fl j ≠ 0 ∨ j = gs) w' w3.heap.size gp gs (fedK pcs (k + 1)) (preK pcs k) := fun W H => by
          have h := H.depth
          rw [hd] at h
          exact h
        have hs2 : 2 ≤ gs := by have := HGS2.out; have := HBW3.out.size; omega
        have CW : ∀ W, ArX w6 (fun j => fl j ≠ 0 ∨ j = gs) W w3.heap.size gp gs (fedK pcs (k + 1)) (preK pcs k) → Calls Tryd.prog 12 #[.pointer (some ⟨gs, 0, none⟩), .string x] W fun e w' => e = .returned (.tuple #[]) ∧ ArX w6 (fun j => fl j ≠ 0 ∨ j = gs) w' w3.heap.size gp gs (fedK pcs (k + 1)) (preK pcs (k + 1)) := fun W H => by
          have h := H.write (.inr rfl) hs2 x (by omega)
          rw [← hpre] at h
          exact h
        have hcv := fun W => Lib.run_convert_string_bytes (P := Tryd.prog) W 9 38 5 x Tryd.underlying9 Tryd.underlying38 Tryd.underlying5
        have HGE := Lib.hid (grownCap_ge wr x.size 0 5)
        have HCF := Lib.hid CF
        have HCD := Lib.hid CD
        have HCW := Lib.hid CW
        clear CF CD CW hnext hpre hat0 hat1 hpl0 hdep hd hle hts hs2
        go_wp2_with (first | (go_at_call 10; refine (HCF.out _ HGE.out).mono ?_; rintro e w7 ⟨rfl, h7⟩; have H7 := Lib.hid h7; clear h7) | (go_at_call 11; refine (HCD.out _ H7.out).mono ?_; rintro e w8 ⟨rfl, h8⟩; have H8 := Lib.hid h8; clear h8) | (go_at_call 12; refine (HCW.out _ H8.out).mono ?_; rintro e w9 ⟨rfl, h9⟩; have H9 := Lib.hid h9; clear h9))
        go_roundw
        case rel => exact ⟨k + 1, by go_num, by omega, H9.out⟩
        case measure => simp [intOf]; omega
      · have hltI : ¬ (k : Int) < pcs.length := by omega
        have hkk : k = pcs.length := by omega
        have hX := HX.out
        rw [hkk, fedK_all HPCS.out, pre_all HPCA.out, ← HHT.out] at hX
        have hcl := ArX.close HE.out HSM.out hX (by have := HBW3.out.size; omega)
        have h56 := HPCS.out.bel
        have hb36 : Below w3.heap.size w3 w6 := below_trans2 HB35.out h56
        have hb6r : Below w3.heap.size w6 wr := HX.out.away.below hb36.size (fun j hj => by
          rcases hj with hj | rfl
          · exact (HFLB.out j hj).1
          · exact HGS2.out)
        have hb3r : Below w3.heap.size w3 wr := hb36.trans hb6r
        have HCL := Lib.hid hcl
        have HB3R := Lib.hid hb3r
        clear hX hcl h56 hb36 hb6r hb3r hkk HX HX0 HCELLS HPCS HPCA HFG HG2 HPS5 HT5 HFLS HFLB HPC
        go_upto_region 18 with (go_at_call 13; refine HCL.out.mono ?_; rintro e w7 ⟨a7, c7, rfl, hi7, hb7, q, hq1, hq2, hq3, h7⟩; have HI7 := Lib.hid hi7; have HB7 := Lib.hid hb7; have HQ1 := Lib.hid hq1; have HQ2 := Lib.hid hq2; have HQ3 := Lib.hid hq3; have H7 := Lib.hid h7; clear hi7 hb7 hq1 hq2 hq3 h7)
        have s1 : ((w7.alloc (.cells #[.int .i64 n.kind, .bool n.exec, .string n.text, .slice a7 n.cnt c7] 25)).alloc (.cells #[.int .i64 0, .int .i64 0] 42)).heap[w7.heap.size]? = some (.cells #[.int .i64 n.kind, .bool n.exec, .string n.text, .slice a7 n.cnt c7] 25 (0, 0)) := row_past (heap_alloc_new w7 _) _
        have s2 : ((w7.alloc (.cells #[.int .i64 n.kind, .bool n.exec, .string n.text, .slice a7 n.cnt c7] 25)).alloc (.cells #[.int .i64 0, .int .i64 0] 42)).heap[w7.heap.size + 1]? = some (.cells #[.int .i64 0, .int .i64 0] 42 (0, 0)) := alloc_new2 w7 _ _ _
        have h78 : Below w7.heap.size w7 ((w7.alloc (.cells #[.int .i64 n.kind, .bool n.exec, .string n.text, .slice a7 n.cnt c7] 25)).alloc (.cells #[.int .i64 0, .int .i64 0] 42)) := ((Below.refl _ _).alloc (Nat.le_refl _) _).alloc (by simp) _
        generalize (w7.alloc (.cells #[.int .i64 n.kind, .bool n.exec, .string n.text, .slice a7 n.cnt c7] 25)).alloc (.cells #[.int .i64 0, .int .i64 0] 42) = w8 at *
        have hb37 : Below w3.heap.size w3 w7 := HB3R.out.trans HB7.out
        have hb38 : Below w3.heap.size w3 w8 := below_trans2 hb37 h78
        have hA8 : Below wA.heap.size wA w8 := below_trans2 HBA3.out hb38
        have hw8 : Below w.heap.size w w8 := HBW3.out.trans (hb38.mono HBW3.out.size)
        have hin8 : n.In w8.heap.size w8 na := HIN.out.up hw8
        have hn8 : n.In w8.heap.size w8 a7 := HI7.out.in_.up h78
        have hC8 := H7.out.later h78
        have r0 := (hA8.block w.heap.size (lt_of_row HRA.out)).trans HRA.out
        have hls := lsum_any n na nc w8 HE.out HSM.out hin8 (HTAB.out.below hw8 HTAB.out.two)
        rw [HHT.out] at hls
        have hnbT : Hs.nb T = arc n := by rw [← HHT.out]; exact nb_strOf _ (arc_bytes n)
        rw [hnbT] at hls
        have hdl := Hs.shaL_length (arc n)
        have h32 : (Hs.cw .u8 (Hs.shaL (arc n))).size = 32 := by rw [Hs.cw_size, hdl]
        have hdig := fun W => Hs.dig_same (arc n) W
        have hal : (arc n).length < 2305843009213693952 := by have := (serE_ok.1 HE.out).2; omega
        have hsum : ∀ W, ArC W w3.heap.size gp gs q (arc n) → Calls Tryd.prog 16 #[.pointer (some ⟨gs, 0, none⟩)] W fun e w' => e = .returned (.agg (Hs.cw .u8 (Hs.shaL (arc n)))) ∧ ArC w' w3.heap.size gp gs q (arc n) ∧ Below W.heap.size W w' := fun W H => H.sum hal
        generalize Hs.shaL (arc n) = D at *
        have hz32 := (zero_of_info (P := Tryd.prog) (t := 46) (v := .agg (Hs.cw .u8 (Hs.zr 32))) (n := 32) (by kernel_rfl)).1
        have hsc := fun W : World => run_storeCells_new (P := Tryd.prog) W 46 (Hs.cw .u8 (Hs.zr 32)) (Hs.cw .u8 D) (by rw [h32]; exact Hs.info32) (by rw [h32]; rfl) (Hs.cw_one _ _)
        have p0 := cell_of_row w8 w.heap.size 0 _ _ _ r0
        have p1 := cell_of_row w8 w.heap.size 1 _ _ _ r0
        have p2 := cell_of_row w8 w.heap.size 2 _ _ _ r0
        have p3 := cell_of_row w8 w.heap.size 3 _ _ _ r0
        have HLS := Lib.hid hls
        have H32 := Lib.hid h32
        have HDIG := Lib.hid hdig
        have HSUM := Lib.hid hsum
        have HW8 := Lib.hid hw8
        have HIN8 := Lib.hid hin8
        have HN8 := Lib.hid hn8
        have HC8 := Lib.hid hC8
        have HR0 := Lib.hid r0
        have HS1 := Lib.hid s1
        have HS2 := Lib.hid s2
        clear s1 s2 h78 hb37 hb38 hA8 hw8 hin8 hn8 hC8 r0 hls hnbT hdl h32 hdig hal hsum HCL
        go_upto_region 19 with (go_at_call 14; refine HLS.out.mono ?_; rintro e w9 ⟨rfl, h9⟩; have HB9 := Lib.hid h9; clear h9)
        have h810 : Below w8.heap.size w8 (w9.alloc (.cells (Hs.cw .u8 D) 46)) := HB9.out.alloc HB9.out.size _
        have hrD : (w9.alloc (.cells (Hs.cw .u8 D) 46)).heap[w9.heap.size]? = some (.cells (Hs.cw .u8 D) 46 (0, 0)) := heap_alloc_new w9 _
        generalize w9.alloc (.cells (Hs.cw .u8 D) 46) = w10 at *
        have hfin : FinS w w.heap.size w7.heap.size (w7.heap.size + 1) w9.heap.size w3.heap.size gp gs n na a7 nc c7 q D w10 :=
          ⟨(h810.block _ (lt_of_row HR0.out)).trans HR0.out, (h810.block _ (lt_of_row HS1.out)).trans HS1.out, (h810.block _ (lt_of_row HS2.out)).trans HS2.out, hrD, HIN8.out.up h810, HN8.out.up h810, HC8.out.later h810, HW8.out.trans (h810.mono HW8.out.size)⟩
        have HFIN := Lib.hid hfin
        have hde2 : ∀ w : World, (binOp .eql 46 (.agg (Hs.cl .u8 D).toArray) (.agg (Hs.cw .u8 D))).run Tryd.prog w = .ok (.bool true) w := fun w => HDIG.out w
        have HD32 : Hid ((Tryd.prog.info? 46).map (·.size) = some (Hs.cl .u8 D).length) := Lib.hid (by
          have h := H32.out
          rw [Hs.cw_size] at h
          rw [Hs.cl_length, h]
          exact Hs.info32)
        clear p0 p1 p2 p3 h810 hrD hfin hsc HB9 HLS HW8 HIN8 HN8 HC8 HR0 HS1 HS2 H7 HI7 HB7 HB3R HBA3
        generalize w.heap.size = bn at *
        generalize w7.heap.size = bg at *
        generalize w9.heap.size = bd at *
        refine wp_region_noPanic ?_
        refine wp_region_held_drew (S := fun w' => FinS w bn bg (bg + 1) bd w3.heap.size gp gs n na a7 nc c7 q D w') (by kernel_rfl) (HFIN.out.later (Below.refl _ _).drew) (fun hHeld => ?_)
        clear HFIN
        refine wpAnyH_take (i := 0) (oi := _) (v := (.agg #[.int .i64 0, .int .i64 0])) rfl (by kernel_rfl) (by kernel_rfl) (by kernel_rfl) (fun _ _ _ h => h) (Or.inl ⟨by rfl, fun w' hSw => by have h0 := cell_of_row w' _ 0 _ _ _ hSw.r2; have h1 := cell_of_row w' _ 1 _ _ _ hSw.r2; go_simp⟩) hHeld ?_
        try simp only [Act.put, List.getElem_toArray, List.getElem_cons_succ, List.getElem_cons_zero, List.setIfInBounds_toArray, List.set_cons_zero, List.set_cons_succ]
        refine wpAnyH_take (i := 1) (oi := _) (v := (.agg #[.int .i64 0, .int .i64 0])) rfl (by kernel_rfl) (by kernel_rfl) (by kernel_rfl) (fun _ _ _ h => h) (Or.inl ⟨by rfl, fun w' _ => by go_simp⟩) hHeld ?_
        try simp only [Act.put, List.getElem_toArray, List.getElem_cons_succ, List.getElem_cons_zero, List.setIfInBounds_toArray, List.set_cons_zero, List.set_cons_succ]
        refine wpAnyH_take (i := 2) (oi := _) (v := (.bool true)) rfl (by kernel_rfl) (by kernel_rfl) (by kernel_rfl) (fun _ _ _ h => h) (Or.inl ⟨by rfl, fun w' _ => by go_simp⟩) hHeld ?_
        try simp only [Act.put, List.getElem_toArray, List.getElem_cons_succ, List.getElem_cons_zero, List.setIfInBounds_toArray, List.set_cons_zero, List.set_cons_succ]
        refine wpAnyH_take (i := 3) (oi := _) (v := (.bool true)) rfl (by kernel_rfl) (by kernel_rfl) (by kernel_rfl) (fun _ _ _ h => h) (Or.inl ⟨by rfl, fun w' _ => by go_simp⟩) hHeld ?_
        try simp only [Act.put, List.getElem_toArray, List.getElem_cons_succ, List.getElem_cons_zero, List.setIfInBounds_toArray, List.set_cons_zero, List.set_cons_succ]
        refine wpAnyH_take (i := 4) (oi := _) (v := (.agg #[.int .i64 n.kind, .bool n.exec, .string n.text, .slice a7 n.cnt c7])) rfl (by kernel_rfl) (by kernel_rfl) (by kernel_rfl) (fun _ _ _ h => h) (Or.inl ⟨by rfl, fun w' hSw => by have h0 := cell_of_row w' _ 0 _ _ _ hSw.r1; have h1 := cell_of_row w' _ 1 _ _ _ hSw.r1; have h2 := cell_of_row w' _ 2 _ _ _ hSw.r1; have h3 := cell_of_row w' _ 3 _ _ _ hSw.r1; go_simp⟩) hHeld ?_
        try simp only [Act.put, List.getElem_toArray, List.getElem_cons_succ, List.getElem_cons_zero, List.setIfInBounds_toArray, List.set_cons_zero, List.set_cons_succ]
        refine wpAnyH_take (i := 5) (oi := _) (v := (.agg #[.int .i64 n.kind, .bool n.exec, .string n.text, .slice na n.cnt nc])) rfl (by kernel_rfl) (by kernel_rfl) (by kernel_rfl) (fun _ _ _ h => h) (Or.inl ⟨by rfl, fun w' hSw => by have h0 := cell_of_row w' _ 0 _ _ _ hSw.r0; have h1 := cell_of_row w' _ 1 _ _ _ hSw.r0; have h2 := cell_of_row w' _ 2 _ _ _ hSw.r0; have h3 := cell_of_row w' _ 3 _ _ _ hSw.r0; go_simp⟩) hHeld ?_
        try simp only [Act.put, List.getElem_toArray, List.getElem_cons_succ, List.getElem_cons_zero, List.setIfInBounds_toArray, List.set_cons_zero, List.set_cons_succ]
        refine wpAnyH_ready (rs := [6]) (by kernel_rfl) (by simp) ?_
        refine AllReadyH.cons (o := _) rfl (fun K hK => ?_) AllReadyH.nil
        rw [if_pos (by rfl)]
        go_simp
        go_at_call 15
        refine (hHeld.equal HSM.out).mono ?_
        rintro e w11 ⟨rfl, hb11⟩
        refine hK.out _ _ (hHeld.later hb11) (fun hHeld => ?_)
        clear hK K hb11
        try dsimp only
        try simp only [Act.put, List.getElem_toArray, List.getElem_cons_succ, List.getElem_cons_zero, List.setIfInBounds_toArray, List.set_cons_zero, List.set_cons_succ]
        refine wpAnyH_take (i := 7) (oi := _) (v := (.bool true)) rfl (by kernel_rfl) (by kernel_rfl) (by kernel_rfl) (fun _ _ _ h => h) (Or.inl ⟨by rfl, fun w' _ => by go_simp⟩) hHeld ?_
        try simp only [Act.put, List.getElem_toArray, List.getElem_cons_succ, List.getElem_cons_zero, List.setIfInBounds_toArray, List.set_cons_zero, List.set_cons_succ]
        refine wpAnyH_take (i := 8) (oi := _) (v := (.bool true)) rfl (by kernel_rfl) (by kernel_rfl) (by kernel_rfl) (fun _ _ _ h => h) (Or.inl ⟨by rfl, fun w' _ => by go_simp⟩) hHeld ?_
        try simp only [Act.put, List.getElem_toArray, List.getElem_cons_succ, List.getElem_cons_zero, List.setIfInBounds_toArray, List.set_cons_zero, List.set_cons_succ]
        refine wpAnyH_take (i := 9) (oi := _) (v := (.int .i64 0)) rfl (by kernel_rfl) (by kernel_rfl) (by kernel_rfl) (fun _ _ _ h => h) (Or.inl ⟨by rfl, fun w' _ => by go_simp⟩) hHeld ?_
        try simp only [Act.put, List.getElem_toArray, List.getElem_cons_succ, List.getElem_cons_zero, List.setIfInBounds_toArray, List.set_cons_zero, List.set_cons_succ]
        refine wpAnyH_take (i := 10) (oi := _) (v := (.bool true)) rfl (by kernel_rfl) (by kernel_rfl) (by kernel_rfl) (fun _ _ _ h => h) (Or.inl ⟨by rfl, fun w' _ => by go_simp⟩) hHeld ?_
        try simp only [Act.put, List.getElem_toArray, List.getElem_cons_succ, List.getElem_cons_zero, List.setIfInBounds_toArray, List.set_cons_zero, List.set_cons_succ]
        refine wpAnyH_take (i := 11) (oi := _) (v := (.bool true)) rfl (by kernel_rfl) (by kernel_rfl) (by kernel_rfl) (fun _ _ _ h => h) (Or.inl ⟨by rfl, fun w' _ => by go_simp⟩) hHeld ?_
        try simp only [Act.put, List.getElem_toArray, List.getElem_cons_succ, List.getElem_cons_zero, List.setIfInBounds_toArray, List.set_cons_zero, List.set_cons_succ]
        refine wpAnyH_take (i := 12) (oi := _) (v := (.bool true)) rfl (by kernel_rfl) (by kernel_rfl) (by kernel_rfl) (fun _ _ _ h => h) (Or.inl ⟨by rfl, fun w' _ => by go_simp⟩) hHeld ?_
        try simp only [Act.put, List.getElem_toArray, List.getElem_cons_succ, List.getElem_cons_zero, List.setIfInBounds_toArray, List.set_cons_zero, List.set_cons_succ]
        refine wpAnyH_take (i := 13) (oi := _) (v := _) rfl (by kernel_rfl) (by kernel_rfl) (by kernel_rfl) (fun _ _ _ h => h) (yieldsIf_load_mid (by rfl) _ _ rfl bd 0 rfl (Hs.cl .u8 D) _ (fun _ H => FinS.dig H) Tryd.underlying46 rfl HD32.out) hHeld ?_
        try simp only [Act.put, List.getElem_toArray, List.getElem_cons_succ, List.getElem_cons_zero, List.setIfInBounds_toArray, List.set_cons_zero, List.set_cons_succ]
        refine wpAnyH_take (i := 14) (oi := _) (v := (.pointer (some ⟨gs, 0, none⟩))) rfl (by kernel_rfl) (by kernel_rfl) (by kernel_rfl) (fun _ _ _ h => h) (Or.inl ⟨by rfl, fun w' _ => by go_simp⟩) hHeld ?_
        try simp only [Act.put, List.getElem_toArray, List.getElem_cons_succ, List.getElem_cons_zero, List.setIfInBounds_toArray, List.set_cons_zero, List.set_cons_succ]
        refine wpAnyH_ready (rs := [15]) (by kernel_rfl) (by simp) ?_
        refine AllReadyH.cons (o := _) rfl (fun K hK => ?_) AllReadyH.nil
        rw [if_pos (by rfl)]
        go_simp
        go_at_call 16
        refine (HSUM.out _ hHeld.c).mono ?_
        rintro e w12 ⟨rfl, _, hb12⟩
        refine hK.out _ _ (hHeld.later hb12) (fun hHeld => ?_)
        clear hK K hb12
        try dsimp only
        try simp only [Act.put, List.getElem_toArray, List.getElem_cons_succ, List.getElem_cons_zero, List.setIfInBounds_toArray, List.set_cons_zero, List.set_cons_succ]
        refine wpAnyH_take (i := 16) (oi := _) (v := (.bool true)) rfl (by kernel_rfl) (by kernel_rfl) (by kernel_rfl) (fun _ _ _ h => h) (Or.inl ⟨by rfl, fun w' _ => by go_simp⟩) hHeld ?_
        try simp only [Act.put, List.getElem_toArray, List.getElem_cons_succ, List.getElem_cons_zero, List.setIfInBounds_toArray, List.set_cons_zero, List.set_cons_succ]
        refine wpAnyH_take (i := 17) (oi := _) (v := (.bool true)) rfl (by kernel_rfl) (by kernel_rfl) (by kernel_rfl) (fun _ _ _ h => h) (Or.inl ⟨by rfl, fun w' _ => by go_simp⟩) hHeld ?_
        try simp only [Act.put, List.getElem_toArray, List.getElem_cons_succ, List.getElem_cons_zero, List.setIfInBounds_toArray, List.set_cons_zero, List.set_cons_succ]
        refine wpAnyH_take (i := 18) (oi := _) (v := (.bool true)) rfl (by kernel_rfl) (by kernel_rfl) (by kernel_rfl) (fun _ _ _ h => h) (Or.inl ⟨by rfl, fun w' _ => by go_simp⟩) hHeld ?_
        try simp only [Act.put, List.getElem_toArray, List.getElem_cons_succ, List.getElem_cons_zero, List.setIfInBounds_toArray, List.set_cons_zero, List.set_cons_succ]
        refine wpAnyH_take (i := 19) (oi := _) (v := (.int .i64 (T.size : Int))) rfl (by kernel_rfl) (by kernel_rfl) (by kernel_rfl) (fun _ _ _ h => h) (Or.inl ⟨by rfl, fun w' _ => by go_simp⟩) hHeld ?_
        try simp only [Act.put, List.getElem_toArray, List.getElem_cons_succ, List.getElem_cons_zero, List.setIfInBounds_toArray, List.set_cons_zero, List.set_cons_succ]
        refine wpAnyH_take (i := 20) (oi := _) (v := (.string T)) rfl (by kernel_rfl) (by kernel_rfl) (by kernel_rfl) (fun _ _ _ h => h) (Or.inl ⟨by rfl, fun w' _ => by go_simp⟩) hHeld ?_
        try simp only [Act.put, List.getElem_toArray, List.getElem_cons_succ, List.getElem_cons_zero, List.setIfInBounds_toArray, List.set_cons_zero, List.set_cons_succ]
        refine wpAnyH_take (i := 21) (oi := _) (v := (.int .i64 (T.size : Int))) rfl (by kernel_rfl) (by kernel_rfl) (by kernel_rfl) (fun _ _ _ h => h) (Or.inl ⟨by rfl, fun w' _ => by go_simp⟩) hHeld ?_
        try simp only [Act.put, List.getElem_toArray, List.getElem_cons_succ, List.getElem_cons_zero, List.setIfInBounds_toArray, List.set_cons_zero, List.set_cons_succ]
        refine wpAnyH_take (i := 22) (oi := _) (v := (.bool true)) rfl (by kernel_rfl) (by kernel_rfl) (by kernel_rfl) (fun _ _ _ h => h) (Or.inl ⟨by rfl, fun w' _ => by go_simp⟩) hHeld ?_
        try simp only [Act.put, List.getElem_toArray, List.getElem_cons_succ, List.getElem_cons_zero, List.setIfInBounds_toArray, List.set_cons_zero, List.set_cons_succ]
        refine wpAnyH_take (i := 23) (oi := _) (v := (.bool true)) rfl (by kernel_rfl) (by kernel_rfl) (by kernel_rfl) (fun _ _ _ h => h) (Or.inl ⟨by rfl, fun w' _ => by go_simp⟩) hHeld ?_
        try simp only [Act.put, List.getElem_toArray, List.getElem_cons_succ, List.getElem_cons_zero, List.setIfInBounds_toArray, List.set_cons_zero, List.set_cons_succ]
        refine wpAnyH_take (i := 24) (oi := _) (v := (.bool true)) rfl (by kernel_rfl) (by kernel_rfl) (by kernel_rfl) (fun _ _ _ h => h) (Or.inl ⟨by rfl, fun w' _ => by go_simp⟩) hHeld ?_
        try simp only [Act.put, List.getElem_toArray, List.getElem_cons_succ, List.getElem_cons_zero, List.setIfInBounds_toArray, List.set_cons_zero, List.set_cons_succ]
        refine wpAnyH_take (i := 25) (oi := _) (v := (.pointer (some ⟨gp, 0, none⟩))) rfl (by kernel_rfl) (by kernel_rfl) (by kernel_rfl) (fun _ _ _ h => h) (Or.inl ⟨by rfl, fun w' _ => by go_simp⟩) hHeld ?_
        try simp only [Act.put, List.getElem_toArray, List.getElem_cons_succ, List.getElem_cons_zero, List.setIfInBounds_toArray, List.set_cons_zero, List.set_cons_succ]
        refine wpAnyH_ready (rs := [26]) (by kernel_rfl) (by simp) ?_
        refine AllReadyH.cons (o := _) rfl (fun K hK => ?_) AllReadyH.nil
        rw [if_pos (by rfl)]
        go_simp
        go_at_call 17
        refine hHeld.c.whole.mono ?_
        rintro e w13 ⟨he, _, hb13⟩
        rw [HQ1.out] at he
        subst he
        refine hK.out _ _ (hHeld.later hb13) (fun hHeld => ?_)
        clear hK K hb13
        try dsimp only
        try simp only [Act.put, List.getElem_toArray, List.getElem_cons_succ, List.getElem_cons_zero, List.setIfInBounds_toArray, List.set_cons_zero, List.set_cons_succ]
        refine wpAnyH_take (i := 27) (oi := _) (v := (.bool true)) rfl (by kernel_rfl) (by kernel_rfl) (by kernel_rfl) (fun _ _ _ h => h) (Or.inl ⟨by rfl, fun w' _ => by go_simp⟩) hHeld ?_
        try simp only [Act.put, List.getElem_toArray, List.getElem_cons_succ, List.getElem_cons_zero, List.setIfInBounds_toArray, List.set_cons_zero, List.set_cons_succ]
        refine wpAnyH_take (i := 28) (oi := _) (v := (.bool true)) rfl (by kernel_rfl) (by kernel_rfl) (by kernel_rfl) (fun _ _ _ h => h) (Or.inl ⟨by rfl, fun w' _ => by go_simp⟩) hHeld ?_
        try simp only [Act.put, List.getElem_toArray, List.getElem_cons_succ, List.getElem_cons_zero, List.setIfInBounds_toArray, List.set_cons_zero, List.set_cons_succ]
        refine wpAnyH_take (i := 29) (oi := _) (v := (.pointer (some ⟨gp, 0, none⟩))) rfl (by kernel_rfl) (by kernel_rfl) (by kernel_rfl) (fun _ _ _ h => h) (Or.inl ⟨by rfl, fun w' _ => by go_simp⟩) hHeld ?_
        try simp only [Act.put, List.getElem_toArray, List.getElem_cons_succ, List.getElem_cons_zero, List.setIfInBounds_toArray, List.set_cons_zero, List.set_cons_succ]
        refine wpAnyH_take (i := 30) (oi := _) (v := (.pointer (some ⟨gp, 0, none⟩))) rfl (by kernel_rfl) (by kernel_rfl) (by kernel_rfl) (fun _ _ _ h => h) (Or.inl ⟨by rfl, fun w' _ => by go_simp⟩) hHeld ?_
        try simp only [Act.put, List.getElem_toArray, List.getElem_cons_succ, List.getElem_cons_zero, List.setIfInBounds_toArray, List.set_cons_zero, List.set_cons_succ]
        refine wpAnyH_take (i := 31) (oi := _) (v := (.pointer (some ⟨gp, 0, none⟩))) rfl (by kernel_rfl) (by kernel_rfl) (by kernel_rfl) (fun _ _ _ h => h) (Or.inl ⟨by rfl, fun w' _ => by go_simp⟩) hHeld ?_
        try simp only [Act.put, List.getElem_toArray, List.getElem_cons_succ, List.getElem_cons_zero, List.setIfInBounds_toArray, List.set_cons_zero, List.set_cons_succ]
        refine wpAnyH_ready (rs := [32]) (by kernel_rfl) (by simp) ?_
        refine AllReadyH.cons (o := _) rfl (fun K hK => ?_) AllReadyH.nil
        rw [if_pos (by rfl)]
        go_simp
        go_at_call 18
        refine (hHeld.c.held HQ2.out HQ3.out).mono ?_
        rintro e w14 ⟨rfl, _, hb14⟩
        refine hK.out _ _ (hHeld.later hb14) (fun hHeld => ?_)
        clear hK K hb14
        try dsimp only
        try simp only [Act.put, List.getElem_toArray, List.getElem_cons_succ, List.getElem_cons_zero, List.setIfInBounds_toArray, List.set_cons_zero, List.set_cons_succ]
        refine wpAnyH_take (i := 33) (oi := _) (v := (.bool true)) rfl (by kernel_rfl) (by kernel_rfl) (by kernel_rfl) (fun _ _ _ h => h) (Or.inl ⟨by rfl, fun w' _ => by go_simp⟩) hHeld ?_
        try simp only [Act.put, List.getElem_toArray, List.getElem_cons_succ, List.getElem_cons_zero, List.setIfInBounds_toArray, List.set_cons_zero, List.set_cons_succ]
        refine wpAnyH_take (i := 34) (oi := _) (v := (.bool true)) rfl (by kernel_rfl) (by kernel_rfl) (by kernel_rfl) (fun _ _ _ h => h) (Or.inl ⟨by rfl, fun w' _ => by go_simp⟩) hHeld ?_
        try simp only [Act.put, List.getElem_toArray, List.getElem_cons_succ, List.getElem_cons_zero, List.setIfInBounds_toArray, List.set_cons_zero, List.set_cons_succ]
        refine wpAnyH_take (i := 35) (oi := _) (v := (.bool true)) rfl (by kernel_rfl) (by kernel_rfl) (by kernel_rfl) (fun _ _ _ h => h) (Or.inl ⟨by rfl, fun w' _ => by go_simp⟩) hHeld ?_
        try simp only [Act.put, List.getElem_toArray, List.getElem_cons_succ, List.getElem_cons_zero, List.setIfInBounds_toArray, List.set_cons_zero, List.set_cons_succ]
        refine wpAnyH_done (by kernel_rfl) ?_ _
        refine NoPanic.normal ?_
        have HB := Lib.hid hHeld.bel
        clear hHeld
        go_wp2_with fail
        go_ret
        exact ⟨rfl, HB.out⟩
  · have e1 : (serE n != 0) = true := by simpa using hE
    have hts : serT n = ⟨#[]⟩ := by unfold serT; rw [if_neg hE]
    have HE := Lib.hid hE
    rw [hts]
    clear hE hts
    go_wp2_with fail
    go_ret
    exact ⟨rfl, HBW3.out⟩
end Go.Proofs.YtlcppkcclolgcaaDoor
