/- The walk of Parse, and the small questions to a parser. -/
import Derived.Test.YtlcppkcclolgcaaQf
namespace Go.Proofs.Ytlcppkcclolgcaa
set_option linter.unusedVariables false
set_option linter.unusedSimpArgs false
open Go.RowKit
theorem getD_nb (m : ByteArray) (j : Nat) (h : j < m.size) : (nb m).getD j 0 = (m[j]'h).toNat := by
  simp [nb, List.getD_eq_getElem?_getD, h]
  rfl
theorem pfeed_conv (w0 : World) (S : Nat → Prop) (B gp cap : Nat) (s : ByteArray) (p : PS) (bs : List Nat) (w : World) (H : PaX w0 S w B gp p) (hi : PInv p bs) (hl : s.size ≤ 1000000000) (hcap : s.size ≤ cap) :
    Calls Try.prog 10 #[.pointer (some ⟨gp, 0, none⟩), .slice (some ⟨w.heap.size, 0, none⟩) s.size cap] (Lib.bytesWorld w 5 s) fun e w' => e = .returned (.int .i64 (((p.feed (nb s)).at_ : Nat) - (p.at_ : Nat) : Int)) ∧ PaX w0 S w' B gp (p.feed (nb s)) := by
  have hb : Below w.heap.size w (Lib.bytesWorld w 5 s) := below_conv w w s (Below.refl _ _) (Nat.le_refl _)
  obtain ⟨fl, gf, sv, rv, H0⟩ := H
  have H1 := H0.later hb
  have hrd : RdB (Lib.bytesWorld w 5 s) (fun k => fl k ≠ 0) w.heap.size (nb s) := by
    refine ⟨by rw [Lib.bytesWorld_size]; omega, fun h => Nat.lt_irrefl _ (H0.paw.hB _ h).2, fun j hj => ?_⟩
    rw [nb_length] at hj
    rw [Lib.bytesWorld_cell w 5 s j hj, getD_nb s j hj]
    congr 3
    simp [List.getD_eq_getElem?_getD, hj]
    rfl
  have hfd := pfeed_any _ _ B gp p bs (nb s) w.heap.size cap _ ⟨fl, gf, sv, rv, H1.rebase⟩ hi (nb_bytes s) hrd (by rw [nb_length]; exact hl) (by rw [nb_length]; exact hcap)
  rw [nb_length] at hfd
  refine hfd.mono ?_
  rintro e w' ⟨he, fl', gf', sv', rv', h⟩
  exact ⟨he, fl', gf', sv', rv', H1.join h⟩
/-- the parser that has been fed a text -/
def prs (s : ByteArray) : PS := PS.new.feed (nb s)
theorem prs_inv (s : ByteArray) : PInv (prs s) (nb s) := new_inv (nb_bytes s)
theorem prs_small (s : ByteArray) : (prs s).code = 0 → (prs s).x.whole = true → (prs s).x.root.small 1048576 := fun h1 h2 => serE_small (parse_sound (nb_bytes s) h1 h2).1
def ParseP (w0 : World) (s : ByteArray) (e : Ending) (w' : World) : Prop :=
  ∃ a c, e = .returned (.tuple #[(clN (prs s)).val a c, .agg #[.int .i64 (clC (prs s)), .int .i64 (clA (prs s) : Nat)]]) ∧ (clN (prs s)).InS (fun b => w0.heap.size ≤ b) w' a ∧ Below w0.heap.size w0 w'
theorem below_trans2 {w0 w1 w2 : World} (h : Below w0.heap.size w0 w1) (h' : Below w1.heap.size w1 w2) : Below w0.heap.size w0 w2 :=
  ⟨h'.os.trans h.os, h'.tape.trans h.tape, h'.output.trans h.output, Nat.le_trans h.size h'.size, fun k hk => (h'.block k (Nat.lt_of_lt_of_le hk h.size)).trans (h.block k hk)⟩
theorem below_up6 {w0 w : World} (h : Below w0.heap.size w0 w) (x0 x1 x2 x3 y0 y1 : Value) :
    Below w0.heap.size w0 ((((((w.setCell ⟨w0.heap.size, 0, none⟩ x0).setCell ⟨w0.heap.size, 1, none⟩ x1).setCell ⟨w0.heap.size, 2, none⟩ x2).setCell ⟨w0.heap.size, 3, none⟩ x3).setCell ⟨w0.heap.size + 1, 0, none⟩ y0).setCell ⟨w0.heap.size + 1, 1, none⟩ y1) :=
  (((((h.setCell (Nat.le_refl _) _).setCell (Nat.le_refl _) _).setCell (Nat.le_refl _) _).setCell (Nat.le_refl _) _).setCell (Nat.le_succ _) _).setCell (Nat.le_succ _) _
/-- the result's boxes, laid ahead of the parser -/
def box2 (w : World) : World := (w.alloc (.cells #[.int .i64 0, .bool false, .string ⟨#[]⟩, .slice none 0 0] 26)).alloc (.cells #[.int .i64 0, .int .i64 0] 30)
theorem box2_size (w : World) : (box2 w).heap.size = w.heap.size + 2 := by simp [box2]
set_option maxRecDepth 100000 in
set_option maxHeartbeats 4000000 in
theorem parse_any (s : ByteArray) (w : World) (hs : s.size ≤ 1000000000) :
    Calls Try.prog 7 #[.string s] w fun e w' => ParseP w s e w' := by
  have CN := Lib.hid (newp_any (box2 w))
  have hr1 : (box2 w).heap[w.heap.size]? = _ := row_past (heap_alloc_new w (.cells #[.int .i64 0, .bool false, .string ⟨#[]⟩, .slice none 0 0] 26)) (.cells #[.int .i64 0, .int .i64 0] 30)
  have hr2 : (box2 w).heap[w.heap.size + 1]? = _ := alloc_new2 w (.cells #[.int .i64 0, .bool false, .string ⟨#[]⟩, .slice none 0 0] 26) #[.int .i64 0, .int .i64 0] 30
  have hsz := box2_size w
  have hbx : Below w.heap.size w (box2 w) := ((Below.refl _ _).alloc (Nat.le_refl _) _).alloc (by simp) _
  have hsI : (s.size : Int) ≤ 1000000000 := by omega
  have hs0 : (0 : Int) ≤ s.size := by omega
  have hcv := fun W => Lib.run_convert_string_bytes (P := Try.prog) W 9 38 5 s Try.underlying9 Try.underlying38 Try.underlying5
  have HR1 := Lib.hid hr1
  have HR2 := Lib.hid hr2
  have HSZ := Lib.hid hsz
  have HBX := Lib.hid hbx
  clear hr1 hr2 hsz hbx
  go_enter Try.func7, Try.ntmps7
  go_upto_region 1 with fail
  change Code.wp _ _ _ _ (box2 w)
  generalize box2 w = wA at *
  go_upto_region 2 with (go_at_call 8; refine CN.out.mono ?_; rintro e w1 ⟨gp, rfl, h1⟩; have HP := Lib.hid h1; clear h1)
  have CF := fun cap hc => pfeed_conv wA (fun _ => False) wA.heap.size gp cap s PS.new [] w1 HP.out (new_inv (bs := []) (fun x h => absurd h (List.not_mem_nil))) hs hc
  have hge := grownCap_ge w1 s.size 0 5
  have HGE := Lib.hid hge
  have HCF := Lib.hid CF
  clear CF CN HP hge
  go_upto_region 3 with (go_at_call 10; refine (HCF.out _ HGE.out).mono ?_; rintro e w2 ⟨rfl, h2⟩; have HP2 := Lib.hid h2; clear h2)
  obtain ⟨fl, gf, sv, rv, hps⟩ := HP2.out
  have hcl := pshut_any wA (fun _ => False) wA.heap.size gp fl (prs s) gf sv rv w2 hps.paw (prs_inv s).shut (prs_small s)
  have HCL := Lib.hid hcl
  clear hcl hps HP2 HCF HGE hcv
  go_wp2_with (go_at_call 11; refine HCL.out.mono ?_; rintro e w3 ⟨a, c, he, hi3, fl3, gf3, sv3, rv3, hp3⟩; rw [show (clN (prs s)).val a c = .agg #[.int .i64 (clN (prs s)).kind, .bool (clN (prs s)).exec, .string (clN (prs s)).text, .slice a (clN (prs s)).cnt c] from rfl] at he; subst he; have hr5 := (hp3.away.block w.heap.size (by rw [HSZ.out]; omega) id).trans HR1.out; have hr6 := (hp3.away.block (w.heap.size + 1) (by rw [HSZ.out]; omega) id).trans HR2.out; have p0 := cell_of_row w3 w.heap.size 0 _ _ _ hr5; have p1 := cell_of_row w3 w.heap.size 1 _ _ _ hr5; have p2 := cell_of_row w3 w.heap.size 2 _ _ _ hr5; have p3 := cell_of_row w3 w.heap.size 3 _ _ _ hr5; have q0 := cell_of_row w3 (w.heap.size + 1) 0 _ _ _ hr6; have q1 := cell_of_row w3 (w.heap.size + 1) 1 _ _ _ hr6; have f0 := frozen_of_row w3 w.heap.size 0 _ _ hr5; have f1 := frozen_of_row w3 w.heap.size 1 _ _ hr5; have f2 := frozen_of_row w3 w.heap.size 2 _ _ hr5; have f3 := frozen_of_row w3 w.heap.size 3 _ _ hr5; have g0 := frozen_of_row w3 (w.heap.size + 1) 0 _ _ hr6; have g1 := frozen_of_row w3 (w.heap.size + 1) 1 _ _ hr6; have HI3 := Lib.hid hi3; have HB3 := Lib.hid (hp3.away.below (B := wA.heap.size) (Nat.le_refl _) (fun k h => h.elim)); clear hi3 hp3 hr5 hr6)
  have hiF := InS.up6 (B := w.heap.size) HI3.out (by rw [HSZ.out]; omega) (m := w.heap.size) (by rw [HSZ.out]; omega) (by rw [HSZ.out]; omega) (.int .i64 (clN (prs s)).kind) (.bool (clN (prs s)).exec) (.string (clN (prs s)).text) (.slice a (clN (prs s)).cnt c) (.int .i64 (clC (prs s))) (.int .i64 (clA (prs s) : Nat))
  have hbF := below_up6 (below_trans2 HBX.out HB3.out) (.int .i64 (clN (prs s)).kind) (.bool (clN (prs s)).exec) (.string (clN (prs s)).text) (.slice a (clN (prs s)).cnt c) (.int .i64 (clC (prs s))) (.int .i64 (clA (prs s) : Nat))
  exact bodyPost_ret (v := .tuple #[.agg #[.int .i64 (clN (prs s)).kind, .bool (clN (prs s)).exec, .string (clN (prs s)).text, .slice a (clN (prs s)).cnt c], .agg #[.int .i64 (clC (prs s)), .int .i64 (clA (prs s) : Nat)]]) (by simp [results, Try.results7, go_sem, p0, p1, p2, p3, q0, q1, f0, f1, f2, f3, g0, g1]) rfl ⟨a, c, rfl, hiF, hbF⟩
end Go.Proofs.Ytlcppkcclolgcaa

