/- The walks of NewParser and of tree.Copy. -/
import Derived.Test.YtlcppkcclolgcaaQb
namespace Go.Proofs.Ytlcppkcclolgcaa
set_option linter.unusedVariables false
set_option linter.unusedSimpArgs false
open Go.RowKit

set_option maxRecDepth 100000 in
set_option maxHeartbeats 2000000 in
theorem newp_any (w : World) :
    Calls Try.prog 8 #[] w fun e w' => ∃ gp, e = .returned (.pointer (some ⟨gp, 0, none⟩)) ∧ PaX w (fun _ => False) w' w.heap.size gp PS.new := by
  have CN := Lib.hid (newr_any w)
  go_enter Try.func8, Try.ntmps8
  go_wp2_with (go_at_call 23; refine CN.out.mono ?_; rintro e w1 ⟨rfl, h1⟩; have H1 := Lib.hid h1; clear h1)
  go_ret
  have hr := H1.out
  have hb : Below w.heap.size w w1 := ⟨hr.away.os, hr.away.tape, hr.away.output, hr.away.size, fun k hk => hr.away.block k hk (fun h => h)⟩
  have hlt := hr.lt
  have hne : w1.heap.size ≠ w.heap.size := by omega
  have hal : Below w1.heap.size w1 (w1.alloc (.cells (pcells PS.new w.heap.size (.slice none 0 0) (.slice none 0 0)) 52)) := (Below.refl _ _).alloc (Nat.le_refl _) _
  refine ⟨w1.heap.size, rfl, upd (upd (fun _ => 0) w.heap.size 2) w1.heap.size 1, w.heap.size, .slice none 0 0, .slice none 0 0, ⟨heap_alloc_new w1 _, upd_same _ _ _, fun k h => ?_, fun k h hl => ?_, Away.of_below (hb.trans (hal.mono hb.size)), ⟨[], World.ownsRow_nil _ _ _ _, rfl, fun k h => by simp [Value.ownBlock] at h⟩, none, 0, rfl, .inl rfl⟩, fun _ _ => ⟨.slice none 0 0, (hr.later hal).rebase, ?_, fun k h => by simp [Value.ownBlock] at h⟩⟩
  · by_cases e : k = w1.heap.size
    · subst e; exact ⟨hb.size, by simp⟩
    · rw [upd_ne _ _ _ _ e] at h
      by_cases e2 : k = w.heap.size
      · subst e2; exact ⟨Nat.le_refl _, by simp; omega⟩
      · rw [upd_ne _ _ _ _ e2] at h; exact absurd rfl h
  · by_cases e : k = w1.heap.size
    · omega
    · rw [upd_ne _ _ _ _ e] at h
      by_cases e2 : k = w.heap.size
      · omega
      · rw [upd_ne _ _ _ _ e2] at h; exact absurd rfl h
  · rw [upd_ne _ _ _ _ (fun e => hne e.symm)]
    exact upd_same _ _ _
def zcells : Array Value := #[.string ⟨#[]⟩, .int .i64 0, .bool false, .string ⟨#[]⟩, .slice none 0 0]
theorem make_kids (n : Nat) (hn : n ≤ 1048576) (W : World) : (Instr.makeSlice 24 (.int .i64 0) (.int .i64 (n : Int))).run Try.prog W = .ok (.slice (some ⟨W.heap.size, 0, none⟩) 0 n) (W.alloc (.cells (madeCells zcells (n * 5)) 79)) := by
  obtain ⟨i0, hi0, hz0, hz1, hz2⟩ := info_parts (show (Try.prog.info? 79).map (fun i => (i.zero, i.size, i.bytes)) = some (some (.agg #[.string ⟨#[]⟩, .int .i64 0, .bool false, .string ⟨#[]⟩, .slice none 0 0]), 5, 72) by kernel_rfl)
  have h := run_make (P := Try.prog) W 24 79 i0 _ Try.underlying24 hi0 hz0 .i64 .i64 0 (n : Int) (by omega) (by omega) (by rw [hz2]; omega) (by omega)
  rw [hz1] at h
  have e : (n : Int).toNat = n := by omega
  rw [e] at h
  exact h
/-- a copy on its way -/
structure CpS (w : World) (wr : World) (v : Value) (n : ND) (T : Nat → Prop) (ks : List Value) : Prop where
  own : wr.ownsRow w.heap.size 79 5 v n.cnt ks
  kc : n.KC T wr ks
  sep : ∀ b, v.ownBlock = some b → ¬ T b
  lt : ∀ b, T b → w.heap.size ≤ b ∧ b < wr.heap.size
  bel : Below w.heap.size w wr
def CopyOk (n : ND) : Prop := ∀ (a : Option Addr) (cap : Nat) (w : World), n.In w.heap.size w a → n.small 1048576 →
  Calls Try.prog 28 #[n.val a cap] w fun e w' => ∃ a' cap', e = .returned (n.val a' cap') ∧ n.InS (fun b => w.heap.size ≤ b) w' a' ∧ Below w.heap.size w w'
theorem CpS.done {w wr : World} {v : Value} {n : ND} {T : Nat → Prop} {ks : List Value} (H : CpS w wr v n T ks) : ∃ a c, v = .slice a n.cnt c ∧ n.InS (fun b => w.heap.size ≤ b) wr a :=
  kids_in H.own (H.kc.kept (fun b hb h => ⟨rfl, (H.lt b h).1⟩)) (fun b hb => (H.own.lt b hb).1)
theorem CpS.later {w wr w' : World} {v : Value} {n : ND} {T : Nat → Prop} {ks : List Value} (H : CpS w wr v n T ks) (hb : Below wr.heap.size wr w') : CpS w w' v n T ks :=
  ⟨owns_kept H.own (fun b hl _ => hb.block b hl), H.kc.kept (fun b hl h => ⟨hb.block b hl, h⟩), H.sep, fun b h => ⟨(H.lt b h).1, Nat.lt_of_lt_of_le (H.lt b h).2 hb.size⟩, H.bel.trans (hb.mono H.bel.size)⟩
/-- a kid more: its copy lies in new memory, then it is put behind -/
theorem CpS.add {w wr w1 w2 w3 : World} {v v' : Value} {p c : ND} {s : ByteArray} {T : Nat → Prop} {ks : List Value} {a : Option Addr} {cp : Nat} (H : CpS w wr v p T ks) (hb : Below wr.heap.size wr w1) (hin : c.InS (fun b => wr.heap.size ≤ b) w1 a)
    (hb2 : Below w1.heap.size w1 w2) (ho : w3.ownsRow w.heap.size 79 5 v' (p.cnt + 1) (ks ++ [.string s, .int .i64 c.kind, .bool c.exec, .string c.text, .slice a c.cnt cp])) (hg : w2.grownBy w3 v.ownBlock) (hat : v'.ownBlock = v.ownBlock ∨ v'.ownBlock = some w2.heap.size) :
    CpS w w3 v' (.add p s c) (fun b => T b ∨ (wr.heap.size ≤ b ∧ b < w1.heap.size)) (ks ++ [.string s, .int .i64 c.kind, .bool c.exec, .string c.text, .slice a c.cnt cp]) := by
  have hz := hb.size
  have hz2 := hb2.size
  have hz3 := hg.size
  have hzw := H.bel.size
  have hvl : ∀ b, v.ownBlock = some b → b < wr.heap.size := fun b h => (H.own.lt b h).2
  have hk3 : ∀ b, b < w2.heap.size → v.ownBlock ≠ some b → w3.heap[b]? = w2.heap[b]? := fun b hb' hv => hg.block b hb' (fun e => hv e.symm)
  refine ⟨ho, ⟨ks, a, cp, rfl, ?_, ?_⟩, fun b hv => ?_, fun b h => ?_, ?_⟩
  · exact H.kc.kept (fun b hb' h => ⟨(hk3 b (by omega) (fun e => H.sep b e h)).trans ((hb2.block b (by omega)).trans (hb.block b hb')), .inl h⟩)
  · exact hin.kept (fun b hb' h => ⟨(hk3 b (by omega) (fun e => by have := hvl b e; omega)).trans (hb2.block b hb'), .inr ⟨h, hb'⟩⟩)
  · rintro (h | ⟨h1, h2⟩)
    · rcases hat with h' | h'
      · exact H.sep b (by rw [← h', hv]) h
      · rw [hv] at h'; injection h' with h'; have := (H.lt b h).2; omega
    · rcases hat with h' | h'
      · have := hvl b (by rw [← h', hv]); omega
      · rw [hv] at h'; injection h' with h'; omega
  · rcases h with h | ⟨h1, h2⟩
    · have := H.lt b h; omega
    · omega
  · have hb4 : Below w.heap.size w w2 := (H.bel.trans (hb.mono hzw)).trans (hb2.mono (by omega))
    exact ⟨hg.os.trans hb4.os, hg.tape.trans hb4.tape, hg.output.trans hb4.output, Nat.le_trans hb4.size hz3, fun i hi => (hk3 i (by omega) (fun e => by have := (H.own.lt i e).1; omega)).trans (hb4.block i hi)⟩
end Go.Proofs.Ytlcppkcclolgcaa

