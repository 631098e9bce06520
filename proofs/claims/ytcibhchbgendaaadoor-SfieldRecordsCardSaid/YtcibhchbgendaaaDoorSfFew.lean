/- The walks of vitrineref21.Few and Plain. -/
import Derived.Test.YtcibhchbgendaaaDoorSfRSame
import Derived.Test.YtcibhchbgendaaaDoorSfMakePure
import Derived.Deep.QuietTactic
import Derived.BigQuiet
import Derived.RegionTactic
import Derived.BigRegion
import Derived.Deep.RegionHeld3
import Derived.Deep.DrawnRows
namespace Go.Proofs.YtcibhchbgendaaaDoor.Sf
open Go Go.RowKit Go.Proofs.YtcibhchbgendaaaDoor.By
attribute [local go_sem ↓] Go.wp_at_zero Go.wp_at_succ

/-- how a call ends that tells an act of its own -/
def OwnEnd (a : A) (B : Nat) (e : Ending) (w' : World) : Prop := ∃ cv rv, e = .returned (aval a cv rv) ∧ BOwn B w' cv a.codes ∧ BOwn B w' rv a.rc
/-- how a call ends that tells an act that may be read -/
def RowEnd (a : A) (e : Ending) (w' : World) : Prop := ∃ cv rv, e = .returned (aval a cv rv) ∧ BRow w' cv a.codes ∧ BRow w' rv a.rc

theorem BOwn_set {B g i : Nat} {W : World} {v : Value} {l : List Nat} (h : BOwn B W v l) (hg : g < B) (u : Value) : BOwn B (W.setCell ⟨g, i, none⟩ u) v l :=
  h.keep fun g' n c e => Below.heap_setCell W _ u g' (by
    rcases h.lt with h | ⟨g2, n2, c2, h, h2, _⟩
    · rw [h] at e; cases e
    · rw [h] at e; injection e with e; injection e with e; injection e with e; subst e
      show g2 ≠ g
      omega)
theorem results_struct1 {P : Program} {fn : Func} {p : Tmp} {ty : TypeId} (h : fn.results = #[.cell p ty]) (tmps : Array Value) (w : World) (g : Nat) (t : TypeId) (cs : Array Value) (fr : Nat × Nat) (d : TypeDesc)
    (hp : tmps.getD p undef = .pointer (some ⟨g, 0, none⟩)) (hg : w.heap[g]? = some (.cells cs t fr))
    (hu : P.underlying ty = some d) (hd : (match d with | .struct _ | .array _ _ => true | _ => false) = true) (hi : (P.info? ty).map (·.size) = some cs.size) :
    (results fn tmps).run P w = .ok (.agg cs) w := by
  have hp' : tmps[p]?.getD undef = .pointer (some ⟨g, 0, none⟩) := by simpa using hp
  simp [results, h, hp', asAddr, run_loadVar_row w g t ty cs fr d hg hu hd hi]

set_option maxHeartbeats 4000000 in
set_option maxRecDepth 100000 in
theorem few_any (a : A) (ca ra : Value) (w : World) (h1 : BRow w ca a.codes) (h2 : BRow w ra a.rc) :
    Calls Tryd.prog 10 #[aval a ca ra] w fun e w' => OwnEnd (fewOf a) w.heap.size e w' ∧ Below w.heap.size w w' := by
  obtain ⟨k, c, m, b, q, cs, rc⟩ := a
  change BRow w ca cs at h1
  change BRow w ra rc at h2
  simp only [aval, fewOf]
  obtain ⟨ca, cac, rfl⟩ := BRow_form h1
  obtain ⟨ra, rac, rfl⟩ := BRow_form h2
  obtain ⟨n1, e1⟩ : ∃ n, n = cs.length := ⟨_, rfl⟩
  obtain ⟨n2, e2⟩ : ∃ n, n = rc.length := ⟨_, rfl⟩
  rw [← e1] at h1 ⊢
  rw [← e2] at h2 ⊢
  have HBK := Lib.hid ((Bk.new w 26 #[.int .i64 k, .int .i64 c, .int .i64 m, .bool b, .int .u8 (q : Int), .slice ca n1 cac, .slice ra n2 rac]).alloc (.cells #[.int .i64 0, .int .i64 0, .int .i64 0, .bool false, .int .u8 0, .slice none 0 0, .slice none 0 0] 26))
  have HZK := Lib.hid (show Bk ((w.alloc (.cells #[.int .i64 k, .int .i64 c, .int .i64 m, .bool b, .int .u8 (q : Int), .slice ca n1 cac, .slice ra n2 rac] 26)).alloc (.cells #[.int .i64 0, .int .i64 0, .int .i64 0, .bool false, .int .u8 0, .slice none 0 0, .slice none 0 0] 26)) (w.heap.size + 1) 26 #[.int .i64 0, .int .i64 0, .int .i64 0, .bool false, .int .u8 0, .slice none 0 0, .slice none 0 0] from by
    have h := Bk.new (w.alloc (.cells #[.int .i64 k, .int .i64 c, .int .i64 m, .bool b, .int .u8 (q : Int), .slice ca n1 cac, .slice ra n2 rac] 26)) 26 #[.int .i64 0, .int .i64 0, .int .i64 0, .bool false, .int .u8 0, .slice none 0 0, .slice none 0 0]
    simp only [World.size_alloc] at h
    exact h)
  have HB := Lib.hid (((Below.refl w.heap.size w).alloc (Nat.le_refl _) (.cells #[.int .i64 k, .int .i64 c, .int .i64 m, .bool b, .int .u8 (q : Int), .slice ca n1 cac, .slice ra n2 rac] 26)).alloc (by simp) (.cells #[.int .i64 0, .int .i64 0, .int .i64 0, .bool false, .int .u8 0, .slice none 0 0, .slice none 0 0] 26))
  have HW1 := Lib.hid (fun (W : World) (h : Below w.heap.size w W) => h1.below h (Nat.le_refl _))
  have HW2 := Lib.hid (fun (W : World) (h : Below w.heap.size w W) => h2.below h (Nat.le_refl _))
  clear h1 h2 e1 e2
  have TOK := Lib.hid True.intro
  go_enter Tryd.func10, Tryd.ntmps10
  go_wp2_with fail
  go_region_with (first
    | (go_at_call 12; clear TOK; refine (cut_any _ cs 20 (by decide) _ (HW1.out _ HB.out.drew)).mono ?_; rintro e w1 ⟨v1, rfl, ho, _, hb⟩; obtain ⟨p1, c1, rfl⟩ := BOwn_form ho; have HO1 := Lib.hid ho; have HB1 := Lib.hid (HB.out.drew.trans (hb.mono (by simp <;> omega))); have HBK1 := Lib.hid (HBK.out.drew.below hb (by simp <;> omega)); have HZK1 := Lib.hid (HZK.out.drew.below hb (by simp)); have hsz1 : w.heap.size + 2 ≤ w1.heap.size := (by have := hb.size; simp at this; omega); have hA5 := HBK1.out.cellv (i := 5) rfl; have hA6 := HBK1.out.cellv (i := 6) rfl; clear hb ho)
    | (go_at_call 12; refine (cut_any _ rc 300 (by decide) _ (HW2.out _ HB1.out)).mono ?_; rintro e w2 ⟨v2, rfl, ho, _, hb⟩; obtain ⟨p2, c2, rfl⟩ := BOwn_form ho; have HO2 := Lib.hid ho; have HO12 := Lib.hid (HO1.out.below hb (Nat.le_refl _)); have HB2 := Lib.hid (HB1.out.trans (hb.mono (by omega))); have HBK2 := Lib.hid (HBK1.out.below hb (by omega)); have HZK2 := Lib.hid (HZK1.out.below hb (by omega)); have hsz2 := hb.size; clear hA5 hA6; have hA5 := HBK2.out.cellv (i := 5) rfl; have hA6 := HBK2.out.cellv (i := 6) rfl; have hF5 := HBK2.out.frozen 5; have hF6 := HBK2.out.frozen 6; clear hb ho)
    | fail)
  all_goals
    clear hA5 hA6
    obtain ⟨d0, d1, d2, d3, d4, d5, d6⟩ := cells7 HBK2.out
    obtain ⟨f0, f1, f2, f3, f4, f5, f6⟩ := frozen7 HBK2.out
    obtain ⟨e0, e1, e2, e3, e4, e5, e6⟩ := cells7 HZK2.out
    obtain ⟨g0, g1, g2, g3, g4, g5, g6⟩ := frozen7 HZK2.out
    go_wp2_with fail
    clear d0 d1 d2 d3 d4 d5 d6 f0 f1 f2 f3 f4 f5 f6 e0 e1 e2 e3 e4 e5 e6 g0 g1 g2 g3 g4 g5 g6
    have h1 := HO12.out
    have h2 := HO2.out
    rw [List.length_take] at h1 h2
    have h1' := BOwn_fill7 (BOwn_set (i := 6) (g := w.heap.size) (BOwn_set (i := 5) (g := w.heap.size) h1 (by simp <;> omega) (.slice p1 (min 20 cs.length) c1)) (by simp <;> omega) (.slice p2 (min 300 rc.length) c2)) (g := w.heap.size + 1) (by simp <;> omega) (.int .i64 k) (.int .i64 c) (.int .i64 m) (.bool b) (.int .u8 (q : Int)) (.slice p1 (min 20 cs.length) c1) (.slice p2 (min 300 rc.length) c2)
    have h2' := BOwn_fill7 (BOwn_set (i := 6) (g := w.heap.size) (BOwn_set (i := 5) (g := w.heap.size) h2 (by omega) (.slice p1 (min 20 cs.length) c1)) (by omega) (.slice p2 (min 300 rc.length) c2)) (g := w.heap.size + 1) (by omega) (.int .i64 k) (.int .i64 c) (.int .i64 m) (.bool b) (.int .u8 (q : Int)) (.slice p1 (min 20 cs.length) c1) (.slice p2 (min 300 rc.length) c2)
    exact bodyPost_ret (v := .agg #[.int .i64 k, .int .i64 c, .int .i64 m, .bool b, .int .u8 (q : Int), .slice p1 (min 20 cs.length) c1, .slice p2 (min 300 rc.length) c2]) (results_struct1 (p := 2) rfl _ _ (w.heap.size + 1) 26 _ _ _ rfl (Bk_fill7 (Bk.far (Bk.far HZK2.out (p := ⟨w.heap.size, _, none⟩) (by simp) _) (p := ⟨w.heap.size, _, none⟩) (by simp) _) _ _ _ _ _ _ _) Tryd.underlying26 rfl (by kernel_rfl)) rfl
      ⟨⟨_, _, rfl, h1'.lower (C := w.heap.size) (by simp <;> omega), h2'.lower (C := w.heap.size) (by omega)⟩, below_fill7 (Below.setCell (Below.setCell HB2.out (p := ⟨w.heap.size, _, none⟩) (Nat.le_refl _) _) (p := ⟨w.heap.size, _, none⟩) (Nat.le_refl _) _) (by omega) _ _ _ _ _ _ _⟩
end Go.Proofs.YtcibhchbgendaaaDoor.Sf
