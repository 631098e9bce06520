/- The walks of page.New, (*Page).built, Number, Sign, Code. -/
import Derived.Test.YtcibhchbgendaabPgBuild
import Derived.Test.YtcibhchbgendaabPgOnce
import Derived.Maps.OwnSet
namespace Go.Proofs.Ytcibhchbgendaab.Pg
open Go Go.RowKit Go.Maps

set_option maxRecDepth 100000 in
set_option maxHeartbeats 1600000 in
/-- '(*sync.Once).doSlow', not yet done and the lock free, the function being a page's build. -/
theorem o_slow (b : Nat) (k : Int) (hk : IsNum k) (w : World) (hw : Fresh w b k) :
    Calls Try.prog 90 #[.pointer (some ⟨b, 1, none⟩), .func (.func 81) #[.pointer (some ⟨b, 0, none⟩)] #[]] w fun e w' => e = .returned (.tuple #[]) ∧
      w.grownBy w' (some b) ∧ Built w' b k := by
  have hB1 : Bk (w.setCell ⟨b, 2, none⟩ (.int .i32 1)) b 122 (pgc k 0 1 (prog 0) (.map none)) := by
    have h := Bk.set hw 2 (.int .i32 1)
    rwa [pgc_set_lock] at h
  have HW := Lib.hid hw
  have HB1 := Lib.hid hB1
  have hl := run_call_load (P := Try.prog) Try.func97 (by kernel_rfl) (by kernel_rfl) (by kernel_rfl) .u32 (by kernel_rfl) (w := w.setCell ⟨b, 2, none⟩ (.int .i32 1)) (a := ⟨b, 1, none⟩) (x := 0) (hB1.cellv pgc_done)
  have hnot : ∀ (x : Bool) (w : World), (Op.unary .not (.bool x)).run Try.prog w = .ok (.bool (!x)) w := fun _ _ => rfl
  have hc2 : w.cell? ⟨b, 2, none⟩ = some (.int .i32 0) := Bk.cellv hw pgc_lock
  have hf2 : w.frozen? ⟨b, 2, none⟩ = false := Bk.frozen hw 2
  clear hw hB1
  go_enter_defers Try.func90, Try.ntmps90
  go_wp2_with (first | (go_at_call 98; refine (o_lock ⟨b, 2, none⟩ _ hc2 hf2).mono ?_; rintro e w' ⟨rfl, rfl⟩) | (go_at_call 89; go_in))
  refine (build_any b k hk _ HB1.out).mono ?_
  rintro e w2 ⟨rfl, hg, m, hm, hb, ho⟩
  have HG := Lib.hid hg
  have HM := Lib.hid hm
  have HB2 := Lib.hid hb
  have HO := Lib.hid ho
  clear hg hm hb ho hl
  go_wp2
  have hz1 : w2.frozen? ⟨b, 1, none⟩ = false := HB2.out.frozen 1
  have hy1 : w2.cell? ⟨b, 1, none⟩ = some (.int .u32 0) := HB2.out.cellv pgc_done
  have HB3 := Lib.hid (show Bk (w2.drew.setCell ⟨b, 1, none⟩ (.int .u32 1)) b 122 (pgc k 1 1 (signs k) (.map (some m))) from by
    have h := HB2.out.drew.set 1 (.int .u32 1)
    rwa [pgc_set_done] at h)
  have HB4 := Lib.hid (show Bk ((w2.drew.setCell ⟨b, 1, none⟩ (.int .u32 1)).setCell ⟨b, 2, none⟩ (.int .i32 0)) b 122 (pgc k 1 0 (signs k) (.map (some m))) from by
    have h := HB3.out.set 2 (.int .i32 0)
    rwa [pgc_set_lock] at h)
  refine leaves_cons (f := 100) (args := #[.pointer (some ⟨b, 1, none⟩), .bool true]) (by simp) (by simp [go_sem]) ?_
  refine (o_store ⟨b, 1, none⟩ (.int .u32 0) .returning _ hy1 hz1).mono ?_
  rintro e u' w'' ⟨rfl, rfl, rfl⟩
  refine leaves_cons (f := 99) (args := #[.pointer (some ⟨b, 2, none⟩)]) (by simp [settle]) (by simp [go_sem]) ?_
  refine (o_unlock ⟨b, 2, none⟩ _ _ (HB3.out.cellv pgc_lock) (HB3.out.frozen 2)).mono ?_
  rintro e u' w'' ⟨rfl, rfl, rfl⟩
  have hfin : w.grownBy ((w2.drew.setCell ⟨b, 1, none⟩ (.int .u32 1)).setCell ⟨b, 2, none⟩ (.int .i32 0)) (some b) ∧ Built ((w2.drew.setCell ⟨b, 1, none⟩ (.int .u32 1)).setCell ⟨b, 2, none⟩ (.int .i32 0)) b k := by
    have hne := ownsMap_ne HO.out HB2.out
    refine ⟨gb_set (p := ⟨b, 2, none⟩) (gb_set (p := ⟨b, 1, none⟩) (gb_drew (gb_trans (gb_set (p := ⟨b, 2, none⟩) (gb_refl _ _) (.inl rfl) _) HG.out)) (.inl rfl) _) (.inl rfl) _, m, HB4.out, ?_⟩
    refine ownsMap_block (w := w2.drew.setCell ⟨b, 1, none⟩ (.int .u32 1)) (ownsMap_block (w := w2) HO.out ?_) (Below.heap_setCell _ _ _ _ hne)
    exact Below.heap_setCell w2.drew _ _ _ hne
  clear HB4 HB3 hy1 hz1 hc2 hf2 HB1 HW HM
  generalize (w2.drew.setCell ⟨b, 1, none⟩ (.int .u32 1)).setCell ⟨b, 2, none⟩ (.int .i32 0) = W3 at *
  obtain ⟨hf1, hf2⟩ := hfin
  simp [Leaves, settle, results, Try.results90, hf1, hf2]

set_option maxRecDepth 100000 in
set_option maxHeartbeats 1600000 in
/-- '(*sync.Once).Do', not yet done, the function being a page's build. -/
theorem o_first (b : Nat) (k : Int) (hk : IsNum k) (w : World) (hw : Fresh w b k) :
    Calls Try.prog 80 #[.pointer (some ⟨b, 1, none⟩), .func (.func 81) #[.pointer (some ⟨b, 0, none⟩)] #[]] w fun e w' => e = .returned (.tuple #[]) ∧
      w.grownBy w' (some b) ∧ Built w' b k := by
  have HW := Lib.hid hw
  have hl := run_call_load (P := Try.prog) Try.func97 (by kernel_rfl) (by kernel_rfl) (by kernel_rfl) .u32 (by kernel_rfl) (w := w) (a := ⟨b, 1, none⟩) (x := 0) (Bk.cellv hw pgc_done)
  have hnot : ∀ (x : Bool) (w : World), (Op.unary .not (.bool x)).run Try.prog w = .ok (.bool (!x)) w := fun _ _ => rfl
  clear hw
  go_enter Try.func80, Try.ntmps80
  go_wp2_with (first | (go_at_call 89; go_in) | (go_at_call 90; refine (o_slow b k hk _ HW.out).mono ?_; rintro e w' ⟨rfl, h1, h2⟩; have H1 := Lib.hid h1; have H2 := Lib.hid h2; clear h1 h2))
  go_end0
  exact ⟨rfl, H1.out, H2.out⟩

set_option maxRecDepth 100000 in
set_option maxHeartbeats 1600000 in
/-- '(*sync.Once).Do', done already. -/
theorem o_done (b : Nat) (k : Int) (w : World) (fv : Value) (hw : Built w b k) :
    Calls Try.prog 80 #[.pointer (some ⟨b, 1, none⟩), fv] w fun e w' => e = .returned (.tuple #[]) ∧ w' = w := by
  obtain ⟨m, hb, _⟩ := hw
  have hl := run_call_load (P := Try.prog) Try.func97 (by kernel_rfl) (by kernel_rfl) (by kernel_rfl) .u32 (by kernel_rfl) (w := w) (a := ⟨b, 1, none⟩) (x := 1) (hb.cellv pgc_done)
  have hnot : ∀ (x : Bool) (w : World), (Op.unary .not (.bool x)).run Try.prog w = .ok (.bool (!x)) w := fun _ _ => rfl
  clear hb
  go_enter Try.func80, Try.ntmps80
  go_wp2_with (first | (go_at_call 89; go_in))
  go_end0
  exact ⟨rfl, rfl⟩

/-- .. either way. -/
theorem o_do (b : Nat) (k : Int) (w : World) (hw : PageAt w b k) :
    Calls Try.prog 80 #[.pointer (some ⟨b, 1, none⟩), .func (.func 81) #[.pointer (some ⟨b, 0, none⟩)] #[]] w fun e w' => e = .returned (.tuple #[]) ∧
      w.grownBy w' (some b) ∧ Built w' b k := by
  rcases hw.2 with h | h
  · exact o_first b k hw.1 w h
  · exact (o_done b k w _ h).mono fun e w' ⟨he, hw'⟩ => ⟨he, by subst hw'; exact gb_refl _ _, by subst hw'; exact h⟩

set_option maxRecDepth 100000 in
set_option maxHeartbeats 1600000 in
theorem built_any (b : Nat) (k : Int) (w : World) (hw : PageAt w b k) :
    Calls Try.prog 69 #[.pointer (some ⟨b, 0, none⟩)] w fun e w' => e = .returned (.pointer (some ⟨b, 0, none⟩)) ∧ w.grownBy w' (some b) ∧ Built w' b k := by
  have HW := Lib.hid hw
  have hmf : ∀ (fn : Fn) (first cap : Array Value) (w : World), (Instr.makeFunc fn first cap).run Try.prog w = .ok (.func fn first cap) w := fun _ _ _ _ => rfl
  clear hw
  go_enter Try.func69, Try.ntmps69
  go_wp2_with (first | (go_at_call 80; refine (o_do b k _ HW.out).mono ?_; rintro e w' ⟨rfl, h1, h2⟩; have H1 := Lib.hid h1; have H2 := Lib.hid h2; clear h1 h2))
  go_ret
  exact ⟨rfl, H1.out, H2.out⟩

theorem zero_page (k : Int) : Try.zeroCells122.setIfInBounds 0 (.int .i64 k) = pgc k 0 0 (prog 0) (.map none) := by kernel_rfl
theorem sign_cell {w : World} {b : Nat} {k : Int} (h : Built w b k) (c : Nat) (hc : c < 256) : w.cell? ⟨b, 4 + c, none⟩ = some (.int .i32 (signOf k c)) := by
  obtain ⟨m, h, _⟩ := h
  exact h.cellv (pgc_sign (by rw [signs_len]; exact hc))

set_option maxRecDepth 100000 in
set_option maxHeartbeats 1600000 in
/-- page.New: a page that there is. -/
theorem new_any (k : Int) (hk : IsNum k) (w : World) :
    Calls Try.prog 42 #[.int .i64 k] w fun e w' => ∃ b, e = .returned (.tuple #[.pointer (some ⟨b, 0, none⟩), .int .i64 0]) ∧ w.heap.size ≤ b ∧ PageAt w' b k ∧ Below w.heap.size w w' := by
  have hnot : ∀ (x : Bool) (w : World), (Op.unary .not (.bool x)).run Try.prog w = .ok (.bool (!x)) w := fun _ _ => rfl
  go_enter Try.func42, Try.ntmps42
  go_wp2_with (first | (go_at_call 67; refine (others_any k hk _).mono ?_; rintro e w' ⟨A, n, rfl, _, _, h1⟩; have H1 := Lib.hid h1; clear h1))
  go_ret2
  refine ⟨_, rfl, H1.out.size, ⟨hk, .inl ?_⟩, H1.out.alloc H1.out.size _⟩
  have h := Bk.new w' 122 (Try.zeroCells122.setIfInBounds 0 (.int .i64 k))
  rw [zero_page] at h
  exact h

set_option maxRecDepth 100000 in
/-- page.New: there is none of that number. -/
theorem new_no (k : Int) (hk : ¬ IsNum k) (w : World) :
    Calls Try.prog 42 #[.int .i64 k] w fun e w' => e = .returned (.tuple #[.pointer none, .int .i64 5]) ∧ w' = w := by
  have hnot : ∀ (x : Bool) (w : World), (Op.unary .not (.bool x)).run Try.prog w = .ok (.bool (!x)) w := fun _ _ => rfl
  go_enter Try.func42, Try.ntmps42
  go_wp2_with (first | (go_at_call 67; refine (others_no k hk _).mono ?_; rintro e w' ⟨rfl, rfl⟩))
  go_ret2
  exact ⟨rfl, rfl⟩

set_option maxRecDepth 100000 in
set_option maxHeartbeats 1600000 in
theorem sign_any (b : Nat) (k : Int) (c : Nat) (hc : c < 256) (w : World) (hw : PageAt w b k) :
    Calls Try.prog 49 #[.pointer (some ⟨b, 0, none⟩), .int .u8 c] w fun e w' => e = .returned (.int .i32 (signOf k c)) ∧ w.grownBy w' (some b) ∧ PageAt w' b k := by
  have HW := Lib.hid hw
  have hn : ∀ w : World, (binOp .eql 24 (.pointer (some ⟨b, 0, none⟩)) (.pointer none)).run Try.prog w = .ok (.bool false) w := fun w => by kernel_rfl
  clear hw
  go_enter Try.func49, Try.ntmps49
  go_wp2_with (first | (go_at_call 69; refine (built_any b k _ HW.out).mono ?_; rintro e w' ⟨rfl, h1, h2⟩; have H1 := Lib.hid h1; have H2 := Lib.hid h2; have hcell := (sign_cell h2 c hc); clear h1 h2))
  go_ret
  exact ⟨rfl, H1.out, HW.out.1, .inr H2.out⟩

theorem wpList_code {w : World} {ops : Array Oper} {rest : List Oper} {o : Oper} {a : Act} {Q : Exit → Act → World → Prop} (k s : Int) (m : Nat) (x : Option Nat) (hx0 : codeOf k s = x) (hs : (Lit.int .i32 s).wf = true)
    (hg : o.guard = none) (p q : Operand) (hop : o.op = Op.lookup 120 p q true) (hm : a.eval p = .map (some m)) (hx : a.eval q = .int .i32 s)
    (hown : w.ownsMap Try.prog 21 (plainElem Try.prog 5) m 256 (mapD k 256))
    (hK : wpList Try.prog ops Q rest (a.put o.dst (.tuple #[.int .u8 (x.getD 0 : Nat), .bool x.isSome])) w) : wpList Try.prog ops Q (o :: rest) a w := by
  refine wpList_lookup_own_ok_int w hg p q _ hop 21 5 .u8 key32 Try.underlying120 Try.underlying5 (by kernel_rfl) m 256 _ hm hown _ _ hx (keyOf_int_mk Try.underlying21 hs) ?_
  intro c hat hwc
  subst hx0
  have e1 : has (mapD k 256) (.int .i32 s) = (codeOf k s).isSome := mapD_has k s 256
  rw [mapD_atKey] at hat
  have e2 : c = ((codeOf k s).getD 0 : Nat) := by
    unfold codeOf
    cases h : codeTo k s 256 with
    | none => rw [h] at hat; simp at hat; simp [hat]
    | some x => rw [h] at hat; simp at hat; simp [hat]
  rw [e1, e2]
  exact hK

set_option maxRecDepth 100000 in
set_option maxHeartbeats 1600000 in
theorem code_any (b : Nat) (k s : Int) (hs : (Lit.int .i32 s).wf = true) (w : World) (hw : PageAt w b k) :
    Calls Try.prog 44 #[.pointer (some ⟨b, 0, none⟩), .int .i32 s] w fun e w' =>
      e = .returned (.tuple #[.int .u8 ((codeOf k s).getD 0 : Nat), .bool (codeOf k s).isSome]) ∧ w.grownBy w' (some b) ∧ PageAt w' b k := by
  have HW := Lib.hid hw
  have hn : ∀ w : World, (binOp .eql 24 (.pointer (some ⟨b, 0, none⟩)) (.pointer none)).run Try.prog w = .ok (.bool false) w := fun w => by kernel_rfl
  have hnot : ∀ (x : Bool) (w : World), (Op.unary .not (.bool x)).run Try.prog w = .ok (.bool (!x)) w := fun _ _ => rfl
  clear hw
  cases hx : codeOf k s
  all_goals
    have HX := Lib.hid hx
    clear hx
    go_enter Try.func44, Try.ntmps44
    go_wp2_with (first | (go_at_call 69; refine (built_any b k _ HW.out).mono ?_; rintro e w' ⟨rfl, h1, h2⟩; have H1 := Lib.hid h1; have H2 := Lib.hid h2; obtain ⟨m, hm1, hm2⟩ := h2; have hcell := hm1.cellv (pgc_map (signs_len k)); have HM := Lib.hid hm2; clear h1 hm1 hm2) | (at_lookup; refine wpList_code k s m _ HX.out hs rfl _ _ rfl rfl rfl HM.out ?_))
    go_ret2
    exact ⟨rfl, H1.out, HW.out.1, .inr H2.out⟩

theorem number_any (b : Nat) (k : Int) (w : World) (hw : PageAt w b k) :
    Calls Try.prog 48 #[.pointer (some ⟨b, 0, none⟩)] w fun e w' => e = .returned (.int .i64 k) ∧ w' = w := by
  have hc : w.cell? ⟨b, 0, none⟩ = some (.int .i64 k) := by
    rcases hw.2 with h | ⟨m, h, _⟩
    · exact Bk.cellv h pgc_num
    · exact h.cellv pgc_num
  have hn : ∀ w : World, (binOp .eql 24 (.pointer (some ⟨b, 0, none⟩)) (.pointer none)).run Try.prog w = .ok (.bool false) w := fun w => by kernel_rfl
  clear hw
  go_enter Try.func48, Try.ntmps48
  go_wp2
  go_ret
  exact ⟨rfl, rfl⟩
end Go.Proofs.Ytcibhchbgendaab.Pg
