/- The walks of query's small functions: Codes, two, number, colors, addr.Model, Cells, field. -/
import Derived.Test.YtcibhchbgendaabQyPure
import Derived.Test.YtcibhchbgendaabSfBytes
import Derived.Test.YtcibhchbgendaabSfApp
import Derived.Test.YtcibhchbgendaabPgCore
namespace Go.Proofs.Ytcibhchbgendaab.Qy
open Go Go.RowKit Go.Proofs.Ytcibhchbgendaab.By Go.Proofs.Ytcibhchbgendaab.Sf Go.Proofs.Ytcibhchbgendaab.Pg

theorem codes_any (w : World) : Calls Try.prog 60 #[] w fun e w' => e = .returned (.slice (some ⟨w.heap.size, 0, none⟩) 7 7) ∧ w' = w.alloc (.cells (codes7.map bv).toArray 5) := by
  go_enter Try.func60, Try.ntmps60
  go_wp2
  go_ret
  exact ⟨rfl, rfl⟩
theorem codes_own (w : World) : BOwn w.heap.size (w.alloc (.cells (codes7.map bv).toArray 5)) (.slice (some ⟨w.heap.size, 0, none⟩) 7 7) codes7 := own_lit w codes7 (by decide) (by decide)

set_option maxHeartbeats 4000000 in
set_option maxRecDepth 100000 in
theorem two_any (n : Nat) (hn : n ≤ 60000) (w : World) : Calls Try.prog 92 #[.int .i64 n] w fun e w' => e = .returned (.slice (some ⟨w.heap.size, 0, none⟩) 2 2) ∧ w' = w.alloc (.cells ((two n).map bv).toArray 5) := by
  go_enter Try.func92, Try.ntmps92
  go_wp2
  go_ret
  exact ⟨rfl, by
    have e1 : ((n / 256 % 256 : Nat) : Int) = (n : Int) / 256 := by omega
    have e2 : ((n % 256 : Nat) : Int) = (n : Int) % 256 := by omega
    simp only [two, List.map_cons, List.map_nil, bv, e1, e2]⟩

/-- a page, or none, and its number -/
def PgP (w : World) (v : Value) (k : Nat) : Prop := (v = .pointer none ∧ k = 37) ∨ ∃ b, v = .pointer (some ⟨b, 0, none⟩) ∧ PageAt w b (k : Int)

set_option maxHeartbeats 4000000 in
set_option maxRecDepth 100000 in
theorem qnumber_any (v : Value) (k : Nat) (w : World) (h : PgP w v k) : Calls Try.prog 95 #[v] w fun e w' => e = .returned (.int .i64 (k : Int)) ∧ w' = w := by
  rcases h with ⟨rfl, rfl⟩ | ⟨b, rfl, hp⟩
  · have hn : ∀ w : World, (binOp .eql 24 (.pointer none) (.pointer none)).run Try.prog w = .ok (.bool true) w := fun w => by kernel_rfl
    go_enter Try.func95, Try.ntmps95
    go_wp2
    go_ret
    exact ⟨rfl, rfl⟩
  · have hn : ∀ w : World, (binOp .eql 24 (.pointer (some ⟨b, 0, none⟩)) (.pointer none)).run Try.prog w = .ok (.bool false) w := fun w => by kernel_rfl
    have HP := Lib.hid hp
    clear hp
    go_enter Try.func95, Try.ntmps95
    go_wp2_with fail
    refine (number_any b k _ HP.out).mono ?_
    rintro e w1 ⟨rfl, rfl⟩
    go_wp2_with fail
    go_ret
    exact ⟨rfl, rfl⟩

set_option maxHeartbeats 4000000 in
set_option maxRecDepth 100000 in
theorem amodel_any (m : Nat) (hm : m = 2 ∨ m = 3 ∨ m = 4 ∨ m = 5) (w : World) : Calls Try.prog 84 #[.int .i64 m] w fun e w' => e = .returned (.tuple #[.agg #[.int .i64 (rowsOf m : Nat), .int .i64 (colsOf m : Nat)], .int .i64 0]) ∧ Below w.heap.size w w' := by
  rcases hm with rfl | rfl | rfl | rfl
  · go_enter Try.func84, Try.ntmps84
    go_wp2
    exact bodyPost_ret (v := .tuple #[.agg #[.int .i64 24, .int .i64 80], .int .i64 0]) (by simp [results, Try.results84, go_sem]) rfl ⟨rfl, (Below.refl _ _).alloc (Nat.le_refl _) _⟩
  · go_enter Try.func84, Try.ntmps84
    go_wp2
    exact bodyPost_ret (v := .tuple #[.agg #[.int .i64 32, .int .i64 80], .int .i64 0]) (by simp [results, Try.results84, go_sem]) rfl ⟨rfl, (Below.refl _ _).alloc (Nat.le_refl _) _⟩
  · go_enter Try.func84, Try.ntmps84
    go_wp2
    exact bodyPost_ret (v := .tuple #[.agg #[.int .i64 43, .int .i64 80], .int .i64 0]) (by simp [results, Try.results84, go_sem]) rfl ⟨rfl, (Below.refl _ _).alloc (Nat.le_refl _) _⟩
  · go_enter Try.func84, Try.ntmps84
    go_wp2
    exact bodyPost_ret (v := .tuple #[.agg #[.int .i64 27, .int .i64 132], .int .i64 0]) (by simp [results, Try.results84, go_sem]) rfl ⟨rfl, (Below.refl _ _).alloc (Nat.le_refl _) _⟩

set_option maxHeartbeats 4000000 in
set_option maxRecDepth 100000 in
theorem cells_any (R C : Nat) (h1 : 1 ≤ R ∧ R ≤ 43) (h2 : 1 ≤ C ∧ C ≤ 132) (h3 : R * C ≤ 3564) (w : World) : Calls Try.prog 94 #[.agg #[.int .i64 R, .int .i64 C]] w fun e w' => e = .returned (.int .i64 ((R * C : Nat) : Int)) ∧ Below w.heap.size w w' := by
  have h0 : ((R * C : Nat) : Int) = (R : Int) * (C : Int) := Int.natCast_mul R C
  have h4 : (R : Int) * (C : Int) ≤ 3564 := by omega
  have h9 : (0 : Int) ≤ (R : Int) * (C : Int) := by omega
  have hw : wrap64 ((R : Int) * (C : Int)) = (R : Int) * (C : Int) := by
    generalize (R : Int) * (C : Int) = x at h4 h9
    unfold wrap64
    omega
  rw [h0]
  clear h0
  have h5 : (1 : Int) ≤ R := by omega
  have h6 : (R : Int) ≤ 43 := by omega
  have h7 : (1 : Int) ≤ C := by omega
  have h8 : (C : Int) ≤ 132 := by omega
  clear h1 h2 h3
  go_enter Try.func94, Try.ntmps94
  go_wp2_with (first | (go_at_call 102; go_in) | fail)
  go_ret
  exact ⟨rfl, ((Below.refl _ _).alloc (Nat.le_refl _) _).alloc (by simp) _⟩

theorem model_size (m : Nat) (hm : m = 2 ∨ m = 3 ∨ m = 4 ∨ m = 5) : (1 ≤ rowsOf m ∧ rowsOf m ≤ 43) ∧ (1 ≤ colsOf m ∧ colsOf m ≤ 132) ∧ rowsOf m * colsOf m ≤ 3564 := by
  rcases hm with rfl | rfl | rfl | rfl <;> decide

theorem color_step : ∀ k, k < 7 → colorList.take (2 * (k + 1)) = colorList.take (2 * k) ++ [241 + k, 241 + k] := by decide
set_option maxHeartbeats 4000000 in
set_option maxRecDepth 100000 in
theorem colors_any (w : World) : Calls Try.prog 96 #[] w fun e w' => ∃ p c, e = .returned (.slice p 14 c) ∧ BOwn w.heap.size w' (.slice p 14 c) colorList ∧ Below w.heap.size w w' := by
  go_enter Try.func96, Try.ntmps96
  go_wp2_with fail
  go_loopw [1, 2] (fun v i wr => ∃ k : Nat, k ≤ 7 ∧ i = .int .u8 ((241 + k : Nat) : Int) ∧ BOwn w.heap.size wr v (colorList.take (2 * k)) ∧ Below w.heap.size w wr) (fun _ i _ => 248 - (intOf i).toNat)
  case atStart => exact ⟨0, by omega, rfl, BOwn_nil, Below.refl _ _⟩
  case round =>
    obtain ⟨k, hk, rfl, hv, hb⟩ := hrel
    have hl : (colorList.take (2 * k)).length = 2 * k := by rw [List.length_take]; simp [colorList]; omega
    obtain ⟨av, cv, rfl⟩ := BOwn_form hv
    rw [hl] at hv ⊢
    have HV := Lib.hid hv
    have HB := Lib.hid hb
    have HL := Lib.hid hl
    have hsz := hb.size
    clear hv hb hl
    by_cases hlt : k < 7
    · have hd : decide (((241 + k : Nat) : Int) ≤ 247) = true := decide_eq_true (by omega)
      have hw : IntKind.u8.wrap (((241 + k : Nat) : Int) + 1) = ((241 + (k + 1) : Nat) : Int) := by
        rw [IntKind.wrap_u8]
        omega
      obtain ⟨x, hx⟩ : ∃ x : Nat, x = 241 + k := ⟨_, rfl⟩
      have HX := Lib.hid hx
      rw [← hx] at hd hw ⊢
      have hx8 : x ≤ 247 := by omega
      have HLIT := Lib.hid (own_lit wr [x, x] (by simp) (by intro n hn; simp at hn; omega))
      have HO := Lib.hid (HV.out.below ((Below.refl wr.heap.size wr).alloc (Nat.le_refl _) (.cells ([x, x].map bv).toArray 5)) (Nat.le_refl _))
      clear hx
      go_wp2_with (first | (at_builtin; refine wpList_append_brow rfl _ _ rfl w.heap.size _ _ rfl HO.out _ [x, x] rfl HLIT.out.row (by simp; omega) (by rw [HL.out]; simp; omega) ?_; intro p5 c5 w5 hbo hgrow) | fail)
      have hb5 : Below w.heap.size w w5 := (HB.out.alloc hsz _).grown hgrow (by simp; omega) (fun j hj => (HV.out.2.lt j hj).1)
      have hstep := color_step k hlt
      have hx2 := HX.out
      subst hx2
      rw [← hstep] at hbo
      refine ⟨⟨k + 1, by omega, by simp, ?_, hb5⟩, by simp [intOf]; omega⟩
      have e : (List.take (2 * (k + 1)) colorList).length = min (2 * k) colorList.length + 2 := by rw [hstep]; simp
      rw [← e]
      exact hbo
    · obtain rfl : k = 7 := by omega
      go_wp2_with fail
      go_ret
      exact ⟨_, _, rfl, HV.out, HB.out⟩
end Go.Proofs.Ytcibhchbgendaab.Qy
