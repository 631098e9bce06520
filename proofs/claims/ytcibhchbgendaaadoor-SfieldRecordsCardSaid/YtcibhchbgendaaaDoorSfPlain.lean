/- The walk of vitrineref21.Plain: an act with the fields of its kind alone. -/
import Derived.Test.YtcibhchbgendaaaDoorSfFew
namespace Go.Proofs.YtcibhchbgendaaaDoor.Sf
open Go Go.RowKit Go.Proofs.YtcibhchbgendaaaDoor.By
attribute [local go_sem ↓] Go.wp_at_zero Go.wp_at_succ

set_option maxHeartbeats 4000000 in
set_option maxRecDepth 100000 in
theorem plain_any (a : A) (ca ra : Value) (w : World) (h1 : BRow w ca a.codes) (h2 : BRow w ra a.rc) :
    Calls Tryd.prog 31 #[aval a ca ra] w fun e w' => RowEnd (plainOf a) e w' ∧ Below w.heap.size w w' := by
  obtain ⟨k, c, m, b, q, cs, rc⟩ := a
  change BRow w ca cs at h1
  change BRow w ra rc at h2
  simp only [aval]
  obtain ⟨ca, cac, rfl⟩ := BRow_form h1
  obtain ⟨ra, rac, rfl⟩ := BRow_form h2
  obtain ⟨n1, e1⟩ : ∃ n, n = cs.length := ⟨_, rfl⟩
  obtain ⟨n2, e2⟩ : ∃ n, n = rc.length := ⟨_, rfl⟩
  rw [← e1] at h1 ⊢
  rw [← e2] at h2 ⊢
  have HW1 := Lib.hid (fun (W : World) (h : Below w.heap.size w W) => h1.below h (Nat.le_refl _))
  have HW2 := Lib.hid (fun (W : World) (h : Below w.heap.size w W) => h2.below h (Nat.le_refl _))
  clear h1 h2 e1 e2
  have HBW := Lib.hid (fun (A Z X : Obj) => (((Below.refl w.heap.size w).alloc (Nat.le_refl _) A).alloc (by simp) Z).alloc (by simp; omega) X)
  by_cases hk2 : k = 2
  · subst hk2
    have HP := Lib.hid (show plainOf ⟨2, c, m, b, q, cs, rc⟩ = aList q cs from rfl)
    go_enter Tryd.func31, Tryd.ntmps31
    go_wp2_with fail
    go_region
    all_goals
      go_wp2_with fail
      exact bodyPost_ret (v := .agg #[.int .i64 2, .int .i64 0, .int .i64 0, .bool false, .int .u8 (q : Int), .slice ca n1 cac, .slice none 0 0]) (by simp [results, Tryd.results31, go_sem]) rfl ⟨by rw [HP.out]; exact ⟨_, _, rfl, HW1.out _ (by first | exact HBW.out _ _ _ | exact (HBW.out _ _ _).drew), .inl ⟨rfl, rfl⟩⟩, (by first | exact HBW.out _ _ _ | exact (HBW.out _ _ _).drew)⟩
  have q2 : (k == 2) = false := beq_eq_false_iff_ne.2 hk2
  by_cases hk3 : k = 3
  · subst hk3
    have HP := Lib.hid (show plainOf ⟨3, c, m, b, q, cs, rc⟩ = aRead c from rfl)
    clear q2 hk2
    go_enter Tryd.func31, Tryd.ntmps31
    go_wp2_with fail
    exact bodyPost_ret (v := .agg #[.int .i64 3, .int .i64 c, .int .i64 0, .bool false, .int .u8 0, .slice none 0 0, .slice none 0 0]) (by simp [results, Tryd.results31, go_sem]) rfl ⟨by rw [HP.out]; exact ⟨_, _, rfl, .inl ⟨rfl, rfl⟩, .inl ⟨rfl, rfl⟩⟩, (by first | exact HBW.out _ _ _ | exact (HBW.out _ _ _).drew)⟩
  have q3 : (k == 3) = false := beq_eq_false_iff_ne.2 hk3
  by_cases hk4 : k = 4
  · subst hk4
    have HP := Lib.hid (show plainOf ⟨4, c, m, b, q, cs, rc⟩ = aErase b from rfl)
    clear q2 q3 hk2 hk3
    go_enter Tryd.func31, Tryd.ntmps31
    go_wp2_with fail
    exact bodyPost_ret (v := .agg #[.int .i64 4, .int .i64 0, .int .i64 0, .bool b, .int .u8 0, .slice none 0 0, .slice none 0 0]) (by simp [results, Tryd.results31, go_sem]) rfl ⟨by rw [HP.out]; exact ⟨_, _, rfl, .inl ⟨rfl, rfl⟩, .inl ⟨rfl, rfl⟩⟩, (by first | exact HBW.out _ _ _ | exact (HBW.out _ _ _).drew)⟩
  have q4 : (k == 4) = false := beq_eq_false_iff_ne.2 hk4
  by_cases hk5 : k = 5
  · subst hk5
    have HP := Lib.hid (show plainOf ⟨5, c, m, b, q, cs, rc⟩ = aMode m from rfl)
    clear q2 q3 q4 hk2 hk3 hk4
    go_enter Tryd.func31, Tryd.ntmps31
    go_wp2_with fail
    exact bodyPost_ret (v := .agg #[.int .i64 5, .int .i64 0, .int .i64 m, .bool false, .int .u8 0, .slice none 0 0, .slice none 0 0]) (by simp [results, Tryd.results31, go_sem]) rfl ⟨by rw [HP.out]; exact ⟨_, _, rfl, .inl ⟨rfl, rfl⟩, .inl ⟨rfl, rfl⟩⟩, (by first | exact HBW.out _ _ _ | exact (HBW.out _ _ _).drew)⟩
  have q5 : (k == 5) = false := beq_eq_false_iff_ne.2 hk5
  by_cases hk9 : k = 9
  · subst hk9
    have HP := Lib.hid (show plainOf ⟨9, c, m, b, q, cs, rc⟩ = aOut rc from rfl)
    clear q2 q3 q4 q5 hk2 hk3 hk4 hk5
    go_enter Tryd.func31, Tryd.ntmps31
    go_wp2_with fail
    exact bodyPost_ret (v := .agg #[.int .i64 9, .int .i64 0, .int .i64 0, .bool false, .int .u8 0, .slice none 0 0, .slice ra n2 rac]) (by simp [results, Tryd.results31, go_sem]) rfl ⟨by rw [HP.out]; exact ⟨_, _, rfl, .inl ⟨rfl, rfl⟩, HW2.out _ (by first | exact HBW.out _ _ _ | exact (HBW.out _ _ _).drew)⟩, (by first | exact HBW.out _ _ _ | exact (HBW.out _ _ _).drew)⟩
  have q9 : (k == 9) = false := beq_eq_false_iff_ne.2 hk9
  have HP := Lib.hid (show plainOf ⟨k, c, m, b, q, cs, rc⟩ = aPart k by unfold plainOf; rw [if_neg hk2, if_neg hk3, if_neg hk4, if_neg hk5, if_neg hk9])
  clear hk2 hk3 hk4 hk5 hk9
  go_enter Tryd.func31, Tryd.ntmps31
  go_wp2_with fail
  exact bodyPost_ret (v := .agg #[.int .i64 k, .int .i64 0, .int .i64 0, .bool false, .int .u8 0, .slice none 0 0, .slice none 0 0]) (by simp [results, Tryd.results31, go_sem]) rfl ⟨by rw [HP.out]; exact ⟨_, _, rfl, .inl ⟨rfl, rfl⟩, .inl ⟨rfl, rfl⟩⟩, (by first | exact HBW.out _ _ _ | exact (HBW.out _ _ _).drew)⟩
end Go.Proofs.YtcibhchbgendaaaDoor.Sf
