/- The walk of (sfield.Act).told: is it an act of that kind that says the same. -/
import Derived.Test.YtcibhchbgendaaaDoorSfFew
import Derived.Test.YtcibhchbgendaaaDoorShelf
namespace Go.Proofs.YtcibhchbgendaaaDoor.Sf
open Go Go.RowKit Go.Proofs.YtcibhchbgendaaaDoor.By

theorem equal_any (v1 v2 : Value) (l1 l2 : List Nat) (w : World) (h1 : BRow w v1 l1) (h2 : BRow w v2 l2) :
    Calls Tryd.prog 62 #[v1, v2] w fun e w' => e = .returned (.bool (decide (l1 = l2))) ∧ w' = w := by
  have h := Tryd.bytes_Equal_strs v1 v2 _ _ w (conv_bytes h1) (conv_bytes h2)
  rw [bstr_beq h1.bound h2.bound] at h
  exact h

set_option maxHeartbeats 4000000 in
set_option maxRecDepth 100000 in
theorem told_any (a b : A) (ca ra cb rb : Value) (w : World) (h1 : BRow w ca a.codes) (h2 : BRow w ra a.rc) (h3 : BRow w cb b.codes) (h4 : BRow w rb b.rc) :
    Calls Tryd.prog 47 #[aval a ca ra, aval b cb rb] w fun e w' => e = .returned (.bool (toldOf a b)) ∧ Below w.heap.size w w' := by
  obtain ⟨k1, c1, m1, b1, q1, cs1, rc1⟩ := a
  obtain ⟨k2, c2, m2, b2, q2, cs2, rc2⟩ := b
  change BRow w ca cs1 at h1
  change BRow w ra rc1 at h2
  change BRow w cb cs2 at h3
  change BRow w rb rc2 at h4
  simp only [aval]
  obtain ⟨ca, cac, rfl⟩ := BRow_form h1
  obtain ⟨ra, rac, rfl⟩ := BRow_form h2
  obtain ⟨cb, cbc, rfl⟩ := BRow_form h3
  obtain ⟨rb, rbc, rfl⟩ := BRow_form h4
  obtain ⟨n1, e1⟩ : ∃ n, n = cs1.length := ⟨_, rfl⟩
  obtain ⟨n2, e2⟩ : ∃ n, n = rc1.length := ⟨_, rfl⟩
  obtain ⟨n3, e3⟩ : ∃ n, n = cs2.length := ⟨_, rfl⟩
  obtain ⟨n4, e4⟩ : ∃ n, n = rc2.length := ⟨_, rfl⟩
  rw [← e1] at h1 ⊢
  rw [← e2] at h2 ⊢
  rw [← e3] at h3 ⊢
  rw [← e4] at h4 ⊢
  have HB := Lib.hid (show Below w.heap.size w ((w.alloc (.cells #[.int .i64 k1, .int .i64 c1, .int .i64 m1, .bool b1, .int .u8 (q1 : Int), .slice ca n1 cac, .slice ra n2 rac] 50)).alloc (.cells #[.int .i64 k2, .int .i64 c2, .int .i64 m2, .bool b2, .int .u8 (q2 : Int), .slice cb n3 cbc, .slice rb n4 rbc] 50)) from ((Below.refl _ _).alloc (Nat.le_refl _) _).alloc (by simp) _)
  have H1 := Lib.hid (h1.below HB.out (Nat.le_refl _))
  have H2 := Lib.hid (h2.below HB.out (Nat.le_refl _))
  have H3 := Lib.hid (h3.below HB.out (Nat.le_refl _))
  have H4 := Lib.hid (h4.below HB.out (Nat.le_refl _))
  clear h1 h2 h3 h4 e1 e2 e3 e4
  by_cases hk2 : k1 = 2
  · subst hk2
    by_cases hq : q1 = q2
    · subst hq
      have HR := Lib.hid (show toldOf ⟨2, c1, m1, b1, q1, cs1, rc1⟩ ⟨k2, c2, m2, b2, q1, cs2, rc2⟩ = decide (cs1 = cs2) by simp [toldOf])
      go_enter Tryd.func47, Tryd.ntmps47
      go_wp2_with fail
      refine (equal_any _ _ cs1 cs2 _ H1.out H3.out).mono ?_
      rintro e w' ⟨rfl, rfl⟩
      go_wp2_with fail
      go_ret
      exact ⟨by rw [HR.out]; try rfl, HB.out⟩
    · have HR := Lib.hid (show toldOf ⟨2, c1, m1, b1, q1, cs1, rc1⟩ ⟨k2, c2, m2, b2, q2, cs2, rc2⟩ = false by simp [toldOf, hq])
      have hqq : ((q1 : Int) == (q2 : Int)) = false := beq_eq_false_iff_ne.2 (by omega)
      clear hq
      go_enter Tryd.func47, Tryd.ntmps47
      go_wp2_with fail
      go_ret
      exact ⟨by rw [HR.out]; try rfl, HB.out⟩
  have t2 : (k1 == 2) = false := beq_eq_false_iff_ne.2 hk2
  by_cases hk3 : k1 = 3
  · subst hk3
    have HR := Lib.hid (show toldOf ⟨3, c1, m1, b1, q1, cs1, rc1⟩ ⟨k2, c2, m2, b2, q2, cs2, rc2⟩ = (c1 == c2) by
      show decide (c1 = c2) = _
      rw [Bool.eq_iff_iff]; simp)
    clear t2 hk2
    go_enter Tryd.func47, Tryd.ntmps47
    go_wp2_with fail
    go_ret
    exact ⟨by rw [HR.out]; try rfl, HB.out⟩
  have t3 : (k1 == 3) = false := beq_eq_false_iff_ne.2 hk3
  by_cases hk5 : k1 = 5
  · subst hk5
    have HR := Lib.hid (show toldOf ⟨5, c1, m1, b1, q1, cs1, rc1⟩ ⟨k2, c2, m2, b2, q2, cs2, rc2⟩ = (m1 == m2) by
      show decide (m1 = m2) = _
      rw [Bool.eq_iff_iff]; simp)
    clear t2 hk2 t3 hk3
    go_enter Tryd.func47, Tryd.ntmps47
    go_wp2_with fail
    go_ret
    exact ⟨by rw [HR.out]; try rfl, HB.out⟩
  have t5 : (k1 == 5) = false := beq_eq_false_iff_ne.2 hk5
  by_cases hk9 : k1 = 9
  · subst hk9
    have HR := Lib.hid (show toldOf ⟨9, c1, m1, b1, q1, cs1, rc1⟩ ⟨k2, c2, m2, b2, q2, cs2, rc2⟩ = decide (rc1 = rc2) from rfl)
    clear t2 hk2 t3 hk3 t5 hk5
    go_enter Tryd.func47, Tryd.ntmps47
    go_wp2_with fail
    refine (equal_any _ _ rc1 rc2 _ H2.out H4.out).mono ?_
    rintro e w' ⟨rfl, rfl⟩
    go_wp2_with fail
    go_ret
    exact ⟨by rw [HR.out]; try rfl, HB.out⟩
  have t9 : (k1 == 9) = false := beq_eq_false_iff_ne.2 hk9
  have HR := Lib.hid (show toldOf ⟨k1, c1, m1, b1, q1, cs1, rc1⟩ ⟨k2, c2, m2, b2, q2, cs2, rc2⟩ = true by simp [toldOf, hk2, hk3, hk5, hk9])
  clear hk2 hk3 hk5 hk9
  go_enter Tryd.func47, Tryd.ntmps47
  go_wp2_with fail
  go_ret
  exact ⟨by rw [HR.out]; try rfl, HB.out⟩
end Go.Proofs.YtcibhchbgendaaaDoor.Sf
