/- The walk of vitrineref21.Same: do two acts say the same. -/
import Derived.Test.YtcibhchbgendaaaDoorSfMem
import Derived.Test.YtcibhchbgendaaaDoorBySame
namespace Go.Proofs.YtcibhchbgendaaaDoor.Sf
open Go Go.RowKit Go.Proofs.YtcibhchbgendaaaDoor.By

theorem BRow_form {w : World} {v : Value} {l : List Nat} (h : BRow w v l) : ∃ a c, v = .slice a l.length c := by
  rcases h with ⟨rfl, rfl⟩ | ⟨a, c, rfl, _⟩
  · exact ⟨_, _, rfl⟩
  · exact ⟨_, _, rfl⟩

set_option maxHeartbeats 4000000 in
set_option maxRecDepth 100000 in
theorem rsame_any (a b : A) (ca ra cb rb : Value) (w : World) (h1 : BRow w ca a.codes) (h2 : BRow w ra a.rc) (h3 : BRow w cb b.codes) (h4 : BRow w rb b.rc) :
    Calls Tryd.prog 23 #[aval a ca ra, aval b cb rb] w fun e w' => e = .returned (.bool (sameA a b)) ∧ Below w.heap.size w w' := by
  obtain ⟨k1, c1, m1, b1, q1, cs1, rc1⟩ := a
  obtain ⟨k2, c2, m2, b2, q2, cs2, rc2⟩ := b
  change BRow w ca cs1 at h1
  change BRow w ra rc1 at h2
  change BRow w cb cs2 at h3
  change BRow w rb rc2 at h4
  simp only [aval]
  obtain ⟨ca, cac, rfl⟩ := BRow_form h1
  obtain ⟨ra, rac, rfl⟩ := BRow_form h2
  obtain ⟨cb, cbc, rfl⟩ := BRow_form h3
  obtain ⟨rb, rbc, rfl⟩ := BRow_form h4
  obtain ⟨n1, e1⟩ : ∃ n, n = cs1.length := ⟨_, rfl⟩
  obtain ⟨n2, e2⟩ : ∃ n, n = rc1.length := ⟨_, rfl⟩
  obtain ⟨n3, e3⟩ : ∃ n, n = cs2.length := ⟨_, rfl⟩
  obtain ⟨n4, e4⟩ : ∃ n, n = rc2.length := ⟨_, rfl⟩
  rw [← e1] at h1 ⊢
  rw [← e2] at h2 ⊢
  rw [← e3] at h3 ⊢
  rw [← e4] at h4 ⊢
  have HB := Lib.hid (show Below w.heap.size w ((w.alloc (.cells #[.int .i64 k1, .int .i64 c1, .int .i64 m1, .bool b1, .int .u8 (q1 : Int), .slice ca n1 cac, .slice ra n2 rac] 26)).alloc (.cells #[.int .i64 k2, .int .i64 c2, .int .i64 m2, .bool b2, .int .u8 (q2 : Int), .slice cb n3 cbc, .slice rb n4 rbc] 26)) from ((Below.refl _ _).alloc (Nat.le_refl _) _).alloc (by simp) _)
  have H1 := Lib.hid (h1.below HB.out (Nat.le_refl _))
  have H2 := Lib.hid (h2.below HB.out (Nat.le_refl _))
  have H3 := Lib.hid (h3.below HB.out (Nat.le_refl _))
  have H4 := Lib.hid (h4.below HB.out (Nat.le_refl _))
  clear h1 h2 h3 h4 e1 e2 e3 e4
  by_cases hk : k1 = k2
  rotate_left
  · have HR := Lib.hid (show sameA ⟨k1, c1, m1, b1, q1, cs1, rc1⟩ ⟨k2, c2, m2, b2, q2, cs2, rc2⟩ = false by simp [sameA, hk])
    have hqk : (k1 == k2) = false := beq_eq_false_iff_ne.2 hk
    clear hk
    go_enter Tryd.func23, Tryd.ntmps23
    go_wp2_with fail
    go_ret
    exact ⟨by rw [HR.out]; try rfl, HB.out⟩
  subst hk
  by_cases hc : c1 = c2
  rotate_left
  · have HR := Lib.hid (show sameA ⟨k1, c1, m1, b1, q1, cs1, rc1⟩ ⟨k1, c2, m2, b2, q2, cs2, rc2⟩ = false by simp [sameA, hc])
    have hqc : (c1 == c2) = false := beq_eq_false_iff_ne.2 hc
    clear hc
    go_enter Tryd.func23, Tryd.ntmps23
    go_wp2_with fail
    go_ret
    exact ⟨by rw [HR.out]; try rfl, HB.out⟩
  subst hc
  by_cases hm : m1 = m2
  rotate_left
  · have HR := Lib.hid (show sameA ⟨k1, c1, m1, b1, q1, cs1, rc1⟩ ⟨k1, c1, m2, b2, q2, cs2, rc2⟩ = false by simp [sameA, hm])
    have hqm : (m1 == m2) = false := beq_eq_false_iff_ne.2 hm
    clear hm
    go_enter Tryd.func23, Tryd.ntmps23
    go_wp2_with fail
    go_ret
    exact ⟨by rw [HR.out]; try rfl, HB.out⟩
  subst hm
  by_cases hb : b1 = b2
  rotate_left
  · have HR := Lib.hid (show sameA ⟨k1, c1, m1, b1, q1, cs1, rc1⟩ ⟨k1, c1, m1, b2, q2, cs2, rc2⟩ = false by simp [sameA, hb])
    have hqb : (b1 == b2) = false := beq_eq_false_iff_ne.2 hb
    clear hb
    go_enter Tryd.func23, Tryd.ntmps23
    go_wp2_with fail
    go_ret
    exact ⟨by rw [HR.out]; try rfl, HB.out⟩
  subst hb
  by_cases hq : q1 = q2
  rotate_left
  · have HR := Lib.hid (show sameA ⟨k1, c1, m1, b1, q1, cs1, rc1⟩ ⟨k1, c1, m1, b1, q2, cs2, rc2⟩ = false by simp [sameA, hq])
    have hqq : ((q1 : Int) == (q2 : Int)) = false := beq_eq_false_iff_ne.2 (by omega)
    clear hq
    go_enter Tryd.func23, Tryd.ntmps23
    go_wp2_with fail
    go_ret
    exact ⟨by rw [HR.out]; try rfl, HB.out⟩
  subst hq
  by_cases hcs : cs1 = cs2
  rotate_left
  · have HR := Lib.hid (show sameA ⟨k1, c1, m1, b1, q1, cs1, rc1⟩ ⟨k1, c1, m1, b1, q1, cs2, rc2⟩ = false by simp [sameA, hcs])
    have HS := Lib.hid (show decide (cs1 = cs2) = false from decide_eq_false hcs)
    clear hcs
    go_enter Tryd.func23, Tryd.ntmps23
    go_wp2_with (go_at_call 18; refine (same_any _ _ cs1 cs2 _ H1.out H3.out).mono ?_; rintro e w1 ⟨rfl, rfl⟩; rw [HS.out])
    go_ret
    exact ⟨by rw [HR.out]; try rfl, HB.out⟩
  subst hcs
  have HS := Lib.hid (show decide (cs1 = cs1) = true from decide_eq_true rfl)
  by_cases hrc : rc1 = rc2
  · subst hrc
    have HR := Lib.hid (show sameA ⟨k1, c1, m1, b1, q1, cs1, rc1⟩ ⟨k1, c1, m1, b1, q1, cs1, rc1⟩ = true from sameA_refl _)
    have HS2 := Lib.hid (show decide (rc1 = rc1) = true from decide_eq_true rfl)
    go_enter Tryd.func23, Tryd.ntmps23
    go_wp2_with fail
    refine (same_any _ _ cs1 cs1 _ H1.out H3.out).mono ?_
    rintro e w1 ⟨rfl, rfl⟩
    rw [decide_eq_true rfl]
    go_wp2_with fail
    refine (same_any _ _ rc1 rc1 _ H2.out H4.out).mono ?_
    rintro e w1 ⟨rfl, rfl⟩
    rw [decide_eq_true rfl]
    go_wp2_with fail
    go_ret
    exact ⟨by rw [HR.out]; try rfl, HB.out⟩
  · have HR := Lib.hid (show sameA ⟨k1, c1, m1, b1, q1, cs1, rc1⟩ ⟨k1, c1, m1, b1, q1, cs1, rc2⟩ = false by simp [sameA, hrc])
    have HS2 := Lib.hid (show decide (rc1 = rc2) = false from decide_eq_false hrc)
    clear hrc
    go_enter Tryd.func23, Tryd.ntmps23
    go_wp2_with fail
    refine (same_any _ _ cs1 cs1 _ H1.out H3.out).mono ?_
    rintro e w1 ⟨rfl, rfl⟩
    rw [decide_eq_true rfl]
    go_wp2_with fail
    refine (same_any _ _ rc1 rc2 _ H2.out H4.out).mono ?_
    rintro e w1 ⟨rfl, rfl⟩
    rw [HS2.out]
    go_wp2_with fail
    go_ret
    exact ⟨by rw [HR.out]; try rfl, HB.out⟩
end Go.Proofs.YtcibhchbgendaaaDoor.Sf
