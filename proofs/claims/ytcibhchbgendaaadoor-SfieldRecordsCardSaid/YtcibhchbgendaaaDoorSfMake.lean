/- The walk of vitrineref21.Make. -/
import Derived.Test.YtcibhchbgendaaaDoorSfMake2
import Derived.Test.YtcibhchbgendaaaDoorSfMake3
namespace Go.Proofs.YtcibhchbgendaaaDoor.Sf
open Go Go.RowKit Go.Proofs.YtcibhchbgendaaaDoor.By

set_option maxHeartbeats 4000000 in
set_option maxRecDepth 100000 in
theorem rmake_any (a : A) (ca ra : Value) (w : World) (hq : a.req < 256) (h1 : BRow w ca a.codes) (h2 : BRow w ra a.rc) (l1 : a.codes.length ≤ 1000) (l2 : a.rc.length ≤ 1000) :
    Calls Tryd.prog 28 #[aval a ca ra] w fun e w' => FdEnd (makeOf a) w.heap.size e w' ∧ Below w.heap.size w w' := by
  obtain ⟨k, c, m, b, q, cs, rc⟩ := a
  by_cases g1 : k = 1
  · subst g1
    exact rmake1_any c m b q cs rc ca ra w hq h1 h2 l1 l2
  by_cases g2 : k = 2
  · subst g2
    exact rmake2_any c m b q cs rc ca ra w hq h1 h2 l1 l2
  by_cases g3 : k = 3
  · subst g3
    exact rmake3_any c m b q cs rc ca ra w hq h1 h2 l1 l2
  by_cases g4 : k = 4
  · subst g4
    exact rmake4_any c m b q cs rc ca ra w hq h1 h2 l1 l2
  by_cases g5 : k = 5
  · subst g5
    exact rmake5_any c m b q cs rc ca ra w hq h1 h2 l1 l2
  by_cases g6 : k = 6
  · subst g6
    exact rmake6_any c m b q cs rc ca ra w hq h1 h2 l1 l2
  by_cases g7 : k = 7
  · subst g7
    exact rmake7_any c m b q cs rc ca ra w hq h1 h2 l1 l2
  by_cases g8 : k = 8
  · subst g8
    exact rmake8_any c m b q cs rc ca ra w hq h1 h2 l1 l2
  by_cases g9 : k = 9
  · subst g9
    exact rmake9_any c m b q cs rc ca ra w hq h1 h2 l1 l2
  have HM := Lib.hid (show makeOf ⟨k, c, m, b, q, cs, rc⟩ = ((0, []), 1) by
    unfold makeOf
    rw [if_neg (by show ¬ (1 ≤ k ∧ k ≤ 9); omega)])
  change BRow w ca cs at h1
  change BRow w ra rc at h2
  simp only [aval]
  obtain ⟨ca, cac, rfl⟩ := BRow_form h1
  obtain ⟨ra, rac, rfl⟩ := BRow_form h2
  obtain ⟨n1, e1⟩ : ∃ n, n = cs.length := ⟨_, rfl⟩
  obtain ⟨n2, e2⟩ : ∃ n, n = rc.length := ⟨_, rfl⟩
  rw [← e1, ← e2]
  clear e1 e2 l1 l2
  have HB0 := Lib.hid (((Below.refl w.heap.size w).alloc (Nat.le_refl _) (.cells #[.int .i64 k, .int .i64 c, .int .i64 m, .bool b, .int .u8 (q : Int), .slice ca n1 cac, .slice ra n2 rac] 26)).alloc (by simp) (.cells #[.int .u8 0, .slice none 0 0] 43))
  by_cases hk : k < 1
  · clear g1 g2 g3 g4 g5 g6 g7 g8 g9
    go_enter Tryd.func28, Tryd.ntmps28
    go_wp2_with fail
    exact bodyPost_ret (v := .tuple #[.agg #[.int .u8 0, .slice none 0 0], .int .i64 1]) (by simp [results, Tryd.results28, go_sem]) rfl ⟨by rw [HM.out]; exact ⟨_, rfl, BOwn_nil⟩, HB0.out⟩
  · have hk9 : 9 < k := by omega
    clear g1 g2 g3 g4 g5 g6 g7 g8 g9
    go_enter Tryd.func28, Tryd.ntmps28
    go_wp2_with fail
    exact bodyPost_ret (v := .tuple #[.agg #[.int .u8 0, .slice none 0 0], .int .i64 1]) (by simp [results, Tryd.results28, go_sem]) rfl ⟨by rw [HM.out]; exact ⟨_, rfl, BOwn_nil⟩, HB0.out⟩
end Go.Proofs.YtcibhchbgendaaaDoor.Sf
