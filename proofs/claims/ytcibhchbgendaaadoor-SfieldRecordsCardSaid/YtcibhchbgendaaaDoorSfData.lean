/- The walk of (sfield.Act).data: the data of an act. -/
import Derived.Test.YtcibhchbgendaaaDoorSfApp
import Derived.Test.YtcibhchbgendaaaDoorSfCmd
import Derived.RegionTactic
import Derived.BigRegion
namespace Go.Proofs.YtcibhchbgendaaaDoor.Sf
open Go Go.RowKit Go.Proofs.YtcibhchbgendaaaDoor.By

/-- how the call ends: the data and their identifier, or there is no such kind -/
def DEnd (a : A) (B : Nat) (e : Ending) (w' : World) : Prop :=
  (isKind a.kind ∧ ∃ p c, e = .returned (.tuple #[.int .u8 (idOf a : Int), .slice p (dataOf a).length c, .bool true]) ∧ BOwn B w' (.slice p (dataOf a).length c) (dataOf a)) ∨
  (¬ isKind a.kind ∧ e = .returned (.tuple #[.int .u8 0, .slice none 0 0, .bool false]))
set_option maxHeartbeats 4000000 in
set_option maxRecDepth 100000 in
theorem mdata_any (a : A) (B : Nat) (ca ra : Value) (w : World) (hq : a.req < 256) (h1 : BOwn B w ca a.codes) (h2 : BOwn B w ra a.rc) (l1 : a.codes.length ≤ 1000) (l2 : a.rc.length ≤ 1000) (hc : Cmds w) :
    Calls Tryd.prog 46 #[aval a ca ra] w fun e w' => DEnd a w.heap.size e w' ∧ Below w.heap.size w w' := by
  obtain ⟨k, c, m, b, q, cs, rc⟩ := a
  change q < 256 at hq
  change BOwn B w ca cs at h1
  change BOwn B w ra rc at h2
  change cs.length ≤ 1000 at l1
  change rc.length ≤ 1000 at l2
  simp only [aval]
  obtain ⟨ca, cac, rfl⟩ := BOwn_form h1
  obtain ⟨ra, rac, rfl⟩ := BOwn_form h2
  obtain ⟨n1, e1⟩ : ∃ n, n = cs.length := ⟨_, rfl⟩
  obtain ⟨n2, e2⟩ : ∃ n, n = rc.length := ⟨_, rfl⟩
  rw [← e1] at h1 l1 ⊢
  rw [← e2] at h2 l2 ⊢
  have E1 := Lib.hid e1
  have E2 := Lib.hid e2
  have HC := Lib.hid hc
  have H1 := Lib.hid h1
  have H2 := Lib.hid h2
  clear e1 e2 hc h1 h2
  by_cases hk1 : k = 1
  · subst hk1
    go_enter Tryd.func46, Tryd.ntmps46
    go_wp2
    go_ret3
    refine ⟨.inl ⟨by show isKind 1; decide, _, _, rfl, ?_⟩, ((Below.refl w.heap.size w).alloc (Nat.le_refl _) _).alloc (by simp) _⟩
    have h := (own_lit (w.alloc (.cells #[.int .i64 1, .int .i64 c, .int .i64 m, .bool b, .int .u8 (q : Int), .slice ca n1 cac, .slice ra n2 rac] 50)) [255, 2] (by decide) (by decide)).lower (C := w.heap.size) (by simp)
    simp only [World.size_alloc] at h
    exact h
  by_cases hk2 : k = 2
  · subst hk2
    have HD := Lib.hid (show dataOf ⟨2, c, m, b, q, cs, rc⟩ = [255, 3, q] ++ cs from rfl)
    obtain ⟨W, hW⟩ : ∃ W, W = (w.alloc (.cells #[.int .i64 2, .int .i64 c, .int .i64 m, .bool b, .int .u8 (q : Int), .slice ca n1 cac, .slice ra n2 rac] 50)).alloc (.cells #[.int .u8 255, .int .u8 3, .int .u8 (q : Int)] 5) := ⟨_, rfl⟩
    have HWB := Lib.hid (show Below w.heap.size w W by rw [hW]; exact ((Below.refl w.heap.size w).alloc (Nat.le_refl _) _).alloc (by simp) _)
    have HO := Lib.hid (show BOwn w.heap.size W (.slice (some ⟨w.heap.size + 1, 0, none⟩) 3 3) [255, 3, q] by
      have h := (own_lit (w.alloc (.cells #[.int .i64 2, .int .i64 c, .int .i64 m, .bool b, .int .u8 (q : Int), .slice ca n1 cac, .slice ra n2 rac] 50)) [255, 3, q] (by simp) (by intro n hn; simp at hn; omega)).lower (C := w.heap.size) (by simp)
      simp only [World.size_alloc] at h
      rw [hW]
      exact h)
    have HS := Lib.hid (show BRow W (.slice ca n1 cac) cs from H1.out.row.below HWB.out (Nat.le_refl _))
    have hWs := HWB.out.size
    have hsum : ([255, 3, q] : List Nat).length + cs.length ≤ 1000000 := by have := E1.out; simp; omega
    have HSUM := Lib.hid hsum
    clear hsum
    go_enter Tryd.func46, Tryd.ntmps46
    go_wp2_with (at_builtin; rw [← hW]; refine wpList_append_brow rfl _ _ rfl w.heap.size _ [255, 3, q] rfl HO.out (.slice ca n1 cac) cs rfl HS.out hWs HSUM.out ?_; intro p5 c5 w5 hbo hgrow)
    have hbel : Below w.heap.size w w5 := HWB.out.grown hgrow hWs (fun j hj => (HO.out.2.lt j hj).1)
    go_ret3
    exact ⟨.inl ⟨by show isKind 2; decide, p5, c5, by rw [HD.out]; try rfl, by rw [HD.out]; exact hbo⟩, hbel⟩
  by_cases hk3 : k = 3
  · subst hk3
    go_enter Tryd.func46, Tryd.ntmps46
    go_wp2_with fail
    refine (byte_any c _ (HC.out.below ((Below.refl w.heap.size w).alloc (Nat.le_refl _) _) HC.out.lt)).mono ?_
    rintro e w1 ⟨rfl, h1⟩
    have HB := Lib.hid (((Below.refl w.heap.size w).alloc (Nat.le_refl _) _).trans (h1.mono (by simp)))
    have hsz := HB.out.size
    have hlt := byteOf_lt c
    clear h1
    go_wp2_with fail
    go_ret3
    refine ⟨.inl ⟨by show isKind 3; decide, _, _, rfl, ?_⟩, HB.out.alloc hsz _⟩
    exact (own_lit w1 [0, byteOf c] (by simp) (by intro n hn; simp at hn; omega)).lower hsz
  by_cases hk4 : k = 4
  · subst hk4
    cases b with
    | true =>
      go_enter Tryd.func46, Tryd.ntmps46
      go_wp2
      go_ret3
      refine ⟨.inl ⟨by show isKind 4; decide, _, _, rfl, ?_⟩, ((Below.refl w.heap.size w).alloc (Nat.le_refl _) _).alloc (by simp) _⟩
      have h := (own_lit (w.alloc (.cells #[.int .i64 4, .int .i64 c, .int .i64 m, .bool true, .int .u8 (q : Int), .slice ca n1 cac, .slice ra n2 rac] 50)) [128] (by decide) (by decide)).lower (C := w.heap.size) (by simp)
      simp only [World.size_alloc] at h
      exact h
    | false =>
      go_enter Tryd.func46, Tryd.ntmps46
      go_wp2
      go_ret3
      refine ⟨.inl ⟨by show isKind 4; decide, _, _, rfl, ?_⟩, ((Below.refl w.heap.size w).alloc (Nat.le_refl _) _).alloc (by simp) _⟩
      have h := (own_lit (w.alloc (.cells #[.int .i64 4, .int .i64 c, .int .i64 m, .bool false, .int .u8 (q : Int), .slice ca n1 cac, .slice ra n2 rac] 50)) [0] (by decide) (by decide)).lower (C := w.heap.size) (by simp)
      simp only [World.size_alloc] at h
      exact h
  by_cases hk5 : k = 5
  · subst hk5
    obtain ⟨y, hy⟩ : ∃ y : Nat, y = (m % 256).toNat := ⟨_, rfl⟩
    have hy256 : y < 256 := by omega
    have hmy : m % 256 = (y : Int) := by omega
    have HD := Lib.hid (show dataOf ⟨5, c, m, b, q, cs, rc⟩ = [0, y] by rw [hy]; rfl)
    clear hy
    go_enter Tryd.func46, Tryd.ntmps46
    go_wp2_with fail
    go_region
    all_goals
      go_wp2
      go_ret3
      refine ⟨.inl ⟨by show isKind 5; decide, _, _, by rw [HD.out]; try rfl, ?_⟩, by first | exact (((Below.refl w.heap.size w).alloc (Nat.le_refl _) _).drew).alloc (by simp) _ | exact (((Below.refl w.heap.size w).alloc (Nat.le_refl _) _).alloc (by simp) _).drew⟩
      rw [HD.out]
      have h := (own_lit (w.alloc (.cells #[.int .i64 5, .int .i64 c, .int .i64 m, .bool b, .int .u8 (q : Int), .slice ca n1 cac, .slice ra n2 rac] 50)) [0, y] (by simp) (by intro n hn; simp at hn; omega)).lower (C := w.heap.size) (by simp)
      simp only [World.size_alloc] at h
      exact h
  by_cases hk6 : k = 6
  · subst hk6
    go_enter Tryd.func46, Tryd.ntmps46
    go_wp2
    go_ret3
    refine ⟨.inl ⟨by show isKind 6; decide, _, _, rfl, ?_⟩, ((Below.refl w.heap.size w).alloc (Nat.le_refl _) _).alloc (by simp) _⟩
    have h := (own_lit (w.alloc (.cells #[.int .i64 6, .int .i64 c, .int .i64 m, .bool b, .int .u8 (q : Int), .slice ca n1 cac, .slice ra n2 rac] 50)) [0] (by decide) (by decide)).lower (C := w.heap.size) (by simp)
    simp only [World.size_alloc] at h
    exact h
  by_cases hk7 : k = 7
  · subst hk7
    go_enter Tryd.func46, Tryd.ntmps46
    go_wp2
    go_ret3
    refine ⟨.inl ⟨by show isKind 7; decide, _, _, rfl, ?_⟩, ((Below.refl w.heap.size w).alloc (Nat.le_refl _) _).alloc (by simp) _⟩
    have h := (own_lit (w.alloc (.cells #[.int .i64 7, .int .i64 c, .int .i64 m, .bool b, .int .u8 (q : Int), .slice ca n1 cac, .slice ra n2 rac] 50)) [0] (by decide) (by decide)).lower (C := w.heap.size) (by simp)
    simp only [World.size_alloc] at h
    exact h
  by_cases hk8 : k = 8
  · subst hk8
    go_enter Tryd.func46, Tryd.ntmps46
    go_wp2
    go_ret3
    refine ⟨.inl ⟨by show isKind 8; decide, _, _, rfl, ?_⟩, ((Below.refl w.heap.size w).alloc (Nat.le_refl _) _).alloc (by simp) _⟩
    have h := (own_lit (w.alloc (.cells #[.int .i64 8, .int .i64 c, .int .i64 m, .bool b, .int .u8 (q : Int), .slice ca n1 cac, .slice ra n2 rac] 50)) [0] (by decide) (by decide)).lower (C := w.heap.size) (by simp)
    simp only [World.size_alloc] at h
    exact h
  by_cases hk9 : k = 9
  · subst hk9
    have HD := Lib.hid (show dataOf ⟨9, c, m, b, q, cs, rc⟩ = [0] ++ rc from rfl)
    obtain ⟨W, hW⟩ : ∃ W, W = (w.alloc (.cells #[.int .i64 9, .int .i64 c, .int .i64 m, .bool b, .int .u8 (q : Int), .slice ca n1 cac, .slice ra n2 rac] 50)).alloc (.cells #[.int .u8 0] 5) := ⟨_, rfl⟩
    have HWB := Lib.hid (show Below w.heap.size w W by rw [hW]; exact ((Below.refl w.heap.size w).alloc (Nat.le_refl _) _).alloc (by simp) _)
    have HO := Lib.hid (show BOwn w.heap.size W (.slice (some ⟨w.heap.size + 1, 0, none⟩) 1 1) [0] by
      have h := (own_lit (w.alloc (.cells #[.int .i64 9, .int .i64 c, .int .i64 m, .bool b, .int .u8 (q : Int), .slice ca n1 cac, .slice ra n2 rac] 50)) [0] (by simp) (by intro n hn; simp at hn; omega)).lower (C := w.heap.size) (by simp)
      simp only [World.size_alloc] at h
      rw [hW]
      exact h)
    have HS := Lib.hid (show BRow W (.slice ra n2 rac) rc from H2.out.row.below HWB.out (Nat.le_refl _))
    have hWs := HWB.out.size
    have hsum : ([0] : List Nat).length + rc.length ≤ 1000000 := by have := E2.out; simp; omega
    have HSUM := Lib.hid hsum
    clear hsum
    go_enter Tryd.func46, Tryd.ntmps46
    go_wp2_with (at_builtin; rw [← hW]; refine wpList_append_brow rfl _ _ rfl w.heap.size _ [0] rfl HO.out (.slice ra n2 rac) rc rfl HS.out hWs HSUM.out ?_; intro p5 c5 w5 hbo hgrow)
    have hbel : Below w.heap.size w w5 := HWB.out.grown hgrow hWs (fun j hj => (HO.out.2.lt j hj).1)
    go_ret3
    exact ⟨.inl ⟨by show isKind 9; decide, p5, c5, by rw [HD.out]; try rfl, by rw [HD.out]; exact hbo⟩, hbel⟩
  go_enter Tryd.func46, Tryd.ntmps46
  have q1 : (k == 1) = false := beq_eq_false_iff_ne.2 hk1
  have q2 : (k == 2) = false := beq_eq_false_iff_ne.2 hk2
  have q3 : (k == 3) = false := beq_eq_false_iff_ne.2 hk3
  have q4 : (k == 4) = false := beq_eq_false_iff_ne.2 hk4
  have q5 : (k == 5) = false := beq_eq_false_iff_ne.2 hk5
  have q6 : (k == 6) = false := beq_eq_false_iff_ne.2 hk6
  have q7 : (k == 7) = false := beq_eq_false_iff_ne.2 hk7
  have q8 : (k == 8) = false := beq_eq_false_iff_ne.2 hk8
  have q9 : (k == 9) = false := beq_eq_false_iff_ne.2 hk9
  have HK := Lib.hid (show ¬ isKind k by unfold isKind; omega)
  clear hk1 hk2 hk3 hk4 hk5 hk6 hk7 hk8 hk9
  go_wp2
  go_ret3
  exact ⟨.inr ⟨HK.out, rfl⟩, ((Below.refl w.heap.size w).alloc (Nat.le_refl _) _)⟩
end Go.Proofs.YtcibhchbgendaaaDoor.Sf
