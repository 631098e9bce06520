/- The walk of vitrineref21.Of, of the other identifiers. -/
import Derived.Test.YtcibhchbgendaaaDoorSfOf1
import Derived.Deep.QuietTactic
import Derived.BigQuiet
import Derived.RegionTactic
import Derived.BigRegion
namespace Go.Proofs.YtcibhchbgendaaaDoor.Sf
open Go Go.RowKit Go.Proofs.YtcibhchbgendaaaDoor.By

set_option maxHeartbeats 4000000 in
set_option maxRecDepth 100000 in
theorem of3_any (B : Nat) (v : Value) (l : List Nat) (w : World) (hv : BOwn B w v l) :
    Calls Tryd.prog 22 #[.agg #[.int .u8 3, v]] w fun e w' => ActEnd (erasesOf l) w.heap.size e w' ∧ Below w.heap.size w w' := by
  by_cases h1 : l.length = 1
  · obtain ⟨x, rfl⟩ : ∃ x, l = [x] := List.length_eq_one_iff.1 h1
    obtain ⟨g, cap, rfl, hc0⟩ := BOwn_at hv (i := 0) (x := x) rfl
    have hz : g < w.heap.size := cell_lt hc0
    have hz1 : g < w.heap.size + 1 := by omega
    have hz2 : g < w.heap.size + 1 + 1 := by omega
    simp only [List.length_cons, List.length_nil, Nat.zero_add]
    clear hv h1
    by_cases h0 : x = 0
    · subst h0
      have HR := Lib.hid (show erasesOf [0] = (aErase false, 0) from rfl)
      go_enter Tryd.func22, Tryd.ntmps22
      go_wp2
      exact bodyPost_ret (v := .tuple #[.agg #[.int .i64 4, .int .i64 0, .int .i64 0, .bool false, .int .u8 0, .slice none 0 0, .slice none 0 0], .int .i64 0]) (by simp [results, Tryd.results22, go_sem]) rfl ⟨by rw [HR.out]; exact ActEnd_of _ _ _ _ _ _ BOwn_nil BOwn_nil, ((((Below.refl _ _).alloc (Nat.le_refl _) _).alloc (by simp) _).alloc (by simp; omega) _)⟩
    · by_cases h8 : x = 128
      · subst h8
        have HR := Lib.hid (show erasesOf [128] = (aErase true, 0) from rfl)
        go_enter Tryd.func22, Tryd.ntmps22
        go_wp2
        exact bodyPost_ret (v := .tuple #[.agg #[.int .i64 4, .int .i64 0, .int .i64 0, .bool true, .int .u8 0, .slice none 0 0, .slice none 0 0], .int .i64 0]) (by simp [results, Tryd.results22, go_sem]) rfl ⟨by rw [HR.out]; exact ActEnd_of _ _ _ _ _ _ BOwn_nil BOwn_nil, ((((Below.refl _ _).alloc (Nat.le_refl _) _).alloc (by simp) _).alloc (by simp; omega) _)⟩
      · have HR := Lib.hid (show erasesOf [x] = (A0, 4) by simp [erasesOf, h0, h8])
        have hx0 : ((x : Int) != 0) = true := bne_iff_ne.2 (by omega)
        have hx8 : ((x : Int) != 128) = true := bne_iff_ne.2 (by omega)
        clear h0 h8
        go_enter Tryd.func22, Tryd.ntmps22
        go_wp2
        exact bodyPost_ret (v := .tuple #[.agg #[.int .i64 0, .int .i64 0, .int .i64 0, .bool false, .int .u8 0, .slice none 0 0, .slice none 0 0], .int .i64 4]) (by simp [results, Tryd.results22, go_sem]) rfl ⟨by rw [HR.out]; exact ActEnd_of _ _ _ _ _ _ BOwn_nil BOwn_nil, ((((Below.refl _ _).alloc (Nat.le_refl _) _).alloc (by simp) _).alloc (by simp; omega) _)⟩
  · have HR := Lib.hid (show erasesOf l = (A0, 4) by simp [erasesOf, h1])
    obtain ⟨a, cap, rfl⟩ := BOwn_form hv
    obtain ⟨n, hn⟩ : ∃ n, n = l.length := ⟨_, rfl⟩
    rw [← hn] at h1 ⊢
    have hn1 : ((n : Int) != 1) = true := bne_iff_ne.2 (by omega)
    clear hv hn h1
    go_enter Tryd.func22, Tryd.ntmps22
    go_wp2
    exact bodyPost_ret (v := .tuple #[.agg #[.int .i64 0, .int .i64 0, .int .i64 0, .bool false, .int .u8 0, .slice none 0 0, .slice none 0 0], .int .i64 4]) (by simp [results, Tryd.results22, go_sem]) rfl ⟨by rw [HR.out]; exact ActEnd_of _ _ _ _ _ _ BOwn_nil BOwn_nil, ((((Below.refl _ _).alloc (Nat.le_refl _) _).alloc (by simp) _).alloc (by simp; omega) _)⟩

set_option maxHeartbeats 4000000 in
set_option maxRecDepth 100000 in
theorem ofp_any (k : Nat) (hk : k = 6 ∨ k = 7 ∨ k = 8) (B : Nat) (v : Value) (l : List Nat) (w : World) (hv : BOwn B w v l) :
    Calls Tryd.prog 22 #[.agg #[.int .u8 ((k + 6 : Nat) : Int), v]] w fun e w' => ActEnd (partsOf k l) w.heap.size e w' ∧ Below w.heap.size w w' := by
  have hmax : l.length ≤ 9223372036854775807 := hv.row.len
  cases l with
  | nil =>
    have HR := Lib.hid (show partsOf k [] = (A0, 4) from rfl)
    obtain ⟨a, cap, rfl⟩ := BOwn_form hv
    simp only [List.length_nil]
    clear hv hmax
    rcases hk with rfl | rfl | rfl
    all_goals
      go_enter Tryd.func22, Tryd.ntmps22
      go_wp2
      exact bodyPost_ret (v := .tuple #[.agg #[.int .i64 0, .int .i64 0, .int .i64 0, .bool false, .int .u8 0, .slice none 0 0, .slice none 0 0], .int .i64 4]) (by simp [results, Tryd.results22, go_sem]) rfl ⟨by rw [HR.out]; exact ActEnd_of _ _ _ _ _ _ BOwn_nil BOwn_nil, ((((Below.refl _ _).alloc (Nat.le_refl _) _).alloc (by simp) _).alloc (by simp; omega) _)⟩
  | cons x0 r =>
    obtain ⟨g, cap, rfl, hc0⟩ := BOwn_at hv (i := 0) (x := x0) rfl
    have hz : g < w.heap.size := cell_lt hc0
    have hz1 : g < w.heap.size + 1 := by omega
    have hz2 : g < w.heap.size + 1 + 1 := by omega
    obtain ⟨n, hn⟩ : ∃ n, n = (x0 :: r).length := ⟨_, rfl⟩
    have hn2 : 1 ≤ n := by rw [hn]; simp
    have hn0 : 0 < n := by omega
    have hnl : r.length + 1 = n := by rw [hn]; rfl
    rw [← hn] at hmax ⊢
    clear hv hn
    have hd2 : decide ((n : Int) < 1) = false := decide_eq_false (by omega)
    by_cases hx : k ≠ 6 ∧ 1 < n
    · have HR := Lib.hid (show partsOf k (x0 :: r) = (A0, 4) by unfold partsOf; rw [if_neg (by simp), if_pos ⟨by omega, by show 1 < r.length + 1; omega⟩])
      have hdn : decide (1 < (n : Int)) = true := decide_eq_true (by omega)
      clear hnl
      rcases hk with rfl | rfl | rfl
      · exact absurd rfl hx.1
      all_goals
        clear hx
        go_enter Tryd.func22, Tryd.ntmps22
        go_wp2
        exact bodyPost_ret (v := .tuple #[.agg #[.int .i64 0, .int .i64 0, .int .i64 0, .bool false, .int .u8 0, .slice none 0 0, .slice none 0 0], .int .i64 4]) (by simp [results, Tryd.results22, go_sem]) rfl ⟨by rw [HR.out]; exact ActEnd_of _ _ _ _ _ _ BOwn_nil BOwn_nil, ((((Below.refl _ _).alloc (Nat.le_refl _) _).alloc (by simp) _).alloc (by simp; omega) _)⟩
    · have HRP := Lib.hid (show partsOf k (x0 :: r) = partOf (aPart k) x0 0 by unfold partsOf; rw [if_neg (by simp), if_neg (by show ¬ ((k : Int) ≠ 6 ∧ 1 < r.length + 1); omega)]; rfl)
      have hdn : k ≠ 6 → decide (1 < (n : Int)) = false := fun h => decide_eq_false (by omega)
      clear hnl hx
      by_cases hx0 : x0 = 0
      · subst hx0
        have HR := Lib.hid (HRP.out.trans (partOf_eq rfl))
        rcases hk with rfl | rfl | rfl
        · clear hdn
          go_enter Tryd.func22, Tryd.ntmps22
          go_wp2
          exact bodyPost_ret (v := .tuple #[.agg #[.int .i64 6, .int .i64 0, .int .i64 0, .bool false, .int .u8 0, .slice none 0 0, .slice none 0 0], .int .i64 0]) (by simp [results, Tryd.results22, go_sem]) rfl ⟨by rw [HR.out]; exact ActEnd_of _ _ _ _ _ _ BOwn_nil BOwn_nil, ((((Below.refl _ _).alloc (Nat.le_refl _) _).alloc (by simp) _).alloc (by simp; omega) _)⟩
        · have hd := hdn (by decide)
          clear hdn
          go_enter Tryd.func22, Tryd.ntmps22
          go_wp2
          exact bodyPost_ret (v := .tuple #[.agg #[.int .i64 7, .int .i64 0, .int .i64 0, .bool false, .int .u8 0, .slice none 0 0, .slice none 0 0], .int .i64 0]) (by simp [results, Tryd.results22, go_sem]) rfl ⟨by rw [HR.out]; exact ActEnd_of _ _ _ _ _ _ BOwn_nil BOwn_nil, ((((Below.refl _ _).alloc (Nat.le_refl _) _).alloc (by simp) _).alloc (by simp; omega) _)⟩
        · have hd := hdn (by decide)
          clear hdn
          go_enter Tryd.func22, Tryd.ntmps22
          go_wp2
          exact bodyPost_ret (v := .tuple #[.agg #[.int .i64 8, .int .i64 0, .int .i64 0, .bool false, .int .u8 0, .slice none 0 0, .slice none 0 0], .int .i64 0]) (by simp [results, Tryd.results22, go_sem]) rfl ⟨by rw [HR.out]; exact ActEnd_of _ _ _ _ _ _ BOwn_nil BOwn_nil, ((((Below.refl _ _).alloc (Nat.le_refl _) _).alloc (by simp) _).alloc (by simp; omega) _)⟩
      · have HR := Lib.hid (HRP.out.trans (partOf_ne hx0))
        have hq0 : ((x0 : Int) != 0) = true := bne_iff_ne.2 (by omega)
        clear hx0
        rcases hk with rfl | rfl | rfl
        · clear hdn
          go_enter Tryd.func22, Tryd.ntmps22
          go_wp2
          exact bodyPost_ret (v := .tuple #[.agg #[.int .i64 0, .int .i64 0, .int .i64 0, .bool false, .int .u8 0, .slice none 0 0, .slice none 0 0], .int .i64 1]) (by simp [results, Tryd.results22, go_sem]) rfl ⟨by rw [HR.out]; exact ActEnd_of _ _ _ _ _ _ BOwn_nil BOwn_nil, ((((Below.refl _ _).alloc (Nat.le_refl _) _).alloc (by simp) _).alloc (by simp; omega) _)⟩
        · have hd := hdn (by decide)
          clear hdn
          go_enter Tryd.func22, Tryd.ntmps22
          go_wp2
          exact bodyPost_ret (v := .tuple #[.agg #[.int .i64 0, .int .i64 0, .int .i64 0, .bool false, .int .u8 0, .slice none 0 0, .slice none 0 0], .int .i64 1]) (by simp [results, Tryd.results22, go_sem]) rfl ⟨by rw [HR.out]; exact ActEnd_of _ _ _ _ _ _ BOwn_nil BOwn_nil, ((((Below.refl _ _).alloc (Nat.le_refl _) _).alloc (by simp) _).alloc (by simp; omega) _)⟩
        · have hd := hdn (by decide)
          clear hdn
          go_enter Tryd.func22, Tryd.ntmps22
          go_wp2
          exact bodyPost_ret (v := .tuple #[.agg #[.int .i64 0, .int .i64 0, .int .i64 0, .bool false, .int .u8 0, .slice none 0 0, .slice none 0 0], .int .i64 1]) (by simp [results, Tryd.results22, go_sem]) rfl ⟨by rw [HR.out]; exact ActEnd_of _ _ _ _ _ _ BOwn_nil BOwn_nil, ((((Below.refl _ _).alloc (Nat.le_refl _) _).alloc (by simp) _).alloc (by simp; omega) _)⟩

set_option maxHeartbeats 4000000 in
set_option maxRecDepth 100000 in
theorem of9_any (B : Nat) (v : Value) (l : List Nat) (w : World) (hv : BOwn B w v l) :
    Calls Tryd.prog 22 #[.agg #[.int .u8 9, v]] w fun e w' => ActEnd (setsOf l) w.heap.size e w' ∧ Below w.heap.size w w' := by
  have hmax : l.length ≤ 9223372036854775807 := hv.row.len
  by_cases h2 : l.length < 2
  · have HR := Lib.hid (show setsOf l = (A0, 4) by unfold setsOf; rw [if_pos h2])
    obtain ⟨a, cap, rfl⟩ := BOwn_form hv
    obtain ⟨n, hn⟩ : ∃ n, n = l.length := ⟨_, rfl⟩
    rw [← hn] at h2 ⊢
    have hn1 : decide ((n : Int) < 2) = true := decide_eq_true (by omega)
    clear hv hn h2 hmax
    go_enter Tryd.func22, Tryd.ntmps22
    go_wp2
    exact bodyPost_ret (v := .tuple #[.agg #[.int .i64 0, .int .i64 0, .int .i64 0, .bool false, .int .u8 0, .slice none 0 0, .slice none 0 0], .int .i64 4]) (by simp [results, Tryd.results22, go_sem]) rfl ⟨by rw [HR.out]; exact ActEnd_of _ _ _ _ _ _ BOwn_nil BOwn_nil, ((((Below.refl _ _).alloc (Nat.le_refl _) _).alloc (by simp) _).alloc (by simp; omega) _)⟩
  · obtain ⟨x0, x1, r, rfl⟩ : ∃ x0 x1 r, l = x0 :: x1 :: r := by
      match l, h2 with
      | [], h => simp at h
      | [_], h => simp at h
      | x0 :: x1 :: r, _ => exact ⟨x0, x1, r, rfl⟩
    obtain ⟨g, cap, rfl, hc1⟩ := BOwn_at hv (i := 1) (x := x1) rfl
    have hc0 := BOwn_cell hv (i := 0) (x := x0) rfl
    have hz : g < w.heap.size := cell_lt hc0
    have hz1 : g < w.heap.size + 1 := by omega
    have hz2 : g < w.heap.size + 1 + 1 := by omega
    have hb1 : x1 < 256 := hv.1 x1 (by simp)
    have HVV := Lib.hid hv
    obtain ⟨n, hn⟩ : ∃ n, n = (x0 :: x1 :: r).length := ⟨_, rfl⟩
    have hn2 : 2 ≤ n := by rw [hn]; simp
    have hn1 : 1 < n := by omega
    have HNL := Lib.hid (show r.length + 2 = n by rw [hn]; rfl)
    rw [← hn] at hmax HVV ⊢
    clear hv hn h2
    have hd2 : decide ((n : Int) < 2) = false := decide_eq_false (by omega)
    by_cases hx2 : 2 < x1
    · have HR := Lib.hid (show setsOf (x0 :: x1 :: r) = (A0, 4) by unfold setsOf; rw [if_neg (by simp), if_pos (by simpa using hx2)])
      have hdx : decide (2 < (x1 : Int)) = true := decide_eq_true (by omega)
      go_enter Tryd.func22, Tryd.ntmps22
      go_wp2
      exact bodyPost_ret (v := .tuple #[.agg #[.int .i64 0, .int .i64 0, .int .i64 0, .bool false, .int .u8 0, .slice none 0 0, .slice none 0 0], .int .i64 4]) (by simp [results, Tryd.results22, go_sem]) rfl ⟨by rw [HR.out]; exact ActEnd_of _ _ _ _ _ _ BOwn_nil BOwn_nil, ((((Below.refl _ _).alloc (Nat.le_refl _) _).alloc (by simp) _).alloc (by simp; omega) _)⟩
    · have hdx : decide (2 < (x1 : Int)) = false := decide_eq_false (by omega)
      have hrl : r.length + 2 = n := HNL.out
      by_cases hx1 : x1 < 2 ∧ 2 < n
      · have HR := Lib.hid (show setsOf (x0 :: x1 :: r) = (A0, 4) by unfold setsOf; rw [if_neg (by simp), if_neg (by simpa using hx2), if_pos ⟨hx1.1, by show 2 < r.length + 1 + 1; omega⟩])
        have hdl : decide ((x1 : Int) < 2) = true := decide_eq_true (by omega)
        have hdn : decide (2 < (n : Int)) = true := decide_eq_true (by omega)
        clear hrl hx1 hx2
        go_enter Tryd.func22, Tryd.ntmps22
        go_wp2
        exact bodyPost_ret (v := .tuple #[.agg #[.int .i64 0, .int .i64 0, .int .i64 0, .bool false, .int .u8 0, .slice none 0 0, .slice none 0 0], .int .i64 4]) (by simp [results, Tryd.results22, go_sem]) rfl ⟨by rw [HR.out]; exact ActEnd_of _ _ _ _ _ _ BOwn_nil BOwn_nil, ((((Below.refl _ _).alloc (Nat.le_refl _) _).alloc (by simp) _).alloc (by simp; omega) _)⟩
      · have HRP := Lib.hid (show setsOf (x0 :: x1 :: r) = partOf (aMode ((x1 : Nat) : Int)) x0 0 by unfold setsOf; rw [if_neg (by simp), if_neg (by simpa using hx2), if_neg (by show ¬ (x1 < 2 ∧ 2 < r.length + 1 + 1); omega)]; rfl)
        have hdd : (decide ((x1 : Int) < 2) = true ∧ decide (2 < (n : Int)) = false) ∨ decide ((x1 : Int) < 2) = false := by
          by_cases h : x1 < 2
          · exact .inl ⟨decide_eq_true (by omega), decide_eq_false (by omega)⟩
          · exact .inr (decide_eq_false (by omega))
        clear hrl hx1 hx2
        by_cases hx0 : x0 = 0
        · subst hx0
          have HR := Lib.hid (HRP.out.trans (partOf_eq rfl))
          rcases hdd with ⟨hd3, hd4⟩ | hd3
          all_goals
            go_enter Tryd.func22, Tryd.ntmps22
            go_wp2_with fail
            go_region
            all_goals
              go_wp2
              exact bodyPost_ret (v := .tuple #[.agg #[.int .i64 5, .int .i64 0, .int .i64 x1, .bool false, .int .u8 0, .slice none 0 0, .slice none 0 0], .int .i64 0]) (by simp [results, Tryd.results22, go_sem]) rfl ⟨by rw [HR.out]; exact ActEnd_of _ _ _ _ _ _ BOwn_nil BOwn_nil, ((((Below.refl _ _).alloc (Nat.le_refl _) _).alloc (by simp) _).alloc (by simp; omega) _).drew⟩
        · have HR := Lib.hid (HRP.out.trans (partOf_ne hx0))
          have hq0 : ((x0 : Int) != 0) = true := bne_iff_ne.2 (by omega)
          clear hx0
          rcases hdd with ⟨hd3, hd4⟩ | hd3
          all_goals
            go_enter Tryd.func22, Tryd.ntmps22
            go_wp2_with fail
            go_region
            all_goals
              go_wp2
              exact bodyPost_ret (v := .tuple #[.agg #[.int .i64 0, .int .i64 0, .int .i64 0, .bool false, .int .u8 0, .slice none 0 0, .slice none 0 0], .int .i64 1]) (by simp [results, Tryd.results22, go_sem]) rfl ⟨by rw [HR.out]; exact ActEnd_of _ _ _ _ _ _ BOwn_nil BOwn_nil, ((((Below.refl _ _).alloc (Nat.le_refl _) _).alloc (by simp) _).alloc (by simp; omega) _).drew⟩

set_option maxHeartbeats 4000000 in
set_option maxRecDepth 100000 in
theorem of64_any (B : Nat) (v : Value) (l : List Nat) (w : World) (hv : BOwn B w v l) (h47 : l.length ≤ 140737488351232) :
    Calls Tryd.prog 22 #[.agg #[.int .u8 64, v]] w fun e w' => ActEnd (outsOf l) w.heap.size e w' ∧ Below w.heap.size w w' := by
  have hmax : l.length ≤ 9223372036854775807 := hv.row.len
  by_cases h2 : l.length < 2
  · have HR := Lib.hid (show outsOf l = (A0, 4) by unfold outsOf; rw [if_pos h2])
    obtain ⟨a, cap, rfl⟩ := BOwn_form hv
    obtain ⟨n, hn⟩ : ∃ n, n = l.length := ⟨_, rfl⟩
    rw [← hn] at h2 ⊢
    have hn1 : decide ((n : Int) < 2) = true := decide_eq_true (by omega)
    clear hv hn h2 hmax h47
    go_enter Tryd.func22, Tryd.ntmps22
    go_wp2
    exact bodyPost_ret (v := .tuple #[.agg #[.int .i64 0, .int .i64 0, .int .i64 0, .bool false, .int .u8 0, .slice none 0 0, .slice none 0 0], .int .i64 4]) (by simp [results, Tryd.results22, go_sem]) rfl ⟨by rw [HR.out]; exact ActEnd_of _ _ _ _ _ _ BOwn_nil BOwn_nil, ((((Below.refl _ _).alloc (Nat.le_refl _) _).alloc (by simp) _).alloc (by simp; omega) _)⟩
  · obtain ⟨x0, x1, r, rfl⟩ : ∃ x0 x1 r, l = x0 :: x1 :: r := by
      match l, h2 with
      | [], h => simp at h
      | [_], h => simp at h
      | x0 :: x1 :: r, _ => exact ⟨x0, x1, r, rfl⟩
    obtain ⟨g, cap, rfl, hc1⟩ := BOwn_at hv (i := 1) (x := x1) rfl
    have hc0 := BOwn_cell hv (i := 0) (x := x0) rfl
    have hz : g < w.heap.size := cell_lt hc0
    have hz1 : g < w.heap.size + 1 := by omega
    have hz2 : g < w.heap.size + 1 + 1 := by omega
    have hb1 : x1 < 256 := hv.1 x1 (by simp)
    have HVV := Lib.hid hv
    obtain ⟨n, hn⟩ : ∃ n, n = (x0 :: x1 :: r).length := ⟨_, rfl⟩
    have hn2 : 2 ≤ n := by rw [hn]; simp
    have hn1 : 1 < n := by omega
    have HNL := Lib.hid (show r.length + 2 = n by rw [hn]; rfl)
    rw [← hn] at hmax HVV ⊢
    clear hv hn h2
    have hd2 : decide ((n : Int) < 2) = false := decide_eq_false (by omega)
    have hcr := cmdOf_range x1
    have hl47 : n ≤ 140737488351232 := by have h9 := HNL.out; simp at h47; omega
    clear h47
    obtain ⟨c, hcm⟩ : ∃ c, c = cmdOf x1 := ⟨_, rfl⟩
    have HCM := Lib.hid hcm.symm
    rw [← hcm] at hcr
    by_cases hm : c < 0
    · have HR := Lib.hid (show outsOf (x0 :: x1 :: r) = (A0, 4) by unfold outsOf; rw [if_neg (by simp), if_neg (by show ¬ (0 ≤ cmdOf x1 ∧ cmdOf x1 ≤ 4); omega)])
      have hd0 : decide (c < 0) = true := decide_eq_true hm
      clear hcr hm hcm
      go_enter Tryd.func22, Tryd.ntmps22
      go_wp2_with (go_at_call 45; refine (rcmd_any _ hb1 _).mono ?_; rintro e w' ⟨rfl, rfl⟩; rw [HCM.out])
      exact bodyPost_ret (v := .tuple #[.agg #[.int .i64 0, .int .i64 0, .int .i64 0, .bool false, .int .u8 0, .slice none 0 0, .slice none 0 0], .int .i64 4]) (by simp [results, Tryd.results22, go_sem]) rfl ⟨by rw [HR.out]; exact ActEnd_of _ _ _ _ _ _ BOwn_nil BOwn_nil, ((((Below.refl _ _).alloc (Nat.le_refl _) _).alloc (by simp) _).alloc (by simp; omega) _)⟩
    · have hd0 : decide (c < 0) = false := decide_eq_false hm
      by_cases hbig : 4 < c
      · have HR := Lib.hid (show outsOf (x0 :: x1 :: r) = (A0, 4) by unfold outsOf; rw [if_neg (by simp), if_neg (by show ¬ (0 ≤ cmdOf x1 ∧ cmdOf x1 ≤ 4); omega)])
        have hd4 : decide (4 < c) = true := decide_eq_true hbig
        clear hcr hm hcm hbig
        go_enter Tryd.func22, Tryd.ntmps22
        go_wp2_with (go_at_call 45; refine (rcmd_any _ hb1 _).mono ?_; rintro e w' ⟨rfl, rfl⟩; rw [HCM.out])
        exact bodyPost_ret (v := .tuple #[.agg #[.int .i64 0, .int .i64 0, .int .i64 0, .bool false, .int .u8 0, .slice none 0 0, .slice none 0 0], .int .i64 4]) (by simp [results, Tryd.results22, go_sem]) rfl ⟨by rw [HR.out]; exact ActEnd_of _ _ _ _ _ _ BOwn_nil BOwn_nil, ((((Below.refl _ _).alloc (Nat.le_refl _) _).alloc (by simp) _).alloc (by simp; omega) _)⟩
      · have HRP := Lib.hid (show outsOf (x0 :: x1 :: r) = partOf (aOut ((x0 :: x1 :: r).drop 1)) x0 0 by unfold outsOf; rw [if_neg (by simp), if_pos (by show 0 ≤ cmdOf x1 ∧ cmdOf x1 ≤ 4; omega)]; rfl)
        have hd4 : decide (4 < c) = false := decide_eq_false hbig
        obtain ⟨hnl0, A4, hA4, hrow, hsl⟩ := BOwn_rest HVV.out 1 (by omega)
        have hsl1 : ∀ w : World, (Instr.slice 23 (.slice (some ⟨g, 0, none⟩) n cap) (some (.int .i64 1)) none none).run Tryd.prog w = .ok (.slice (some A4) (n - 1) (cap - 1)) w := hsl
        have HROW := Lib.hid hrow
        obtain ⟨dl, hdl⟩ : ∃ dl, dl = (x0 :: x1 :: r).drop 1 := ⟨_, rfl⟩
        have HDL := Lib.hid hdl
        have hdlen : dl.length ≤ 140737488351232 := by rw [hdl]; have := HNL.out; simp; omega
        rw [← hdl] at HROW HRP
        clear hcm hcr hm hbig hrow hsl hA4 hdl hnl0
        by_cases hx0 : x0 = 0
        · subst hx0
          have HR := Lib.hid (HRP.out.trans (partOf_eq rfl))
          have HBB := Lib.hid (show Bk (((w.alloc (.cells #[.int .u8 64, .slice (some ⟨g, 0, none⟩) n cap] 43)).alloc (.cells #[.int .i64 0, .int .i64 0, .int .i64 0, .bool false, .int .u8 0, .slice none 0 0, .slice none 0 0] 26)).alloc (.cells #[.int .i64 0, .int .i64 0, .int .i64 0, .bool false, .int .u8 0, .slice none 0 0, .slice none 0 0] 26)) (w.heap.size + 1) 26 #[.int .i64 0, .int .i64 0, .int .i64 0, .bool false, .int .u8 0, .slice none 0 0, .slice none 0 0] from by
            have h := (Bk.new (w.alloc (.cells #[.int .u8 64, .slice (some ⟨g, 0, none⟩) n cap] 43)) 26 #[.int .i64 0, .int .i64 0, .int .i64 0, .bool false, .int .u8 0, .slice none 0 0, .slice none 0 0]).alloc (.cells #[.int .i64 0, .int .i64 0, .int .i64 0, .bool false, .int .u8 0, .slice none 0 0, .slice none 0 0] 26)
            simp only [World.size_alloc] at h
            exact h)
          have HAA := Lib.hid (show Bk (((w.alloc (.cells #[.int .u8 64, .slice (some ⟨g, 0, none⟩) n cap] 43)).alloc (.cells #[.int .i64 0, .int .i64 0, .int .i64 0, .bool false, .int .u8 0, .slice none 0 0, .slice none 0 0] 26)).alloc (.cells #[.int .i64 0, .int .i64 0, .int .i64 0, .bool false, .int .u8 0, .slice none 0 0, .slice none 0 0] 26)) (w.heap.size + 1 + 1) 26 #[.int .i64 0, .int .i64 0, .int .i64 0, .bool false, .int .u8 0, .slice none 0 0, .slice none 0 0] from by
            have h := Bk.new ((w.alloc (.cells #[.int .u8 64, .slice (some ⟨g, 0, none⟩) n cap] 43)).alloc (.cells #[.int .i64 0, .int .i64 0, .int .i64 0, .bool false, .int .u8 0, .slice none 0 0, .slice none 0 0] 26)) 26 #[.int .i64 0, .int .i64 0, .int .i64 0, .bool false, .int .u8 0, .slice none 0 0, .slice none 0 0]
            simp only [World.size_alloc] at h
            exact h)
          have HW3 := Lib.hid (show Below w.heap.size w (((w.alloc (.cells #[.int .u8 64, .slice (some ⟨g, 0, none⟩) n cap] 43)).alloc (.cells #[.int .i64 0, .int .i64 0, .int .i64 0, .bool false, .int .u8 0, .slice none 0 0, .slice none 0 0] 26)).alloc (.cells #[.int .i64 0, .int .i64 0, .int .i64 0, .bool false, .int .u8 0, .slice none 0 0, .slice none 0 0] 26)) from ((((Below.refl _ _).alloc (Nat.le_refl _) _).alloc (by simp) _).alloc (by simp; omega) _))
          have hrow3 : BRow (((w.alloc (.cells #[.int .u8 64, .slice (some ⟨g, 0, none⟩) n cap] 43)).alloc (.cells #[.int .i64 0, .int .i64 0, .int .i64 0, .bool false, .int .u8 0, .slice none 0 0, .slice none 0 0] 26)).alloc (.cells #[.int .i64 0, .int .i64 0, .int .i64 0, .bool false, .int .u8 0, .slice none 0 0, .slice none 0 0] 26)) (.slice (some A4) (n - 1) (cap - 1)) dl := HROW.out _ (HW3.out.block g hz)
          have HROW3 := Lib.hid hrow3
          clear hrow3
          go_enter Tryd.func22, Tryd.ntmps22
          go_wp2_with (first | (go_at_call 45; refine (rcmd_any _ hb1 _).mono ?_; rintro e w' ⟨rfl, rfl⟩; rw [HCM.out]) | (go_at_call 14; refine (copy_any _ dl _ HROW3.out hdlen).mono ?_; rintro e w2 ⟨v5, rfl, ho, _, h2⟩; obtain ⟨av, cv, rfl⟩ := BOwn_form ho; have HO2 := Lib.hid ho; have H2 := Lib.hid (HW3.out.trans (h2.mono (by simp; omega))); have HB2 := Lib.hid (HBB.out.below h2 (by simp)); have HA2 := Lib.hid (HAA.out.below h2 (by simp)); have hsz2 : w.heap.size + 2 < w2.heap.size := (by have := h2.size; simp at this; omega); have hcg : ∀ i, w2.cell? ⟨g, i, none⟩ = w.cell? ⟨g, i, none⟩ := (fun i => (H2.out.cell (p := ⟨g, i, none⟩) hz)); obtain ⟨d0, d1, d2, d3, d4, d5, d6⟩ := cells7 HB2.out; obtain ⟨f0, f1, f2, f3, f4, f5, f6⟩ := frozen7 HB2.out; obtain ⟨p0, p1, p2, p3, p4, p5, p6⟩ := cells7 HA2.out; obtain ⟨q0, q1, q2, q3, q4, q5, q6⟩ := frozen7 HA2.out; clear h2 ho))
          clear d0 d1 d2 d3 d4 d5 d6 f0 f1 f2 f3 f4 f5 f6 p0 p1 p2 p3 p4 p5 p6 q0 q1 q2 q3 q4 q5 q6 hcg
          exact bodyPost_ret (v := .tuple #[.agg #[.int .i64 9, .int .i64 0, .int .i64 0, .bool false, .int .u8 0, .slice none 0 0, .slice av dl.length cv], .int .i64 0]) (results_struct_tmp (p := 2) (q := 3) rfl _ _ (w.heap.size + 1) 26 _ _ _ rfl (Bk_fill7 (Bk.far (Bk.far HB2.out (p := ⟨w.heap.size + 1 + 1, _, none⟩) (by simp) _) (p := ⟨w.heap.size + 1 + 1, _, none⟩) (by simp) _) _ _ _ _ _ _ _) Tryd.underlying26 rfl (by kernel_rfl)) rfl ⟨by rw [HR.out]; exact ActEnd_of _ _ _ _ _ _ BOwn_nil ((BOwn_fill7 (BOwn_set (BOwn_set (HO2.out.lower (C := w.heap.size + 3) (by simp)) (g := w.heap.size + 1 + 1) (by omega) _) (g := w.heap.size + 1 + 1) (by omega) _) (by omega) _ _ _ _ _ _ _).lower (by omega)), below_fill7 (Below.setCell (Below.setCell H2.out (p := ⟨w.heap.size + 1 + 1, _, none⟩) (by show _ ≤ w.heap.size + 1 + 1; omega) _) (p := ⟨w.heap.size + 1 + 1, _, none⟩) (by show _ ≤ w.heap.size + 1 + 1; omega) _) (by omega) _ _ _ _ _ _ _⟩
        · have HR := Lib.hid (HRP.out.trans (partOf_ne hx0))
          have hq0 : ((x0 : Int) != 0) = true := bne_iff_ne.2 (by omega)
          clear hx0
          have HBB := Lib.hid (show Bk (((w.alloc (.cells #[.int .u8 64, .slice (some ⟨g, 0, none⟩) n cap] 43)).alloc (.cells #[.int .i64 0, .int .i64 0, .int .i64 0, .bool false, .int .u8 0, .slice none 0 0, .slice none 0 0] 26)).alloc (.cells #[.int .i64 0, .int .i64 0, .int .i64 0, .bool false, .int .u8 0, .slice none 0 0, .slice none 0 0] 26)) (w.heap.size + 1) 26 #[.int .i64 0, .int .i64 0, .int .i64 0, .bool false, .int .u8 0, .slice none 0 0, .slice none 0 0] from by
            have h := (Bk.new (w.alloc (.cells #[.int .u8 64, .slice (some ⟨g, 0, none⟩) n cap] 43)) 26 #[.int .i64 0, .int .i64 0, .int .i64 0, .bool false, .int .u8 0, .slice none 0 0, .slice none 0 0]).alloc (.cells #[.int .i64 0, .int .i64 0, .int .i64 0, .bool false, .int .u8 0, .slice none 0 0, .slice none 0 0] 26)
            simp only [World.size_alloc] at h
            exact h)
          have HAA := Lib.hid (show Bk (((w.alloc (.cells #[.int .u8 64, .slice (some ⟨g, 0, none⟩) n cap] 43)).alloc (.cells #[.int .i64 0, .int .i64 0, .int .i64 0, .bool false, .int .u8 0, .slice none 0 0, .slice none 0 0] 26)).alloc (.cells #[.int .i64 0, .int .i64 0, .int .i64 0, .bool false, .int .u8 0, .slice none 0 0, .slice none 0 0] 26)) (w.heap.size + 1 + 1) 26 #[.int .i64 0, .int .i64 0, .int .i64 0, .bool false, .int .u8 0, .slice none 0 0, .slice none 0 0] from by
            have h := Bk.new ((w.alloc (.cells #[.int .u8 64, .slice (some ⟨g, 0, none⟩) n cap] 43)).alloc (.cells #[.int .i64 0, .int .i64 0, .int .i64 0, .bool false, .int .u8 0, .slice none 0 0, .slice none 0 0] 26)) 26 #[.int .i64 0, .int .i64 0, .int .i64 0, .bool false, .int .u8 0, .slice none 0 0, .slice none 0 0]
            simp only [World.size_alloc] at h
            exact h)
          have HW3 := Lib.hid (show Below w.heap.size w (((w.alloc (.cells #[.int .u8 64, .slice (some ⟨g, 0, none⟩) n cap] 43)).alloc (.cells #[.int .i64 0, .int .i64 0, .int .i64 0, .bool false, .int .u8 0, .slice none 0 0, .slice none 0 0] 26)).alloc (.cells #[.int .i64 0, .int .i64 0, .int .i64 0, .bool false, .int .u8 0, .slice none 0 0, .slice none 0 0] 26)) from ((((Below.refl _ _).alloc (Nat.le_refl _) _).alloc (by simp) _).alloc (by simp; omega) _))
          have hrow3 : BRow (((w.alloc (.cells #[.int .u8 64, .slice (some ⟨g, 0, none⟩) n cap] 43)).alloc (.cells #[.int .i64 0, .int .i64 0, .int .i64 0, .bool false, .int .u8 0, .slice none 0 0, .slice none 0 0] 26)).alloc (.cells #[.int .i64 0, .int .i64 0, .int .i64 0, .bool false, .int .u8 0, .slice none 0 0, .slice none 0 0] 26)) (.slice (some A4) (n - 1) (cap - 1)) dl := HROW.out _ (HW3.out.block g hz)
          have HROW3 := Lib.hid hrow3
          clear hrow3
          go_enter Tryd.func22, Tryd.ntmps22
          go_wp2_with (first | (go_at_call 45; refine (rcmd_any _ hb1 _).mono ?_; rintro e w' ⟨rfl, rfl⟩; rw [HCM.out]) | (go_at_call 14; refine (copy_any _ dl _ HROW3.out hdlen).mono ?_; rintro e w2 ⟨v5, rfl, ho, _, h2⟩; obtain ⟨av, cv, rfl⟩ := BOwn_form ho; have HO2 := Lib.hid ho; have H2 := Lib.hid (HW3.out.trans (h2.mono (by simp; omega))); have HB2 := Lib.hid (HBB.out.below h2 (by simp)); have HA2 := Lib.hid (HAA.out.below h2 (by simp)); have hsz2 : w.heap.size + 2 < w2.heap.size := (by have := h2.size; simp at this; omega); have hcg : ∀ i, w2.cell? ⟨g, i, none⟩ = w.cell? ⟨g, i, none⟩ := (fun i => (H2.out.cell (p := ⟨g, i, none⟩) hz)); obtain ⟨d0, d1, d2, d3, d4, d5, d6⟩ := cells7 HB2.out; obtain ⟨f0, f1, f2, f3, f4, f5, f6⟩ := frozen7 HB2.out; obtain ⟨p0, p1, p2, p3, p4, p5, p6⟩ := cells7 HA2.out; obtain ⟨q0, q1, q2, q3, q4, q5, q6⟩ := frozen7 HA2.out; clear h2 ho))
          clear d0 d1 d2 d3 d4 d5 d6 f0 f1 f2 f3 f4 f5 f6 p0 p1 p2 p3 p4 p5 p6 q0 q1 q2 q3 q4 q5 q6 hcg
          exact bodyPost_ret (v := .tuple #[.agg #[.int .i64 0, .int .i64 0, .int .i64 0, .bool false, .int .u8 0, .slice none 0 0, .slice none 0 0], .int .i64 1]) (results_struct_tmp (p := 2) (q := 3) rfl _ _ (w.heap.size + 1) 26 _ _ _ rfl (Bk_fill7 (Bk.far (Bk.far HB2.out (p := ⟨w.heap.size + 1 + 1, _, none⟩) (by simp) _) (p := ⟨w.heap.size + 1 + 1, _, none⟩) (by simp) _) _ _ _ _ _ _ _) Tryd.underlying26 rfl (by kernel_rfl)) rfl ⟨by rw [HR.out]; exact ActEnd_of _ _ _ _ _ _ BOwn_nil BOwn_nil, below_fill7 (Below.setCell (Below.setCell H2.out (p := ⟨w.heap.size + 1 + 1, _, none⟩) (by show _ ≤ w.heap.size + 1 + 1; omega) _) (p := ⟨w.heap.size + 1 + 1, _, none⟩) (by show _ ≤ w.heap.size + 1 + 1; omega) _) (by omega) _ _ _ _ _ _ _⟩

set_option maxHeartbeats 4000000 in
set_option maxRecDepth 100000 in
theorem rof_any (id B : Nat) (v : Value) (l : List Nat) (w : World) (hv : BOwn B w v l) (h47 : l.length ≤ 140737488351232) :
    Calls Tryd.prog 22 #[.agg #[.int .u8 (id : Int), v]] w fun e w' => ActEnd (actOf id l) w.heap.size e w' ∧ Below w.heap.size w w' := by
  by_cases h1 : id = 1
  · subst h1
    exact of1_any B v l w hv h47
  by_cases h3 : id = 3
  · subst h3
    exact of3_any B v l w hv
  by_cases h9 : id = 9
  · subst h9
    exact of9_any B v l w hv
  by_cases h12 : id = 12
  · subst h12
    exact ofp_any 6 (.inl rfl) B v l w hv
  by_cases h13 : id = 13
  · subst h13
    exact ofp_any 7 (.inr (.inl rfl)) B v l w hv
  by_cases h14 : id = 14
  · subst h14
    exact ofp_any 8 (.inr (.inr rfl)) B v l w hv
  by_cases h64 : id = 64
  · subst h64
    exact of64_any B v l w hv h47
  have HR := Lib.hid (show actOf id l = (A0, 10) by unfold actOf; rw [if_neg h1, if_neg h3, if_neg h9, if_neg h12, if_neg h13, if_neg h14, if_neg h64])
  have q1 : ((id : Int) == 1) = false := beq_eq_false_iff_ne.2 (by omega)
  have q3 : ((id : Int) == 3) = false := beq_eq_false_iff_ne.2 (by omega)
  have q9 : ((id : Int) == 9) = false := beq_eq_false_iff_ne.2 (by omega)
  have q12 : ((id : Int) == 12) = false := beq_eq_false_iff_ne.2 (by omega)
  have q13 : ((id : Int) == 13) = false := beq_eq_false_iff_ne.2 (by omega)
  have q14 : ((id : Int) == 14) = false := beq_eq_false_iff_ne.2 (by omega)
  have q64 : ((id : Int) == 64) = false := beq_eq_false_iff_ne.2 (by omega)
  obtain ⟨a, cap, rfl⟩ := BOwn_form hv
  obtain ⟨n, hn⟩ : ∃ n, n = l.length := ⟨_, rfl⟩
  rw [← hn]
  clear hv hn h1 h3 h9 h12 h13 h14 h64 h47
  go_enter Tryd.func22, Tryd.ntmps22
  go_wp2
  exact bodyPost_ret (v := .tuple #[.agg #[.int .i64 0, .int .i64 0, .int .i64 0, .bool false, .int .u8 0, .slice none 0 0, .slice none 0 0], .int .i64 10]) (by simp [results, Tryd.results22, go_sem]) rfl ⟨by rw [HR.out]; exact ActEnd_of _ _ _ _ _ _ BOwn_nil BOwn_nil, ((((Below.refl _ _).alloc (Nat.le_refl _) _).alloc (by simp) _).alloc (by simp; omega) _)⟩
end Go.Proofs.YtcibhchbgendaaaDoor.Sf
