/- The walks of sfield's reads, erases, sets, parts, outs and of (sfield.Field).Act: what a field asks for. -/
import Derived.Test.YtcibhchbgendaaaDoorSfCmd
import Derived.Test.YtcibhchbgendaaaDoorSfMem
import Derived.Deep.QuietTactic
import Derived.BigQuiet
import Derived.Deep.RegionHeld3
namespace Go.Proofs.YtcibhchbgendaaaDoor.Sf
open Go Go.RowKit Go.Proofs.YtcibhchbgendaaaDoor.By

theorem part_yes (k c m : Int) (b : Bool) (r : Nat) (ca ra : Option Addr) (cn cc rn rc g n cap : Nat) (w : World) (hn : 0 < n) (h0 : w.cell? ⟨g, 0, none⟩ = some (.int .u8 0)) :
    Calls Tryd.prog 59 #[.agg #[.int .i64 k, .int .i64 c, .int .i64 m, .bool b, .int .u8 r, .slice ca cn cc, .slice ra rn rc], .slice (some ⟨g, 0, none⟩) n cap] w
      fun e w' => e = .returned (.tuple #[.agg #[.int .i64 k, .int .i64 c, .int .i64 m, .bool b, .int .u8 r, .slice ca cn cc, .slice ra rn rc], .int .i64 0]) ∧ Below w.heap.size w w' := by
  have hz := cell_lt h0
  go_enter Tryd.func59, Tryd.ntmps59
  go_wp2
  exact bodyPost_ret (v := .tuple #[.agg #[.int .i64 k, .int .i64 c, .int .i64 m, .bool b, .int .u8 r, .slice ca cn cc, .slice ra rn rc], .int .i64 0]) (by simp [results, Tryd.results59, go_sem]) rfl ⟨rfl, ((Below.refl _ _).alloc (Nat.le_refl _) _).alloc (by simp) _⟩
theorem part_no (k c m : Int) (b : Bool) (r : Nat) (ca ra : Option Addr) (cn cc rn rc g n cap x : Nat) (w : World) (hn : 0 < n) (h0 : w.cell? ⟨g, 0, none⟩ = some (.int .u8 x)) (hx : x ≠ 0) :
    Calls Tryd.prog 59 #[.agg #[.int .i64 k, .int .i64 c, .int .i64 m, .bool b, .int .u8 r, .slice ca cn cc, .slice ra rn rc], .slice (some ⟨g, 0, none⟩) n cap] w
      fun e w' => e = .returned (.tuple #[.agg #[.int .i64 0, .int .i64 0, .int .i64 0, .bool false, .int .u8 0, .slice none 0 0, .slice none 0 0], .int .i64 1]) ∧ Below w.heap.size w w' := by
  have hz := cell_lt h0
  have hx1 : ((x : Int) != 0) = true := bne_iff_ne.2 (by omega)
  go_enter Tryd.func59, Tryd.ntmps59
  go_wp2
  exact bodyPost_ret (v := .tuple #[.agg #[.int .i64 0, .int .i64 0, .int .i64 0, .bool false, .int .u8 0, .slice none 0 0, .slice none 0 0], .int .i64 1]) (by simp [results, Tryd.results59, go_sem]) rfl ⟨rfl, ((Below.refl _ _).alloc (Nat.le_refl _) _).alloc (by simp) _⟩

set_option maxHeartbeats 4000000 in
set_option maxRecDepth 100000 in
theorem erases_any (B : Nat) (v : Value) (l : List Nat) (w : World) (hv : BOwn B w v l) :
    Calls Tryd.prog 41 #[v] w fun e w' => ActEnd (erasesOf l) w.heap.size e w' ∧ Below w.heap.size w w' := by
  by_cases h1 : l.length = 1
  · obtain ⟨x, rfl⟩ : ∃ x, l = [x] := List.length_eq_one_iff.1 h1
    obtain ⟨g, cap, rfl, hc0⟩ := BOwn_at hv (i := 0) (x := x) rfl
    have hz := cell_lt hc0
    clear hv h1
    by_cases h0 : x = 0
    · subst h0
      have HR := Lib.hid (show erasesOf [0] = (aErase false, 0) from rfl)
      go_enter Tryd.func41, Tryd.ntmps41
      go_wp2
      exact bodyPost_ret (v := .tuple #[.agg #[.int .i64 4, .int .i64 0, .int .i64 0, .bool false, .int .u8 0, .slice none 0 0, .slice none 0 0], .int .i64 0]) (by simp [results, Tryd.results41, go_sem]) rfl ⟨by rw [HR.out]; exact ActEnd_of _ _ _ _ _ _ BOwn_nil BOwn_nil, ((Below.refl _ _).alloc (Nat.le_refl _) _)⟩
    · by_cases h8 : x = 128
      · subst h8
        have HR := Lib.hid (show erasesOf [128] = (aErase true, 0) from rfl)
        go_enter Tryd.func41, Tryd.ntmps41
        go_wp2
        exact bodyPost_ret (v := .tuple #[.agg #[.int .i64 4, .int .i64 0, .int .i64 0, .bool true, .int .u8 0, .slice none 0 0, .slice none 0 0], .int .i64 0]) (by simp [results, Tryd.results41, go_sem]) rfl ⟨by rw [HR.out]; exact ActEnd_of _ _ _ _ _ _ BOwn_nil BOwn_nil, ((Below.refl _ _).alloc (Nat.le_refl _) _)⟩
      · have HR := Lib.hid (show erasesOf [x] = (A0, 4) by simp [erasesOf, h0, h8])
        have hx0 : ((x : Int) != 0) = true := bne_iff_ne.2 (by omega)
        have hx8 : ((x : Int) != 128) = true := bne_iff_ne.2 (by omega)
        clear h0 h8
        go_enter Tryd.func41, Tryd.ntmps41
        go_wp2
        exact bodyPost_ret (v := .tuple #[.agg #[.int .i64 0, .int .i64 0, .int .i64 0, .bool false, .int .u8 0, .slice none 0 0, .slice none 0 0], .int .i64 4]) (by simp [results, Tryd.results41, go_sem]) rfl ⟨by rw [HR.out]; exact ActEnd_of _ _ _ _ _ _ BOwn_nil BOwn_nil, ((Below.refl _ _).alloc (Nat.le_refl _) _)⟩
  · have HR := Lib.hid (show erasesOf l = (A0, 4) by simp [erasesOf, h1])
    obtain ⟨a, cap, rfl⟩ := BOwn_form hv
    obtain ⟨n, hn⟩ : ∃ n, n = l.length := ⟨_, rfl⟩
    rw [← hn] at h1 ⊢
    have hn1 : ((n : Int) != 1) = true := bne_iff_ne.2 (by omega)
    clear hv hn h1
    go_enter Tryd.func41, Tryd.ntmps41
    go_wp2
    exact bodyPost_ret (v := .tuple #[.agg #[.int .i64 0, .int .i64 0, .int .i64 0, .bool false, .int .u8 0, .slice none 0 0, .slice none 0 0], .int .i64 4]) (by simp [results, Tryd.results41, go_sem]) rfl ⟨by rw [HR.out]; exact ActEnd_of _ _ _ _ _ _ BOwn_nil BOwn_nil, ((Below.refl _ _).alloc (Nat.le_refl _) _)⟩

set_option maxHeartbeats 4000000 in
set_option maxRecDepth 100000 in
theorem sets_any (B : Nat) (v : Value) (l : List Nat) (w : World) (hv : BOwn B w v l) :
    Calls Tryd.prog 42 #[v] w fun e w' => ActEnd (setsOf l) w.heap.size e w' ∧ Below w.heap.size w w' := by
  have hmax : l.length ≤ 9223372036854775807 := hv.row.len
  by_cases h2 : l.length < 2
  · have HR := Lib.hid (show setsOf l = (A0, 4) by unfold setsOf; rw [if_pos h2])
    obtain ⟨a, cap, rfl⟩ := BOwn_form hv
    obtain ⟨n, hn⟩ : ∃ n, n = l.length := ⟨_, rfl⟩
    rw [← hn] at h2 ⊢
    have hn1 : decide ((n : Int) < 2) = true := decide_eq_true (by omega)
    clear hv hn h2 hmax
    go_enter Tryd.func42, Tryd.ntmps42
    go_wp2
    exact bodyPost_ret (v := .tuple #[.agg #[.int .i64 0, .int .i64 0, .int .i64 0, .bool false, .int .u8 0, .slice none 0 0, .slice none 0 0], .int .i64 4]) (by simp [results, Tryd.results42, go_sem]) rfl ⟨by rw [HR.out]; exact ActEnd_of _ _ _ _ _ _ BOwn_nil BOwn_nil, ((Below.refl _ _).alloc (Nat.le_refl _) _)⟩
  · obtain ⟨x0, x1, r, rfl⟩ : ∃ x0 x1 r, l = x0 :: x1 :: r := by
      match l, h2 with
      | [], h => simp at h
      | [_], h => simp at h
      | x0 :: x1 :: r, _ => exact ⟨x0, x1, r, rfl⟩
    obtain ⟨g, cap, rfl, hc1⟩ := BOwn_at hv (i := 1) (x := x1) rfl
    have hc0 := BOwn_cell hv (i := 0) (x := x0) rfl
    have hz := cell_lt hc0
    have hb1 : x1 < 256 := hv.1 x1 (by simp)
    obtain ⟨n, hn⟩ : ∃ n, n = (x0 :: x1 :: r).length := ⟨_, rfl⟩
    have hn2 : 2 ≤ n := by rw [hn]; simp
    have hnl : r.length + 2 = n := by rw [hn]; rfl
    rw [← hn] at hmax ⊢
    clear hv hn h2
    have hd2 : decide ((n : Int) < 2) = false := decide_eq_false (by omega)
    by_cases hx2 : 2 < x1
    · have HR := Lib.hid (show setsOf (x0 :: x1 :: r) = (A0, 4) by unfold setsOf; rw [if_neg (by simp), if_pos (by simpa using hx2)])
      have hdx : decide (2 < (x1 : Int)) = true := decide_eq_true (by omega)
      clear hnl
      go_enter Tryd.func42, Tryd.ntmps42
      go_wp2
      exact bodyPost_ret (v := .tuple #[.agg #[.int .i64 0, .int .i64 0, .int .i64 0, .bool false, .int .u8 0, .slice none 0 0, .slice none 0 0], .int .i64 4]) (by simp [results, Tryd.results42, go_sem]) rfl ⟨by rw [HR.out]; exact ActEnd_of _ _ _ _ _ _ BOwn_nil BOwn_nil, ((Below.refl _ _).alloc (Nat.le_refl _) _)⟩
    · have hdx : decide (2 < (x1 : Int)) = false := decide_eq_false (by omega)
      by_cases hx1 : x1 < 2 ∧ 2 < n
      · have HR := Lib.hid (show setsOf (x0 :: x1 :: r) = (A0, 4) by unfold setsOf; rw [if_neg (by simp), if_neg (by simpa using hx2), if_pos ⟨hx1.1, by show 2 < r.length + 1 + 1; omega⟩])
        have hdl : decide ((x1 : Int) < 2) = true := decide_eq_true (by omega)
        have hdn : decide (2 < (n : Int)) = true := decide_eq_true (by omega)
        clear hnl hx1 hx2
        go_enter Tryd.func42, Tryd.ntmps42
        go_wp2
        exact bodyPost_ret (v := .tuple #[.agg #[.int .i64 0, .int .i64 0, .int .i64 0, .bool false, .int .u8 0, .slice none 0 0, .slice none 0 0], .int .i64 4]) (by simp [results, Tryd.results42, go_sem]) rfl ⟨by rw [HR.out]; exact ActEnd_of _ _ _ _ _ _ BOwn_nil BOwn_nil, ((Below.refl _ _).alloc (Nat.le_refl _) _)⟩
      · have hr0 : setsOf (x0 :: x1 :: r) = partOf (aMode ((x1 : Nat) : Int)) x0 0 := by unfold setsOf; rw [if_neg (by simp), if_neg (by simpa using hx2), if_neg (by show ¬ (x1 < 2 ∧ 2 < r.length + 1 + 1); omega)]; rfl
        have hdd : (decide ((x1 : Int) < 2) = true ∧ decide (2 < (n : Int)) = false) ∨ decide ((x1 : Int) < 2) = false := by
          by_cases h : x1 < 2
          · exact .inl ⟨decide_eq_true (by omega), decide_eq_false (by omega)⟩
          · exact .inr (decide_eq_false (by omega))
        have HRP := Lib.hid hr0
        clear hnl hx1 hx2 hr0
        by_cases hx0 : x0 = 0
        · subst hx0
          have HR := Lib.hid (HRP.out.trans (partOf_eq rfl))
          rcases hdd with ⟨hd3, hd4⟩ | hd3
          all_goals
            go_enter Tryd.func42, Tryd.ntmps42
            go_wp2_with fail
            refine (part_yes 5 0 x1 false 0 none none 0 0 0 0 g n cap _ (by omega) (by first | assumption | (rw [World.cell?_alloc_lt _ _ _ (by assumption)]; assumption))).mono ?_
            rintro e w1 ⟨rfl, h1⟩
            have H1 := Lib.hid (((Below.refl _ _).alloc (Nat.le_refl _) _).trans (h1.mono (by simp)))
            have HB := Lib.hid (show Bk w1 w.heap.size 50 #[.int .i64 0, .int .i64 0, .int .i64 0, .bool false, .int .u8 0, .slice none 0 0, .slice none 0 0] from (Bk.new w _ _).below h1 (by simp))
            have hsz1 : w.heap.size < w1.heap.size := by have := h1.size; simp at this; omega
            obtain ⟨hcc, hff⟩ := bcell h1
            clear h1
            go_wp2
            clear hcc hff
            exact bodyPost_ret (v := .tuple #[.agg #[.int .i64 5, .int .i64 0, .int .i64 x1, .bool false, .int .u8 0, .slice none 0 0, .slice none 0 0], .int .i64 0]) (results_struct_tmp (p := 2) (q := 3) rfl _ _ w.heap.size 50 _ _ _ rfl (Bk_fill7 HB.out _ _ _ _ _ _ _) Tryd.underlying50 rfl (by kernel_rfl)) rfl ⟨by rw [HR.out]; exact ActEnd_of _ _ _ _ _ _ BOwn_nil BOwn_nil, below_fill7 H1.out (Nat.le_refl _) _ _ _ _ _ _ _⟩
        · have HR := Lib.hid (HRP.out.trans (partOf_ne hx0))
          rcases hdd with ⟨hd3, hd4⟩ | hd3
          all_goals
            go_enter Tryd.func42, Tryd.ntmps42
            go_wp2_with fail
            refine (part_no 5 0 x1 false 0 none none 0 0 0 0 g n cap x0 _ (by omega) (by first | assumption | (rw [World.cell?_alloc_lt _ _ _ (by assumption)]; assumption)) hx0).mono ?_
            rintro e w1 ⟨rfl, h1⟩
            have H1 := Lib.hid (((Below.refl _ _).alloc (Nat.le_refl _) _).trans (h1.mono (by simp)))
            have HB := Lib.hid (show Bk w1 w.heap.size 50 #[.int .i64 0, .int .i64 0, .int .i64 0, .bool false, .int .u8 0, .slice none 0 0, .slice none 0 0] from (Bk.new w _ _).below h1 (by simp))
            have hsz1 : w.heap.size < w1.heap.size := by have := h1.size; simp at this; omega
            obtain ⟨hcc, hff⟩ := bcell h1
            clear h1
            go_wp2
            clear hcc hff
            exact bodyPost_ret (v := .tuple #[.agg #[.int .i64 0, .int .i64 0, .int .i64 0, .bool false, .int .u8 0, .slice none 0 0, .slice none 0 0], .int .i64 1]) (results_struct_tmp (p := 2) (q := 3) rfl _ _ w.heap.size 50 _ _ _ rfl (Bk_fill7 HB.out _ _ _ _ _ _ _) Tryd.underlying50 rfl (by kernel_rfl)) rfl ⟨by rw [HR.out]; exact ActEnd_of _ _ _ _ _ _ BOwn_nil BOwn_nil, below_fill7 H1.out (Nat.le_refl _) _ _ _ _ _ _ _⟩

set_option maxHeartbeats 4000000 in
set_option maxRecDepth 100000 in
theorem parts_any (k : Nat) (hk : k = 6 ∨ k = 7 ∨ k = 8) (B : Nat) (v : Value) (l : List Nat) (w : World) (hv : BOwn B w v l) :
    Calls Tryd.prog 43 #[.int .i64 k, v] w fun e w' => ActEnd (partsOf k l) w.heap.size e w' ∧ Below w.heap.size w w' := by
  have hmax : l.length ≤ 9223372036854775807 := hv.row.len
  cases l with
  | nil =>
    have HR := Lib.hid (show partsOf k [] = (A0, 4) from rfl)
    obtain ⟨a, cap, rfl⟩ := BOwn_form hv
    simp only [List.length_nil]
    clear hv hmax hk
    go_enter Tryd.func43, Tryd.ntmps43
    go_wp2
    exact bodyPost_ret (v := .tuple #[.agg #[.int .i64 0, .int .i64 0, .int .i64 0, .bool false, .int .u8 0, .slice none 0 0, .slice none 0 0], .int .i64 4]) (by simp [results, Tryd.results43, go_sem]) rfl ⟨by rw [HR.out]; exact ActEnd_of _ _ _ _ _ _ BOwn_nil BOwn_nil, ((Below.refl _ _).alloc (Nat.le_refl _) _)⟩
  | cons x0 r =>
    obtain ⟨g, cap, rfl, hc0⟩ := BOwn_at hv (i := 0) (x := x0) rfl
    have hz := cell_lt hc0
    obtain ⟨n, hn⟩ : ∃ n, n = (x0 :: r).length := ⟨_, rfl⟩
    have hn2 : 1 ≤ n := by rw [hn]; simp
    have hnl : r.length + 1 = n := by rw [hn]; rfl
    rw [← hn] at hmax ⊢
    clear hv hn
    have hd2 : decide ((n : Int) < 1) = false := decide_eq_false (by omega)
    by_cases hx : k ≠ 6 ∧ 1 < n
    · have HR := Lib.hid (show partsOf k (x0 :: r) = (A0, 4) by unfold partsOf; rw [if_neg (by simp), if_pos ⟨by omega, by show 1 < r.length + 1; omega⟩])
      have hdk : ((k : Int) != 6) = true := bne_iff_ne.2 (by omega)
      have hdn : decide (1 < (n : Int)) = true := decide_eq_true (by omega)
      clear hnl hx hk
      go_enter Tryd.func43, Tryd.ntmps43
      go_wp2
      exact bodyPost_ret (v := .tuple #[.agg #[.int .i64 0, .int .i64 0, .int .i64 0, .bool false, .int .u8 0, .slice none 0 0, .slice none 0 0], .int .i64 4]) (by simp [results, Tryd.results43, go_sem]) rfl ⟨by rw [HR.out]; exact ActEnd_of _ _ _ _ _ _ BOwn_nil BOwn_nil, ((Below.refl _ _).alloc (Nat.le_refl _) _)⟩
    · have HRP := Lib.hid (show partsOf k (x0 :: r) = partOf (aPart k) x0 0 by unfold partsOf; rw [if_neg (by simp), if_neg (by show ¬ ((k : Int) ≠ 6 ∧ 1 < r.length + 1); omega)]; rfl)
      have hdd : (((k : Int) != 6) = true ∧ decide (1 < (n : Int)) = false) ∨ ((k : Int) != 6) = false := by
        by_cases h : k = 6
        · exact .inr (by subst h; rfl)
        · exact .inl ⟨bne_iff_ne.2 (by omega), decide_eq_false (by omega)⟩
      clear hnl hx hk
      by_cases hx0 : x0 = 0
      · subst hx0
        have HR := Lib.hid (HRP.out.trans (partOf_eq rfl))
        rcases hdd with ⟨hd3, hd4⟩ | hd3
        all_goals
          go_enter Tryd.func43, Tryd.ntmps43
          go_wp2_with fail
          refine (part_yes k 0 0 false 0 none none 0 0 0 0 g n cap _ (by omega) (by first | assumption | (rw [World.cell?_alloc_lt _ _ _ (by assumption)]; assumption))).mono ?_
          rintro e w1 ⟨rfl, h1⟩
          have H1 := Lib.hid (((Below.refl _ _).alloc (Nat.le_refl _) _).trans (h1.mono (by simp)))
          have HB := Lib.hid (show Bk w1 w.heap.size 50 #[.int .i64 0, .int .i64 0, .int .i64 0, .bool false, .int .u8 0, .slice none 0 0, .slice none 0 0] from (Bk.new w _ _).below h1 (by simp))
          have hsz1 : w.heap.size < w1.heap.size := by have := h1.size; simp at this; omega
          obtain ⟨hcc, hff⟩ := bcell h1
          clear h1
          go_wp2
          clear hcc hff
          exact bodyPost_ret (v := .tuple #[.agg #[.int .i64 k, .int .i64 0, .int .i64 0, .bool false, .int .u8 0, .slice none 0 0, .slice none 0 0], .int .i64 0]) (results_struct_tmp (p := 4) (q := 5) rfl _ _ w.heap.size 50 _ _ _ rfl (Bk_fill7 HB.out _ _ _ _ _ _ _) Tryd.underlying50 rfl (by kernel_rfl)) rfl ⟨by rw [HR.out]; exact ActEnd_of _ _ _ _ _ _ BOwn_nil BOwn_nil, below_fill7 H1.out (Nat.le_refl _) _ _ _ _ _ _ _⟩
      · have HR := Lib.hid (HRP.out.trans (partOf_ne hx0))
        rcases hdd with ⟨hd3, hd4⟩ | hd3
        all_goals
          go_enter Tryd.func43, Tryd.ntmps43
          go_wp2_with fail
          refine (part_no k 0 0 false 0 none none 0 0 0 0 g n cap x0 _ (by omega) (by first | assumption | (rw [World.cell?_alloc_lt _ _ _ (by assumption)]; assumption)) hx0).mono ?_
          rintro e w1 ⟨rfl, h1⟩
          have H1 := Lib.hid (((Below.refl _ _).alloc (Nat.le_refl _) _).trans (h1.mono (by simp)))
          have HB := Lib.hid (show Bk w1 w.heap.size 50 #[.int .i64 0, .int .i64 0, .int .i64 0, .bool false, .int .u8 0, .slice none 0 0, .slice none 0 0] from (Bk.new w _ _).below h1 (by simp))
          have hsz1 : w.heap.size < w1.heap.size := by have := h1.size; simp at this; omega
          obtain ⟨hcc, hff⟩ := bcell h1
          clear h1
          go_wp2
          clear hcc hff
          exact bodyPost_ret (v := .tuple #[.agg #[.int .i64 0, .int .i64 0, .int .i64 0, .bool false, .int .u8 0, .slice none 0 0, .slice none 0 0], .int .i64 1]) (results_struct_tmp (p := 4) (q := 5) rfl _ _ w.heap.size 50 _ _ _ rfl (Bk_fill7 HB.out _ _ _ _ _ _ _) Tryd.underlying50 rfl (by kernel_rfl)) rfl ⟨by rw [HR.out]; exact ActEnd_of _ _ _ _ _ _ BOwn_nil BOwn_nil, below_fill7 H1.out (Nat.le_refl _) _ _ _ _ _ _ _⟩

set_option maxHeartbeats 4000000 in
set_option maxRecDepth 100000 in
theorem outs_any (B : Nat) (v : Value) (l : List Nat) (w : World) (hv : BOwn B w v l) (h47 : l.length ≤ 140737488351232) (hc : Cmds w) :
    Calls Tryd.prog 44 #[v] w fun e w' => ActEnd (outsOf l) w.heap.size e w' ∧ Below w.heap.size w w' := by
  have hmax : l.length ≤ 9223372036854775807 := hv.row.len
  have HC := Lib.hid hc
  clear hc
  by_cases h2 : l.length < 2
  · have HR := Lib.hid (show outsOf l = (A0, 4) by unfold outsOf; rw [if_pos h2])
    obtain ⟨a, cap, rfl⟩ := BOwn_form hv
    obtain ⟨n, hn⟩ : ∃ n, n = l.length := ⟨_, rfl⟩
    rw [← hn] at h2 ⊢
    have hn1 : decide ((n : Int) < 2) = true := decide_eq_true (by omega)
    clear hv hn h2 hmax h47
    go_enter Tryd.func44, Tryd.ntmps44
    go_wp2
    exact bodyPost_ret (v := .tuple #[.agg #[.int .i64 0, .int .i64 0, .int .i64 0, .bool false, .int .u8 0, .slice none 0 0, .slice none 0 0], .int .i64 4]) (by simp [results, Tryd.results44, go_sem]) rfl ⟨by rw [HR.out]; exact ActEnd_of _ _ _ _ _ _ BOwn_nil BOwn_nil, ((Below.refl _ _).alloc (Nat.le_refl _) _)⟩
  · obtain ⟨x0, x1, r, rfl⟩ : ∃ x0 x1 r, l = x0 :: x1 :: r := by
      match l, h2 with
      | [], h => simp at h
      | [_], h => simp at h
      | x0 :: x1 :: r, _ => exact ⟨x0, x1, r, rfl⟩
    obtain ⟨g, cap, rfl, hc1⟩ := BOwn_at hv (i := 1) (x := x1) rfl
    have hc0 := BOwn_cell hv (i := 0) (x := x0) rfl
    have hz := cell_lt hc0
    have hb1 : x1 < 256 := hv.1 x1 (by simp)
    have HVV := Lib.hid hv
    obtain ⟨n, hn⟩ : ∃ n, n = (x0 :: x1 :: r).length := ⟨_, rfl⟩
    have hn2 : 2 ≤ n := by rw [hn]; simp
    have HNL := Lib.hid (show r.length + 2 = n by rw [hn]; rfl)
    rw [← hn] at hmax HVV ⊢
    clear hv hn h2
    have hd2 : decide ((n : Int) < 2) = false := decide_eq_false (by omega)
    have hcr := cmdOf_range x1
    have hl47 : n ≤ 140737488351232 := by have h9 := HNL.out; simp at h47; omega
    clear h47
    by_cases hm : cmdOf x1 = -1
    · have HR := Lib.hid (show outsOf (x0 :: x1 :: r) = (A0, 4) by unfold outsOf; rw [if_neg (by simp), if_neg (by show ¬ (0 ≤ cmdOf x1 ∧ cmdOf x1 ≤ 4); omega)])
      have HV := Lib.hid (show cmdVal x1 = .tuple #[.int .i64 0, .bool false] from if_pos hm)
      clear hcr hm
      go_enter Tryd.func44, Tryd.ntmps44
      go_wp2_with fail
      refine (command_any x1 hb1 _ (HC.out.below ((Below.refl _ _).alloc (Nat.le_refl _) _) HC.out.lt)).mono ?_
      rintro e w1 ⟨rfl, h1⟩
      rw [HV.out]
      have H1 := Lib.hid (((Below.refl _ _).alloc (Nat.le_refl _) _).trans (h1.mono (by simp only [World.size_alloc]; omega)))
      have HB1 := Lib.hid (show Bk w1 w.heap.size 50 #[.int .i64 0, .int .i64 0, .int .i64 0, .bool false, .int .u8 0, .slice none 0 0, .slice none 0 0] from (Bk.new w _ _).below h1 (by simp))
      have hsz1 : w.heap.size + 0 < w1.heap.size := by have := h1.size; simp at this; omega
      obtain ⟨hcc, hff⟩ := bcell h1
      clear h1
      go_wp2
      exact bodyPost_ret (v := .tuple #[.agg #[.int .i64 0, .int .i64 0, .int .i64 0, .bool false, .int .u8 0, .slice none 0 0, .slice none 0 0], .int .i64 4]) (results_struct_tmp (p := 2) (q := 3) rfl _ _ w.heap.size 50 _ _ _ rfl (Bk_fill7 HB1.out _ _ _ _ _ _ _) Tryd.underlying50 rfl (by kernel_rfl)) rfl ⟨by rw [HR.out]; exact ActEnd_of _ _ _ _ _ _ BOwn_nil BOwn_nil, below_fill7 H1.out (Nat.le_refl _) _ _ _ _ _ _ _⟩
    · have HV := Lib.hid (show cmdVal x1 = .tuple #[.int .i64 (cmdOf x1), .bool true] from if_neg hm)
      obtain ⟨c, hcm⟩ : ∃ c, c = cmdOf x1 := ⟨_, rfl⟩
      rw [← hcm] at HV hcr hm
      by_cases hbig : 4 < c
      · have HR := Lib.hid (show outsOf (x0 :: x1 :: r) = (A0, 4) by unfold outsOf; rw [if_neg (by simp), if_neg (by show ¬ (0 ≤ cmdOf x1 ∧ cmdOf x1 ≤ 4); omega)])
        clear hcm hcr hm
        go_enter Tryd.func44, Tryd.ntmps44
        go_wp2_with fail
        refine (command_any x1 hb1 _ (HC.out.below ((Below.refl _ _).alloc (Nat.le_refl _) _) HC.out.lt)).mono ?_
        rintro e w1 ⟨rfl, h1⟩
        rw [HV.out]
        have H1 := Lib.hid (((Below.refl _ _).alloc (Nat.le_refl _) _).trans (h1.mono (by simp only [World.size_alloc]; omega)))
        have HB1 := Lib.hid (show Bk w1 w.heap.size 50 #[.int .i64 0, .int .i64 0, .int .i64 0, .bool false, .int .u8 0, .slice none 0 0, .slice none 0 0] from (Bk.new w _ _).below h1 (by simp))
        have hsz1 : w.heap.size + 0 < w1.heap.size := by have := h1.size; simp at this; omega
        obtain ⟨hcc, hff⟩ := bcell h1
        clear h1
        go_wp2
        exact bodyPost_ret (v := .tuple #[.agg #[.int .i64 0, .int .i64 0, .int .i64 0, .bool false, .int .u8 0, .slice none 0 0, .slice none 0 0], .int .i64 4]) (results_struct_tmp (p := 2) (q := 3) rfl _ _ w.heap.size 50 _ _ _ rfl (Bk_fill7 HB1.out _ _ _ _ _ _ _) Tryd.underlying50 rfl (by kernel_rfl)) rfl ⟨by rw [HR.out]; exact ActEnd_of _ _ _ _ _ _ BOwn_nil BOwn_nil, below_fill7 H1.out (Nat.le_refl _) _ _ _ _ _ _ _⟩
      · have HRP := Lib.hid (show outsOf (x0 :: x1 :: r) = partOf (aOut ((x0 :: x1 :: r).drop 1)) x0 0 by unfold outsOf; rw [if_neg (by simp), if_pos (by show 0 ≤ cmdOf x1 ∧ cmdOf x1 ≤ 4; omega)]; rfl)
        have hd4 : decide (4 < c) = false := decide_eq_false hbig
        obtain ⟨hnl0, A4, hA4, hrow, hsl⟩ := BOwn_rest HVV.out 1 (by omega)
        have hsl1 : ∀ w : World, (Instr.slice 23 (.slice (some ⟨g, 0, none⟩) n cap) (some (.int .i64 1)) none none).run Tryd.prog w = .ok (.slice (some A4) (n - 1) (cap - 1)) w := hsl
        have HROW := Lib.hid hrow
        obtain ⟨dl, hdl⟩ : ∃ dl, dl = (x0 :: x1 :: r).drop 1 := ⟨_, rfl⟩
        have HDL := Lib.hid hdl
        have hdlen : dl.length ≤ 140737488351232 := by rw [hdl]; have := HNL.out; simp; omega
        rw [← hdl] at HROW HRP
        clear hcm hcr hm hbig hrow hsl hA4 hdl hnl0
        go_enter Tryd.func44, Tryd.ntmps44
        go_wp2_with fail
        refine (command_any x1 hb1 _ (HC.out.below ((Below.refl _ _).alloc (Nat.le_refl _) _) HC.out.lt)).mono ?_
        rintro e w1 ⟨rfl, h1⟩
        rw [HV.out]
        have H1 := Lib.hid (((Below.refl _ _).alloc (Nat.le_refl _) _).trans (h1.mono (by simp only [World.size_alloc]; omega)))
        have HROW1 := Lib.hid (HROW.out w1 ((h1.block g (by simp; omega)).trans (Below.heap_alloc _ _ _ hz)))
        have HB1 := Lib.hid (show Bk w1 w.heap.size 50 #[.int .i64 0, .int .i64 0, .int .i64 0, .bool false, .int .u8 0, .slice none 0 0, .slice none 0 0] from (Bk.new w _ _).below h1 (by simp))
        have hsz1 : w.heap.size + 0 < w1.heap.size := by have := h1.size; simp at this; omega
        obtain ⟨hcc, hff⟩ := bcell h1
        clear h1
        go_wp2_with fail
        refine (clone_own _ dl _ HROW1.out hdlen).mono ?_
        rintro e w2 ⟨av, cv, rfl, ho, h2⟩
        have hc02 : w2.cell? ⟨g, 0, none⟩ = some (.int .u8 x0) := by rw [h2.cell (p := ⟨g, 0, none⟩) (by show g < _; omega), hcc g 0 (by simp; omega)]; exact (World.cell?_alloc_lt _ _ _ hz).trans hc0
        have H2 := Lib.hid (H1.out.trans (h2.mono (by omega)))
        have HB2 := Lib.hid (HB1.out.below h2 (by omega))
        have HO2 := Lib.hid ho
        have hsz2 : w.heap.size < w2.heap.size := by have := h2.size; omega
        have hsz12 := h2.size
        clear h2 ho hcc hff
        go_wp2_with fail
        by_cases hx0 : x0 = 0
        · subst hx0
          have HR := Lib.hid (HRP.out.trans (partOf_eq rfl))
          refine (part_yes 9 0 0 false 0 none av 0 0 dl.length cv g n cap _ (by omega) hc02).mono ?_
          rintro e w3 ⟨rfl, h3⟩
          have H3 := Lib.hid (H2.out.trans (h3.mono (by omega)))
          have HB3 := Lib.hid (HB2.out.below h3 (by omega))
          have HO3 := Lib.hid ((HO2.out.below h3 (Nat.le_refl _)).lower (C := w.heap.size + 1) (by omega))
          have hsz3 : w.heap.size < w3.heap.size := by have := h3.size; omega
          obtain ⟨d0, d1, d2, d3, d4, d5, d6⟩ := cells7 HB3.out
          obtain ⟨f0, f1, f2, f3, f4, f5, f6⟩ := frozen7 HB3.out
          clear h3
          go_wp2
          clear d0 d1 d2 d3 d4 d5 d6 f0 f1 f2 f3 f4 f5 f6
          exact bodyPost_ret (v := .tuple #[.agg #[.int .i64 9, .int .i64 0, .int .i64 0, .bool false, .int .u8 0, .slice none 0 0, .slice av dl.length cv], .int .i64 0]) (results_struct_tmp (p := 2) (q := 3) rfl _ _ w.heap.size 50 _ _ _ rfl (Bk_fill7 HB3.out _ _ _ _ _ _ _) Tryd.underlying50 rfl (by kernel_rfl)) rfl ⟨by rw [HR.out]; exact ActEnd_of _ _ _ _ _ _ BOwn_nil ((BOwn_fill7 HO3.out (by omega) _ _ _ _ _ _ _).lower (by omega)), below_fill7 H3.out (Nat.le_refl _) _ _ _ _ _ _ _⟩
        · have HR := Lib.hid (HRP.out.trans (partOf_ne hx0))
          refine (part_no 9 0 0 false 0 none av 0 0 dl.length cv g n cap x0 _ (by omega) hc02 hx0).mono ?_
          rintro e w3 ⟨rfl, h3⟩
          have H3 := Lib.hid (H2.out.trans (h3.mono (by omega)))
          have HB3 := Lib.hid (HB2.out.below h3 (by omega))
          have hsz3 : w.heap.size < w3.heap.size := by have := h3.size; omega
          obtain ⟨d0, d1, d2, d3, d4, d5, d6⟩ := cells7 HB3.out
          obtain ⟨f0, f1, f2, f3, f4, f5, f6⟩ := frozen7 HB3.out
          clear h3
          go_wp2
          clear d0 d1 d2 d3 d4 d5 d6 f0 f1 f2 f3 f4 f5 f6
          exact bodyPost_ret (v := .tuple #[.agg #[.int .i64 0, .int .i64 0, .int .i64 0, .bool false, .int .u8 0, .slice none 0 0, .slice none 0 0], .int .i64 1]) (results_struct_tmp (p := 2) (q := 3) rfl _ _ w.heap.size 50 _ _ _ rfl (Bk_fill7 HB3.out _ _ _ _ _ _ _) Tryd.underlying50 rfl (by kernel_rfl)) rfl ⟨by rw [HR.out]; exact ActEnd_of _ _ _ _ _ _ BOwn_nil BOwn_nil, below_fill7 H3.out (Nat.le_refl _) _ _ _ _ _ _ _⟩

end Go.Proofs.YtcibhchbgendaaaDoor.Sf
