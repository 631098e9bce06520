/- The walks of page.Escape, page.Escaped, and the reference's. -/
import Derived.Test.YtcibhchbgendaaaRfCode
namespace Go.Proofs.Ytcibhchbgendaaa.Pg
open Go Go.RowKit Go.Proofs.Ytcibhchbgendaaa.Rf

set_option maxHeartbeats 1600000 in
set_option maxRecDepth 100000 in
theorem escapes_any (w : World) : Calls Try.prog 33 #[] w fun e w' => ∃ g, e = .returned (.slice (some ⟨g, 0, none⟩) 19 19) ∧ Bk w' g 72 (encO escL).toArray ∧ w.heap.size ≤ g ∧ Below w.heap.size w w' := by
  have h : Calls Try.prog 33 #[] w fun e w' => e = .returned (.slice (some ⟨w.heap.size, 0, none⟩) 19 19) ∧ w' = w.alloc (.cells (encO escL).toArray 72) := by
    go_enter Try.func33, Try.ntmps33
    go_wp2
    go_ret
    exact ⟨rfl, rfl⟩
  refine h.mono ?_
  rintro e w' ⟨he, rfl⟩
  exact ⟨_, he, Bk.new _ _ _, Nat.le_refl _, (Below.refl _ _).alloc (Nat.le_refl _) _⟩

/-- the element at a place of such a block -/
theorem esc_elem {w : World} {g : Nat} (hb : Bk w g 72 (encO escL).toArray) {j : Nat} (hj : j < 19) :
    ∃ c s, escL[j]? = some (c, s) ∧ w.cell? ⟨g, j * 2, none⟩ = some (.int .u8 c) ∧ w.cell? ⟨g, j * 2 + 1, none⟩ = some (.int .u16 s) := by
  have hl : escL[j]? = some (escL[j]'(by rw [escL_len]; exact hj)) := List.getElem?_eq_getElem _
  obtain ⟨e1, e2⟩ := encO_at escL j _ _ hl
  rw [show 2 * j = j * 2 from by omega] at e1 e2
  exact ⟨_, _, hl, hb.cellv (by simpa using e1), hb.cellv (by simpa using e2)⟩

theorem find_hit {α : Type} {p : α → Bool} {l : List α} {j : Nat} {x : α} (h1 : (l.take j).find? p = none) (h2 : l[j]? = some x) (h3 : p x = true) : l.find? p = some x := by
  rw [← List.take_append_drop j l, List.find?_append, h1]
  have hj : j < l.length := (List.getElem?_eq_some_iff.1 h2).1
  rw [List.drop_eq_getElem_cons hj, (List.getElem?_eq_some_iff.1 h2).2]
  simp [h3]
theorem find_miss {α : Type} {p : α → Bool} {l : List α} {j : Nat} {x : α} (h1 : (l.take j).find? p = none) (h2 : l[j]? = some x) (h3 : p x = false) : (l.take (j + 1)).find? p = none := by
  rw [List.take_add_one, h2]
  simp only [Option.toList_some, List.find?_append, h1]
  simp [h3]

set_option maxHeartbeats 1600000 in
set_option maxRecDepth 100000 in
theorem escape_any (c : Nat) (_hc : c < 256) (w : World) : Calls Try.prog 18 #[.int .u8 c] w fun e w' =>
    e = .returned (.tuple #[.int .i32 (escSign c), .bool (escOf c).isSome]) ∧ Below w.heap.size w w' := by
  go_enter Try.func18, Try.ntmps18
  go_wp2_with (first | (go_at_call 33; refine (escapes_any _).mono ?_; rintro e w1 ⟨g, rfl, h1, h2, h3⟩; have H1 := Lib.hid h1; have H2 := Lib.hid h2; have H3 := Lib.hid h3; clear h1 h2 h3))
  go_loopw [8] (fun i wr => ∃ j : Nat, j ≤ 19 ∧ i = .int .i64 j ∧ Bk wr g 72 (encO escL).toArray ∧ Below w.heap.size w wr ∧ (escL.take j).find? (fun p => p.1 == (c : Int)) = none) (fun i _ => 19 - (intOf i).toNat)
  case atStart => exact ⟨0, by omega, rfl, H1.out, H3.out, rfl⟩
  case round =>
    obtain ⟨j, hj, rfl, hb, hw, hq⟩ := hrel
    have HB := Lib.hid hb
    have HW := Lib.hid hw
    have HQ := Lib.hid hq
    clear hb hw hq
    by_cases hlt : j < 19
    · obtain ⟨c', s', hl, hc1, hc2⟩ := esc_elem HB.out hlt
      obtain ⟨hr1, hr2, hr3, hr4⟩ := escL_range (c', s') (List.mem_of_getElem? hl)
      have HL := Lib.hid hl
      clear hl
      by_cases hcc : c' = (c : Int)
      · have HC := Lib.hid hcc
        have hb : (c' == (c : Int)) = true := beq_iff_eq.2 hcc
        clear hcc
        go_wp2
        go_ret2
        have hf : escOf c = some s' := by unfold escOf; rw [find_hit HQ.out HL.out (beq_iff_eq.2 HC.out)]; rfl
        have hs : escSign c = s' := by unfold escSign; rw [hf]; rfl
        exact ⟨by rw [hf, hs]; rfl, HW.out.alloc HW.out.size _⟩
      · have HC := Lib.hid hcc
        have hb : (c' == (c : Int)) = false := beq_eq_false_iff_ne.2 hcc
        clear hcc
        go_wp2
        go_roundw
        case rel => exact ⟨j + 1, by omega, by go_num, HB.out.alloc _, HW.out.alloc HW.out.size _, find_miss HQ.out HL.out (beq_eq_false_iff_ne.2 HC.out)⟩
        case measure => simp [intOf]; omega
    · go_wp2
      go_ret2
      have hf : escOf c = none := by
        have h := HQ.out
        rw [List.take_of_length_le (by rw [escL_len]; omega)] at h
        unfold escOf; rw [h]; rfl
      have hs : escSign c = 0 := by unfold escSign; rw [hf]; rfl
      exact ⟨by rw [hf, hs]; rfl, HW.out⟩

set_option maxHeartbeats 1600000 in
set_option maxRecDepth 100000 in
theorem escaped_any (s : Int) (w : World) : Calls Try.prog 19 #[.int .i32 s] w fun e w' =>
    e = .returned (.tuple #[.int .u8 ((escCode s).getD 0), .bool (escCode s).isSome]) ∧ Below w.heap.size w w' := by
  go_enter Try.func19, Try.ntmps19
  go_wp2_with (first | (go_at_call 33; refine (escapes_any _).mono ?_; rintro e w1 ⟨g, rfl, h1, h2, h3⟩; have H1 := Lib.hid h1; have H2 := Lib.hid h2; have H3 := Lib.hid h3; clear h1 h2 h3))
  go_loopw [8] (fun i wr => ∃ j : Nat, j ≤ 19 ∧ i = .int .i64 j ∧ Bk wr g 72 (encO escL).toArray ∧ Below w.heap.size w wr ∧ (escL.take j).find? (fun p => p.2 == s) = none) (fun i _ => 19 - (intOf i).toNat)
  case atStart => exact ⟨0, by omega, rfl, H1.out, H3.out, rfl⟩
  case round =>
    obtain ⟨j, hj, rfl, hb, hw, hq⟩ := hrel
    have HB := Lib.hid hb
    have HW := Lib.hid hw
    have HQ := Lib.hid hq
    clear hb hw hq
    by_cases hlt : j < 19
    · obtain ⟨c', s', hl, hc1, hc2⟩ := esc_elem HB.out hlt
      obtain ⟨hr1, hr2, hr3, hr4⟩ := escL_range (c', s') (List.mem_of_getElem? hl)
      have HL := Lib.hid hl
      clear hl
      by_cases hcc : s' = s
      · have HC := Lib.hid hcc
        have hb : (s' == s) = true := beq_iff_eq.2 hcc
        clear hcc
        go_wp2
        go_ret2
        have hf : escCode s = some c' := by unfold escCode; rw [find_hit HQ.out HL.out (beq_iff_eq.2 HC.out)]; rfl
        exact ⟨by rw [hf]; rfl, HW.out.alloc HW.out.size _⟩
      · have HC := Lib.hid hcc
        have hb : (s' == s) = false := beq_eq_false_iff_ne.2 hcc
        clear hcc
        go_wp2
        go_roundw
        case rel => exact ⟨j + 1, by omega, by go_num, HB.out.alloc _, HW.out.alloc HW.out.size _, find_miss HQ.out HL.out (beq_eq_false_iff_ne.2 HC.out)⟩
        case measure => simp [intOf]; omega
    · go_wp2
      go_ret2
      have hf : escCode s = none := by
        have h := HQ.out
        rw [List.take_of_length_le (by rw [escL_len]; omega)] at h
        unfold escCode; rw [h]; rfl
      exact ⟨by rw [hf]; rfl, HW.out⟩

/-! the reference's -/
def escS : ByteArray := ⟨escB.toArray⟩
theorem escS_size : escS.size = 114 := by kernel_rfl
theorem esc_pairs : pairsOf escB = escL := by decide +kernel
theorem esc_nums {j : Nat} (hj : j < 19) : ∃ c s, escL[j]? = some (c, s) ∧ num (escS.extract (6 * j) (6 * j + 2)).data.toList 0 = c ∧ num (escS.extract (6 * j + 2) (6 * j + 6)).data.toList 0 = s := by
  refine ⟨_, _, ?_, rfl, rfl⟩
  rw [num_extract, num_extract, ← esc_pairs]
  unfold pairsOf
  rw [List.getElem?_map, List.getElem?_range (by show j < 114 / 6; omega)]
  have e1 : 6 * j + 2 - 6 * j = 2 := by omega
  have e2 : 6 * j + 6 - (6 * j + 2) = 4 := by omega
  rw [e1, e2]
  rfl

set_option maxHeartbeats 1600000 in
set_option maxRecDepth 100000 in
theorem rescape_any (c : Nat) (hc : c < 256) (w : World) : Calls Try.prog 21 #[.int .u8 c] w fun e w' => e = .returned (.int .i32 (escSign c)) ∧ w' = w := by
  go_enter Try.func21, Try.ntmps21
  go_wp2
  go_loop [3] (fun i => ∃ j : Nat, j ≤ 19 ∧ i = .int .i64 (6 * j) ∧ (escL.take j).find? (fun p => p.1 == (c : Int)) = none) (fun i => 114 - (intOf i).toNat)
  case atStart => exact ⟨0, by omega, rfl, rfl⟩
  case round =>
    obtain ⟨j, hj, rfl, hq⟩ := hrel
    have HQ := Lib.hid hq
    clear hq
    by_cases hlt : j < 19
    · obtain ⟨c', s', hl, hp1, hp2⟩ := esc_nums hlt
      obtain ⟨hr1, hr2, hr3, hr4⟩ := escL_range (c', s') (List.mem_of_getElem? hl)
      have HL := Lib.hid hl
      have HP1 := Lib.hid hp1
      have HP2 := Lib.hid hp2
      clear hl hp1 hp2
      by_cases hcc : c' = (c : Int)
      · have HC := Lib.hid hcc
        have hb : (c' == (c : Int)) = true := beq_iff_eq.2 hcc
        clear hcc
        go_wp2_with (first | (refine wpList_slice_const rfl _ _ _ rfl escS (by kernel_rfl) (6 * j) (6 * j + 2) _ _ rfl rfl (by omega) (by omega) (by omega) (by rw [escS_size]; omega) ?_) | (refine wpList_slice_const rfl _ _ _ rfl escS (by kernel_rfl) (6 * j + 2) (6 * j + 6) _ _ rfl rfl (by omega) (by omega) (by omega) (by rw [escS_size]; omega) ?_) | (go_at_call 31; refine (num_any _ (ext_size escS _ _ (by rw [escS_size]; omega)) _).mono ?_; rintro e w1 ⟨rfl, rfl⟩; first | rw [HP1.out] | rw [HP2.out]))
        go_ret
        have hf : escOf c = some s' := by unfold escOf; rw [find_hit HQ.out HL.out (beq_iff_eq.2 HC.out)]; rfl
        have hs : escSign c = s' := by unfold escSign; rw [hf]; rfl
        exact ⟨by rw [hs]; rfl, rfl⟩
      · have HC := Lib.hid hcc
        have hb : (c' == (c : Int)) = false := beq_eq_false_iff_ne.2 hcc
        clear hcc
        go_wp2_with (first | (refine wpList_slice_const rfl _ _ _ rfl escS (by kernel_rfl) (6 * j) (6 * j + 2) _ _ rfl rfl (by omega) (by omega) (by omega) (by rw [escS_size]; omega) ?_) | (refine wpList_slice_const rfl _ _ _ rfl escS (by kernel_rfl) (6 * j + 2) (6 * j + 6) _ _ rfl rfl (by omega) (by omega) (by omega) (by rw [escS_size]; omega) ?_) | (go_at_call 31; refine (num_any _ (ext_size escS _ _ (by rw [escS_size]; omega)) _).mono ?_; rintro e w1 ⟨rfl, rfl⟩; first | rw [HP1.out] | rw [HP2.out]))
        go_round
        case rel => exact ⟨j + 1, by omega, by go_num, find_miss HQ.out HL.out (beq_eq_false_iff_ne.2 HC.out)⟩
        case measure => simp [intOf]; omega
    · go_wp2
      go_ret
      have hf : escOf c = none := by
        have h := HQ.out
        rw [List.take_of_length_le (by rw [escL_len]; omega)] at h
        unfold escOf; rw [h]; rfl
      have hs : escSign c = 0 := by unfold escSign; rw [hf]; rfl
      exact ⟨by rw [hs]; rfl, rfl⟩

theorem escSign_range (c : Nat) : 0 ≤ escSign c ∧ escSign c < 65536 := by
  unfold escSign escOf
  cases h : escL.find? (fun p => p.1 == (c : Int)) with
  | none => simp
  | some p => have := escL_range p (List.mem_of_find?_eq_some h); simp; omega

set_option maxHeartbeats 1600000 in
set_option maxRecDepth 100000 in
theorem rescaped_any (s : Int) (w : World) : Calls Try.prog 20 #[.int .i32 s] w fun e w' => e = .returned (.int .i64 (escNum s)) ∧ w' = w := by
  go_enter Try.func20, Try.ntmps20
  go_wp2
  go_loop [3] (fun i => ∃ j : Nat, j ≤ 256 ∧ i = .int .i64 j ∧ ((List.range 256).take j).find? (fun c => escSign c != 0 && escSign c == s) = none) (fun i => 256 - (intOf i).toNat)
  case atStart => exact ⟨0, by omega, rfl, rfl⟩
  case round =>
    obtain ⟨j, hj, rfl, hq⟩ := hrel
    have HQ := Lib.hid hq
    clear hq
    by_cases hlt : j < 256
    · have HL := Lib.hid (show (List.range 256)[j]? = some j from List.getElem?_range hlt)
      have HS := escSign_range j
      obtain ⟨hs1, hs2⟩ := HS
      cases h1 : (escSign j != 0) with
      | false =>
        have H1 := Lib.hid h1
        go_wp2_with (first | (go_at_call 21; refine (rescape_any j hlt _).mono ?_; rintro e w1 ⟨rfl, rfl⟩))
        go_round
        case rel => exact ⟨j + 1, by omega, by go_num, find_miss HQ.out HL.out (by rw [H1.out]; rfl)⟩
        case measure => simp [intOf]; omega
      | true =>
        have H1 := Lib.hid h1
        cases h2 : (escSign j == s) with
        | false =>
          have H2 := Lib.hid h2
          go_wp2_with (first | (go_at_call 21; refine (rescape_any j hlt _).mono ?_; rintro e w1 ⟨rfl, rfl⟩))
          go_round
          case rel => exact ⟨j + 1, by omega, by go_num, find_miss HQ.out HL.out (by rw [H1.out, H2.out]; rfl)⟩
          case measure => simp [intOf]; omega
        | true =>
          have H2 := Lib.hid h2
          go_wp2_with (first | (go_at_call 21; refine (rescape_any j hlt _).mono ?_; rintro e w1 ⟨rfl, rfl⟩))
          go_ret
          have hf : escNum s = j := by unfold escNum; rw [find_hit HQ.out HL.out (by rw [H1.out, H2.out]; rfl)]
          exact ⟨by rw [hf]; rfl, rfl⟩
    · go_wp2
      go_ret
      have hf : escNum s = -1 := by
        have h := HQ.out
        rw [List.take_of_length_le (by rw [List.length_range]; omega)] at h
        unfold escNum; rw [h]
      exact ⟨by rw [hf]; rfl, rfl⟩
end Go.Proofs.Ytcibhchbgendaaa.Pg
