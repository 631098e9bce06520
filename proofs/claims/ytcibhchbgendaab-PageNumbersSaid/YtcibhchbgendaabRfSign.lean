/- The walks of vitrineref01's others and Sign. -/
import Derived.Test.YtcibhchbgendaabRfNum
import Derived.Test.YtcibhchbgendaabRfPure
import Derived.Lib.Strings
namespace Go.Proofs.Ytcibhchbgendaab.Rf
open Go Go.RowKit Go.Proofs.Ytcibhchbgendaab.Pg

set_option maxHeartbeats 1600000 in
set_option maxRecDepth 100000 in
theorem rothers_37 (w : World) : Calls Try.prog 56 #[.int .i64 37] w fun e w' => e = .returned (.tuple #[.string ⟨(othB 37).toArray⟩, .bool true]) ∧ w' = w := by
  go_enter Try.func56, Try.ntmps56
  go_wp2
  go_ret2
  exact ⟨rfl, rfl⟩

set_option maxHeartbeats 1600000 in
set_option maxRecDepth 100000 in
theorem rothers_273 (w : World) : Calls Try.prog 56 #[.int .i64 273] w fun e w' => e = .returned (.tuple #[.string ⟨(othB 273).toArray⟩, .bool true]) ∧ w' = w := by
  go_enter Try.func56, Try.ntmps56
  go_wp2
  go_ret2
  exact ⟨rfl, rfl⟩

set_option maxHeartbeats 1600000 in
set_option maxRecDepth 100000 in
theorem rothers_297 (w : World) : Calls Try.prog 56 #[.int .i64 297] w fun e w' => e = .returned (.tuple #[.string ⟨(othB 297).toArray⟩, .bool true]) ∧ w' = w := by
  go_enter Try.func56, Try.ntmps56
  go_wp2
  go_ret2
  exact ⟨rfl, rfl⟩

set_option maxHeartbeats 1600000 in
set_option maxRecDepth 100000 in
theorem rothers_500 (w : World) : Calls Try.prog 56 #[.int .i64 500] w fun e w' => e = .returned (.tuple #[.string ⟨(othB 500).toArray⟩, .bool true]) ∧ w' = w := by
  go_enter Try.func56, Try.ntmps56
  go_wp2
  go_ret2
  exact ⟨rfl, rfl⟩

set_option maxHeartbeats 1600000 in
set_option maxRecDepth 100000 in
theorem rothers_1047 (w : World) : Calls Try.prog 56 #[.int .i64 1047] w fun e w' => e = .returned (.tuple #[.string ⟨(othB 1047).toArray⟩, .bool true]) ∧ w' = w := by
  go_enter Try.func56, Try.ntmps56
  go_wp2
  go_ret2
  exact ⟨rfl, rfl⟩

set_option maxHeartbeats 1600000 in
set_option maxRecDepth 100000 in
theorem rothers_1140 (w : World) : Calls Try.prog 56 #[.int .i64 1140] w fun e w' => e = .returned (.tuple #[.string ⟨(othB 1140).toArray⟩, .bool true]) ∧ w' = w := by
  go_enter Try.func56, Try.ntmps56
  go_wp2
  go_ret2
  exact ⟨rfl, rfl⟩

set_option maxHeartbeats 1600000 in
set_option maxRecDepth 100000 in
theorem rothers_no (n : Int) (h : ¬ IsNum n) (w : World) : Calls Try.prog 56 #[.int .i64 n] w fun e w' => e = .returned (.tuple #[.string ⟨#[]⟩, .bool false]) ∧ w' = w := by
  unfold IsNum at h
  have h1 : (n == 37) = false := beq_eq_false_iff_ne.2 (by omega)
  have h2 : (n == 273) = false := beq_eq_false_iff_ne.2 (by omega)
  have h3 : (n == 297) = false := beq_eq_false_iff_ne.2 (by omega)
  have h4 : (n == 500) = false := beq_eq_false_iff_ne.2 (by omega)
  have h5 : (n == 1047) = false := beq_eq_false_iff_ne.2 (by omega)
  have h6 : (n == 1140) = false := beq_eq_false_iff_ne.2 (by omega)
  clear h
  go_enter Try.func56, Try.ntmps56
  go_wp2
  go_ret2
  exact ⟨rfl, rfl⟩

theorem rothers_any (k : Int) (hk : IsNum k) (w : World) : Calls Try.prog 56 #[.int .i64 k] w fun e w' =>
    ∃ L : ByteArray, e = .returned (.tuple #[.string L, .bool true]) ∧ L.data.toList = othB k ∧ w = w' := by
  rcases hk with rfl | rfl | rfl | rfl | rfl | rfl
  · exact (rothers_37 w).mono fun e w' ⟨he, hw⟩ => ⟨_, he, rfl, hw.symm⟩
  · exact (rothers_273 w).mono fun e w' ⟨he, hw⟩ => ⟨_, he, rfl, hw.symm⟩
  · exact (rothers_297 w).mono fun e w' ⟨he, hw⟩ => ⟨_, he, rfl, hw.symm⟩
  · exact (rothers_500 w).mono fun e w' ⟨he, hw⟩ => ⟨_, he, rfl, hw.symm⟩
  · exact (rothers_1047 w).mono fun e w' ⟨he, hw⟩ => ⟨_, he, rfl, hw.symm⟩
  · exact (rothers_1140 w).mono fun e w' ⟨he, hw⟩ => ⟨_, he, rfl, hw.symm⟩

theorem num_extract (L : ByteArray) (a b : Nat) : num (L.extract a b).data.toList 0 = num ((L.data.toList.drop a).take (b - a)) 0 := by
  rw [Lib.extract_data]

theorem isnum_mem {k : Int} (h : IsNum k) : k ∈ [37, 273, 297, 500, 1047, 1140] := by
  rcases h with rfl | rfl | rfl | rfl | rfl | rfl <;> simp

/-- the pairs of a page's string -/
theorem pair_facts {k : Int} (hk : IsNum k) {L : ByteArray} (hL : L.data.toList = othB k) {j : Nat} (hj : j < (othL k).length) :
    6 * j + 6 ≤ L.size ∧ ∃ c s, (othL k)[j]? = some (c, s) ∧ num (L.extract (6 * j) (6 * j + 2)).data.toList 0 = c ∧ num (L.extract (6 * j + 2) (6 * j + 6)).data.toList 0 = s := by
  obtain ⟨h1, h2⟩ := oth_pairs k (isnum_mem hk)
  have hs : L.size = 6 * (othL k).length := by rw [← h2, ← hL]; rfl
  refine ⟨by omega, _, _, ?_, rfl, rfl⟩
  rw [num_extract, num_extract, hL]
  rw [← h1]
  unfold pairsOf
  rw [List.getElem?_map, List.getElem?_range (by rw [h2]; omega)]
  have e1 : 6 * j + 2 - 6 * j = 2 := by omega
  have e2 : 6 * j + 6 - (6 * j + 2) = 4 := by omega
  rw [e1, e2]
  rfl

theorem pair_size {k : Int} (hk : IsNum k) {L : ByteArray} (hL : L.data.toList = othB k) : L.size = 6 * (othL k).length := by
  obtain ⟨h1, h2⟩ := oth_pairs k (isnum_mem hk)
  rw [← h2, ← hL]; rfl

theorem slice_str (L : ByteArray) (a b : Nat) (i j : Int) (hi : i = a) (hj : j = b) (h : a ≤ b) (h2 : b ≤ L.size) (w : World) :
    (Instr.slice 9 (.string L) (some (.int .i64 i)) (some (.int .i64 j)) none).run Try.prog w = .ok (.string (L.extract a b)) w := by
  subst hi hj
  have := run_slice_string (P := Try.prog) w 9 L .i64 .i64 (a : Int) (b : Int) Try.underlying9 (by omega) (by omega) (by omega)
  simpa using this
theorem ext_size (L : ByteArray) (a b : Nat) (h : L.size ≤ 5000) : (L.extract a b).size ≤ maxLen := by
  have : (L.extract a b).size ≤ L.size := by rw [ByteArray.size_extract]; omega
  unfold maxLen
  omega
theorem find_snoc {α : Type} (p : α → Bool) (l : List α) (x : α) : (l ++ [x]).find? p = (l.find? p).or (if p x then some x else none) := by
  rw [List.find?_append]
  cases h : p x <;> simp [List.find?, h]
theorem signOf_eq {k : Int} (hk : IsNum k) {c : Nat} (hc : c < 256) : signOf k c = signR k c := by
  have h := signR_eq' k (isnum_mem hk)
  unfold signOf
  rw [← h, List.getD_eq_getElem?_getD, List.getElem?_map, List.getElem?_range hc]
  rfl
theorem find_here {k : Int} {c : Nat} {j : Nat} {s : Int} (h1 : ((othL k).take j).find? (fun p => p.1 == (c : Int)) = none) (h2 : (othL k)[j]? = some ((c : Int), s)) : signR k c = s := by
  have : (othL k).find? (fun p => p.1 == (c : Int)) = some ((c : Int), s) := by
    rw [← List.take_append_drop j (othL k), List.find?_append, h1]
    have hj : j < (othL k).length := (List.getElem?_eq_some_iff.1 h2).1
    rw [List.drop_eq_getElem_cons hj]
    have e : (othL k)[j] = ((c : Int), s) := (List.getElem?_eq_some_iff.1 h2).2
    rw [e]
    simp
  unfold signR
  rw [this]
theorem find_next {k : Int} {c : Nat} {j : Nat} {c' s : Int} (h1 : ((othL k).take j).find? (fun p => p.1 == (c : Int)) = none) (h2 : (othL k)[j]? = some (c', s)) (h3 : ¬ c' = (c : Int)) : ((othL k).take (j + 1)).find? (fun p => p.1 == (c : Int)) = none := by
  rw [List.take_add_one, h2]
  simp only [Option.toList_some]
  rw [find_snoc, h1]
  simp [h3]

/-- a piece of a constant string -/
theorem wpList_slice_const {w : World} {ops : Array Oper} {rest : List Oper} {o : Oper} {a : Act} {Q : Exit → Act → World → Prop} (hg : o.guard = none) (L : ByteArray) (p q : Operand)
    (hop : o.op = Op.slice 9 (.const (.string L)) (some p) (some q) none) (S : ByteArray) (hL : L = S) (x y : Nat) (i j : Int) (hp : a.eval p = .int .i64 i) (hq : a.eval q = .int .i64 j) (hi : i = x) (hj : j = y) (hxy : x ≤ y) (hy : y ≤ S.size)
    (h : wpList Try.prog ops Q rest (a.put o.dst (.string (S.extract x y))) w) : wpList Try.prog ops Q (o :: rest) a w := by
  subst hL
  refine wpList_plain hg fun K' hK' => ?_
  have hrun := slice_str L x y i j hi hj hxy hy w
  have hrun2 := (run_sliceAt_string w 9 (.string L) (some (.int .i64 i)) (some (.int .i64 j)) none Try.underlying9).trans hrun
  have hc : a.eval (.const (.string L)) = .string L := rfl
  unfold Oper.wp
  simp only [execOp, hop, Option.map_some, Option.map_none, hc, hp, hq, Sem.run_bind, hrun2, Result.andThen_ok, Sem.run_pure]
  exact hK' _ _ h

def baseS : ByteArray := ⟨baseB.toArray⟩
theorem base_size : baseS.size = 1024 := by kernel_rfl
theorem base_num (c : Nat) (hc : c < 256) : num (baseS.extract (4 * c) (4 * c + 4)).data.toList 0 = base37[c]?.getD 0 := by
  rw [num_extract, ← base_nums, List.getElem?_map, List.getElem?_range hc]
  have e : 4 * c + 4 - 4 * c = 4 := by omega
  rw [e]
  rfl

set_option maxHeartbeats 1600000 in
set_option maxRecDepth 100000 in
theorem rsign_any (k : Int) (hk : IsNum k) (c : Nat) (hc : c < 256) (w : World) :
    Calls Try.prog 26 #[.int .i64 k, .int .u8 c] w fun e w' => e = .returned (.int .i32 (signOf k c)) ∧ w' = w := by
  rw [signOf_eq hk hc]
  go_enter Try.func26, Try.ntmps26
  go_wp2_with (first | (go_at_call 56; refine (rothers_any k hk _).mono ?_; rintro e w1 ⟨L, rfl, hL, rfl⟩; have HL := Lib.hid hL; clear hL))
  obtain ⟨n, hn⟩ : ∃ n, n = (othL k).length := ⟨_, rfl⟩
  have hn25 : n ≤ 25 := by have := othL_len k; omega
  have hs := pair_size hk HL.out
  have hs1 : 6 * n ≤ L.size := by omega
  have hs2 : L.size ≤ 6 * n := by omega
  have HN := Lib.hid hn
  clear hs hn
  go_loop [7] (fun i => ∃ j : Nat, j ≤ n ∧ i = .int .i64 (6 * j) ∧ ((othL k).take j).find? (fun p => p.1 == (c : Int)) = none) (fun i => 6 * n - (intOf i).toNat)
  case atStart => exact ⟨0, by omega, rfl, rfl⟩
  case round =>
    obtain ⟨j, hj, rfl, hq⟩ := hrel
    have HQ := Lib.hid hq
    clear hq
    by_cases hlt : j < n
    · obtain ⟨h6, c', s', he, hp1, hp2⟩ := pair_facts hk HL.out (j := j) (by rw [← HN.out]; exact hlt)
      obtain ⟨hr1, hr2, hr3, hr4⟩ := othL_range k (c', s') (List.mem_of_getElem? he)
      have HE := Lib.hid he
      have HP1 := Lib.hid hp1
      have HP2 := Lib.hid hp2
      have hsl1 := slice_str L (6 * j) (6 * j + 2) (6 * (j : Int)) (6 * (j : Int) + 2) (by omega) (by omega) (by omega) (by omega)
      have hsl2 := slice_str L (6 * j + 2) (6 * j + 6) (6 * (j : Int) + 2) (6 * (j : Int) + 6) (by omega) (by omega) (by omega) (by omega)
      clear he hp1 hp2
      by_cases hcc : c' = (c : Int)
      · have HC := Lib.hid hcc
        have hb : (c' == (c : Int)) = true := beq_iff_eq.2 hcc
        clear hcc
        go_wp2_with (first | (go_at_call 57; refine (num_any _ (ext_size L _ _ (by omega)) _).mono ?_; rintro e w1 ⟨rfl, rfl⟩; first | rw [HP1.out] | rw [HP2.out]))
        go_ret
        refine ⟨?_, rfl⟩
        have hf := HE.out
        rw [HC.out] at hf
        rw [find_here HQ.out hf]
        rfl
      · have HC := Lib.hid hcc
        have hb : (c' == (c : Int)) = false := beq_eq_false_iff_ne.2 hcc
        clear hcc
        go_wp2_with (first | (go_at_call 57; refine (num_any _ (ext_size L _ _ (by omega)) _).mono ?_; rintro e w1 ⟨rfl, rfl⟩; first | rw [HP1.out] | rw [HP2.out]))
        go_round
        case rel => exact ⟨j + 1, by omega, by go_num, find_next HQ.out HE.out HC.out⟩
        case measure => simp [intOf]; omega
    · have hq : signR k c = base37[c]?.getD 0 := by
        have hf := HQ.out
        rw [List.take_of_length_le (by rw [← HN.out]; omega)] at hf
        unfold signR
        rw [hf]
        exact List.getD_eq_getElem?_getD ..
      have HQ2 := Lib.hid hq
      have hr := getD_range base37_range c
      rw [List.getD_eq_getElem?_getD] at hr
      obtain ⟨hr1, hr2⟩ := hr
      clear hq
      go_wp2_with (first | (refine wpList_slice_const rfl _ _ _ rfl baseS (by kernel_rfl) (4 * c) (4 * c + 4) _ _ rfl rfl (by omega) (by omega) (by omega) (by rw [base_size]; omega) ?_) | (go_at_call 57; refine (num_any _ (ext_size baseS _ _ (by rw [base_size]; omega)) _).mono ?_; rintro e w1 ⟨rfl, rfl⟩; rw [base_num c hc]))
      go_ret
      exact ⟨by rw [HQ2.out]; rfl, rfl⟩
end Go.Proofs.Ytcibhchbgendaab.Rf
