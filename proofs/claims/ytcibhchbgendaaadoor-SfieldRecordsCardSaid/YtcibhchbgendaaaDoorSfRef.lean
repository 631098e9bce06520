/- The walks of vitrineref17.Command and vitrineref17.Byte. -/
import Derived.Test.YtcibhchbgendaaaDoorSfMem
import Derived.Test.YtcibhchbgendaaaDoorRfNum
import Derived.Lib.Strings
namespace Go.Proofs.YtcibhchbgendaaaDoor.Sf
open Go Go.RowKit Go.Proofs.YtcibhchbgendaaaDoor.By Go.Proofs.YtcibhchbgendaaaDoor.Rf

theorem str_slice (L : ByteArray) (a b : Nat) (i j : Int) (hi : i = a) (hj : j = b) (h : a ≤ b) (h2 : b ≤ L.size) (w : World) :
    (Instr.slice 9 (.string L) (some (.int .i64 i)) (some (.int .i64 j)) none).run Tryd.prog w = .ok (.string (L.extract a b)) w := by
  subst hi hj
  have := run_slice_string (P := Tryd.prog) w 9 L .i64 .i64 (a : Int) (b : Int) Tryd.underlying9 (by omega) (by omega) (by omega)
  simpa using this
theorem ext_len (L : ByteArray) (a b : Nat) (h : L.size ≤ 5000) : (L.extract a b).size ≤ maxLen := by
  have : (L.extract a b).size ≤ L.size := by rw [ByteArray.size_extract]; omega
  unfold maxLen
  omega
/-- a piece of a constant string -/
theorem wpList_str_const {w : World} {ops : Array Oper} {rest : List Oper} {o : Oper} {a : Act} {Q : Exit → Act → World → Prop} (hg : o.guard = none) (L : ByteArray) (p q : Operand)
    (hop : o.op = Op.slice 9 (.const (.string L)) (some p) (some q) none) (S : ByteArray) (hL : L = S) (x y : Nat) (i j : Int) (hp : a.eval p = .int .i64 i) (hq : a.eval q = .int .i64 j) (hi : i = x) (hj : j = y) (hxy : x ≤ y) (hy : y ≤ S.size)
    (h : wpList Tryd.prog ops Q rest (a.put o.dst (.string (S.extract x y))) w) : wpList Tryd.prog ops Q (o :: rest) a w := by
  subst hL
  refine wpList_plain hg fun K' hK' => ?_
  have hrun := str_slice L x y i j hi hj hxy hy w
  have hrun2 := (run_sliceAt_string w 9 (.string L) (some (.int .i64 i)) (some (.int .i64 j)) none Tryd.underlying9).trans hrun
  have hc : a.eval (.const (.string L)) = .string L := rfl
  unfold Oper.wp
  simp only [execOp, hop, Option.map_some, Option.map_none, hc, hp, hq, Sem.run_bind, hrun2, Result.andThen_ok, Sem.run_pure]
  exact hK' _ _ h

/-- the commands' digits -/
def cmdS : ByteArray := ⟨#[48, 51, 48, 49, 48, 53, 48, 100, 48, 102, 48, 50, 48, 54, 48, 101, 49, 49, 48, 51, 102, 49, 102, 53, 55, 101, 54, 102, 102, 50, 102, 54, 54, 101, 102, 51]⟩
theorem cmdS_size : cmdS.size = 36 := rfl
theorem cmd_nums : (List.range 18).map (fun k => num ((cmdS.data.toList.drop (2 * k)).take 2) 0) = cmd18.map Int.ofNat := by decide +kernel
theorem cmd_num (k : Nat) (hk : k < 18) : num (cmdS.extract (2 * k) (2 * k + 2)).data.toList 0 = ((cmd18.getD k 0 : Nat) : Int) := by
  have h := congrArg (fun l : List Int => l[k]?) cmd_nums
  simp only [List.getElem?_map, List.getElem?_range hk, Option.map_some] at h
  have hl : k < cmd18.length := hk
  rw [List.getElem?_eq_getElem hl] at h
  have e : (cmdS.extract (2 * k) (2 * k + 2)).data.toList = (cmdS.data.toList.drop (2 * k)).take 2 := by
    rw [ByteArray.data_extract, Array.toList_extract, List.extract, show 2 * k + 2 - 2 * k = 2 by omega]
  rw [e, List.getD_eq_getElem?_getD, List.getElem?_eq_getElem hl]
  simpa using h
theorem cmd18_lt (k : Nat) : cmd18.getD k 0 < 256 := by
  rw [List.getD_eq_getElem?_getD]
  rcases Nat.lt_or_ge k 18 with h | h
  · have : ∀ i, i < 18 → (cmd18[i]?).getD 0 < 256 := by decide
    exact this k h
  · rw [List.getElem?_eq_none h]
    decide
theorem cmd_found : (List.range 256).all (fun b => (List.range 18).all fun k => !(cmd18.getD k 0 == b && (List.range k).all fun j => cmd18.getD j 0 != b) || decide (cmdOf b = ((k % 9 : Nat) : Int))) = true := by decide +kernel
theorem cmd_at (b k : Nat) (hb : b < 256) (hk : k < 18) (h : cmd18.getD k 0 = b) (hn : ∀ j, j < k → cmd18.getD j 0 ≠ b) : cmdOf b = ((k % 9 : Nat) : Int) := by
  have h1 := List.all_eq_true.1 (List.all_eq_true.1 cmd_found b (by simp [hb])) k (by simp [hk])
  have h2 : ((List.range k).all fun j => cmd18.getD j 0 != b) = true := List.all_eq_true.2 fun j hj => bne_iff_ne.2 (hn j (by simpa using hj))
  rw [h2] at h1
  simpa only [h, beq_self_eq_true, Bool.true_and, Bool.not_true, Bool.false_or, decide_eq_true_eq] using h1
theorem cmd_missed : (List.range 256).all (fun b => ((List.range 18).any fun k => cmd18.getD k 0 == b) || decide (cmdOf b = -1)) = true := by decide +kernel
theorem cmd_not (b : Nat) (hb : b < 256) (hn : ∀ j, j < 18 → cmd18.getD j 0 ≠ b) : cmdOf b = -1 := by
  have h1 := List.all_eq_true.1 cmd_missed b (by simp [hb])
  have h2 : ((List.range 18).any fun k => cmd18.getD k 0 == b) = false := List.any_eq_false.2 fun j hj => by
    have := hn j (by simpa using hj)
    simpa using this
  rw [h2] at h1
  simpa using h1

set_option maxHeartbeats 4000000 in
set_option maxRecDepth 100000 in
theorem rcmd_any (b : Nat) (hb : b < 256) (w : World) : Calls Tryd.prog 45 #[.int .u8 b] w fun e w' => e = .returned (.int .i64 (cmdOf b)) ∧ w' = w := by
  go_enter Tryd.func45, Tryd.ntmps45
  go_wp2_with fail
  go_loop [3] (fun i => ∃ k : Nat, k ≤ 18 ∧ i = .int .i64 k ∧ ∀ j, j < k → cmd18.getD j 0 ≠ b) (fun i => 18 - (intOf i).toNat)
  case atStart => exact ⟨0, Nat.zero_le _, rfl, fun j hj => by omega⟩
  case round =>
    obtain ⟨k, hk, rfl, hno⟩ := hrel
    have HNO := Lib.hid hno
    clear hno
    by_cases hlt : k < 18
    · obtain ⟨x, hx⟩ : ∃ x, cmd18.getD k 0 = x := ⟨_, rfl⟩
      have hn := cmd_num k hlt
      rw [hx] at hn
      have HN := Lib.hid hn
      have HX := Lib.hid hx
      clear hn hx
      by_cases he : x = b
      · have hq : ((x : Int) == (b : Int)) = true := beq_iff_eq.2 (by omega)
        have HR := Lib.hid (cmd_at b k hb hlt (HX.out.trans he) HNO.out)
        have hmod : (k : Int) % 9 = ((k % 9 : Nat) : Int) := by omega
        have HM := Lib.hid hmod
        clear he hmod
        go_wp2_with (first | (refine wpList_str_const rfl _ _ _ rfl cmdS (by kernel_rfl) (2 * k) (2 * k + 2) _ _ rfl rfl (by omega) (by omega) (by omega) (by rw [cmdS_size]; omega) ?_) | (go_at_call 60; refine (num_any _ (ext_len cmdS _ _ (by rw [cmdS_size]; omega)) _).mono ?_; rintro e w1 ⟨rfl, rfl⟩; rw [HN.out]))
        go_ret
        exact ⟨by rw [HR.out, ← HM.out]; try rfl, rfl⟩
      · have hq : ((x : Int) == (b : Int)) = false := beq_eq_false_iff_ne.2 (by omega)
        have HE := Lib.hid he
        clear he
        go_wp2_with (first | (refine wpList_str_const rfl _ _ _ rfl cmdS (by kernel_rfl) (2 * k) (2 * k + 2) _ _ rfl rfl (by omega) (by omega) (by omega) (by rw [cmdS_size]; omega) ?_) | (go_at_call 60; refine (num_any _ (ext_len cmdS _ _ (by rw [cmdS_size]; omega)) _).mono ?_; rintro e w1 ⟨rfl, rfl⟩; rw [HN.out]))
        go_round
        case rel =>
          refine ⟨k + 1, by omega, by go_num, fun j hj => ?_⟩
          by_cases e : j = k
          · subst e; rw [HX.out]; exact HE.out
          · exact HNO.out j (by omega)
        case measure => simp [intOf]; omega
    · obtain rfl : k = 18 := by omega
      have HR := Lib.hid (cmd_not b hb HNO.out)
      go_wp2_with fail
      go_ret
      exact ⟨by rw [HR.out]; try rfl, rfl⟩

set_option maxHeartbeats 4000000 in
set_option maxRecDepth 100000 in
theorem rbyte_any (c : Int) (w : World) : Calls Tryd.prog 48 #[.int .i64 c] w fun e w' => e = .returned (.int .u8 (byteOf c)) ∧ w' = w := by
  by_cases h0 : c < 0
  · have e : byteOf c = 0 := if_pos h0
    rw [e]
    clear e
    go_enter Tryd.func48, Tryd.ntmps48
    go_wp2
    go_ret
    exact ⟨rfl, rfl⟩
  · by_cases h8 : 8 < c
    · have e : byteOf c = 0 := by unfold byteOf; rw [if_neg h0, if_pos h8]
      rw [e]
      clear e
      go_enter Tryd.func48, Tryd.ntmps48
      go_wp2
      go_ret
      exact ⟨rfl, rfl⟩
    · have e : byteOf c = cmd18.getD (9 + c.toNat) 0 := by unfold byteOf; rw [if_neg h0, if_neg h8]
      obtain ⟨k, rfl⟩ : ∃ k : Nat, c = k := ⟨c.toNat, by omega⟩
      have hk : k < 9 := by omega
      have et : ((k : Int)).toNat = k := by omega
      rw [et] at e
      rw [e]
      obtain ⟨x, hx⟩ : ∃ x, cmd18.getD (9 + k) 0 = x := ⟨_, rfl⟩
      have hx256 := cmd18_lt (9 + k)
      have hn := cmd_num (9 + k) (by omega)
      rw [hx] at hn hx256 ⊢
      have HN := Lib.hid hn
      have hd8 : decide (8 < (k : Int)) = false := decide_eq_false (by omega)
      clear e et hn hx h0 h8
      go_enter Tryd.func48, Tryd.ntmps48
      go_wp2_with (first | (refine wpList_str_const rfl _ _ _ rfl cmdS (by kernel_rfl) (2 * (9 + k)) (2 * (9 + k) + 2) _ _ rfl rfl (by omega) (by omega) (by omega) (by rw [cmdS_size]; omega) ?_) | (go_at_call 60; refine (num_any _ (ext_len cmdS _ _ (by rw [cmdS_size]; omega)) _).mono ?_; rintro e w1 ⟨rfl, rfl⟩; rw [HN.out]))
      go_ret
      exact ⟨rfl, rfl⟩
end Go.Proofs.YtcibhchbgendaaaDoor.Sf
