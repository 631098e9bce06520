/- The walks of write.Command, write.Reads, write.of and write.Byte. -/
import Derived.Test.YtcibhchbgendaaaDoorSfAct
import Derived.Test.YtcibhchbgendaaaDoorBy
import Derived.Laws.Rows
namespace Go.Proofs.YtcibhchbgendaaaDoor.Sf
open Go Go.RowKit Go.Proofs.YtcibhchbgendaaaDoor.By

def cOne (k : Nat) : Nat := cmd18.getD k 0
def cTwo (k : Nat) : Nat := cmd18.getD (9 + k) 0
/-- the table of commands, as the package lays it -/
def Cmds (w : World) : Prop := ∃ ws : Nat → ByteArray, ∀ k, k < 9 → w.cell? ⟨2, 3 * k, none⟩ = some (.string (ws k)) ∧ w.cell? ⟨2, 3 * k + 1, none⟩ = some (.int .u8 (cOne k)) ∧ w.cell? ⟨2, 3 * k + 2, none⟩ = some (.int .u8 (cTwo k))
theorem Cmds.lt {w : World} (h : Cmds w) : 2 < w.heap.size := by
  obtain ⟨ws, h⟩ := h
  exact cell_lt (p := ⟨2, 3 * 0, none⟩) (h 0 (by decide)).1
theorem Cmds.below {B : Nat} {w w' : World} (h : Cmds w) (hb : Below B w w') (hB : 2 < B) : Cmds w' := by
  obtain ⟨ws, h⟩ := h
  have e : ∀ i, w'.cell? ⟨2, i, none⟩ = w.cell? ⟨2, i, none⟩ := fun i => by
    unfold World.cell?
    rw [hb.block _ hB]
  exact ⟨ws, fun k hk => by rw [e, e, e]; exact h k hk⟩
theorem Cmds.below' {w w' : World} (h : Cmds w) (hb : Below w.heap.size w w') : Cmds w' := h.below hb h.lt
theorem Cmds.drewN {w : World} (h : Cmds w) (n : Nat) : Cmds (w.drewN n) := h

def cmdRow (ws : Nat → ByteArray) (k : Nat) : List Value := [.string (ws k), .int .u8 (cOne k), .int .u8 (cTwo k)]
def cmdCells (ws : Nat → ByteArray) : List Value := cmdRow ws 0 ++ (cmdRow ws 1 ++ (cmdRow ws 2 ++ (cmdRow ws 3 ++ (cmdRow ws 4 ++ (cmdRow ws 5 ++ (cmdRow ws 6 ++ (cmdRow ws 7 ++ cmdRow ws 8)))))))
theorem cmd_info : (Tryd.prog.info? 132).map (·.size) = some 27 := by kernel_rfl
theorem cmd_load (w : World) (ws : Nat → ByteArray) (h : ∀ k, k < 9 → w.cell? ⟨2, 3 * k, none⟩ = some (.string (ws k)) ∧ w.cell? ⟨2, 3 * k + 1, none⟩ = some (.int .u8 (cOne k)) ∧ w.cell? ⟨2, 3 * k + 2, none⟩ = some (.int .u8 (cTwo k))) :
    (loadVar 132 ⟨2, 0, none⟩).run Tryd.prog w = .ok (.agg (cmdCells ws).toArray) w := by
  have hl : (loadCells ⟨2, 0, none⟩ (cmdCells ws).length).run Tryd.prog w = .ok (cmdCells ws).toArray w :=
    run_loadCells_list (P := Tryd.prog) w ⟨2, 0, none⟩ (cmdCells ws) (fun j v hj => by
      rw [addr_add0, Nat.zero_add]
      have hlt : j < 27 := (List.getElem?_eq_some_iff.1 hj).1
      obtain ⟨k, r, hk, hr, rfl⟩ : ∃ k r, k < 9 ∧ r < 3 ∧ j = 3 * k + r := ⟨j / 3, j % 3, by omega, by omega, by omega⟩
      have h3 := h k hk
      have hk' : k = 0 ∨ k = 1 ∨ k = 2 ∨ k = 3 ∨ k = 4 ∨ k = 5 ∨ k = 6 ∨ k = 7 ∨ k = 8 := by omega
      have hr' : r = 0 ∨ r = 1 ∨ r = 2 := by omega
      rcases hr' with rfl | rfl | rfl
      · rcases hk' with rfl | rfl | rfl | rfl | rfl | rfl | rfl | rfl | rfl <;> (cases hj; exact h3.1)
      · rcases hk' with rfl | rfl | rfl | rfl | rfl | rfl | rfl | rfl | rfl <;> (cases hj; exact h3.2.1)
      · rcases hk' with rfl | rfl | rfl | rfl | rfl | rfl | rfl | rfl | rfl <;> (cases hj; exact h3.2.2))
  obtain ⟨i, hi, hs⟩ : ∃ i, Tryd.prog.info? 132 = some i ∧ i.size = 27 := by
    have h := cmd_info
    cases e : Tryd.prog.info? 132 with
    | none => rw [e] at h; cases h
    | some i => rw [e] at h; exact ⟨i, rfl, by simpa using h⟩
  have hagg : (isAgg 132).run Tryd.prog w = .ok true w := by kernel_rfl
  have hl27 : (cmdCells ws).length = 27 := rfl
  rw [hl27] at hl
  simp [loadVar, Sem.run_bind, hagg, sizeOf, typeInfo, hi, hs, hl]
theorem cmd_index0 (ws : Nat → ByteArray) (w : World) : (Instr.index 132 (.agg (cmdCells ws).toArray) (.int .i64 0)).run Tryd.prog w = .ok (.agg #[.string (ws 0), .int .u8 (cOne 0), .int .u8 (cTwo 0)]) w := by kernel_rfl
theorem cmd_index1 (ws : Nat → ByteArray) (w : World) : (Instr.index 132 (.agg (cmdCells ws).toArray) (.int .i64 1)).run Tryd.prog w = .ok (.agg #[.string (ws 1), .int .u8 (cOne 1), .int .u8 (cTwo 1)]) w := by kernel_rfl
theorem cmd_index2 (ws : Nat → ByteArray) (w : World) : (Instr.index 132 (.agg (cmdCells ws).toArray) (.int .i64 2)).run Tryd.prog w = .ok (.agg #[.string (ws 2), .int .u8 (cOne 2), .int .u8 (cTwo 2)]) w := by kernel_rfl
theorem cmd_index3 (ws : Nat → ByteArray) (w : World) : (Instr.index 132 (.agg (cmdCells ws).toArray) (.int .i64 3)).run Tryd.prog w = .ok (.agg #[.string (ws 3), .int .u8 (cOne 3), .int .u8 (cTwo 3)]) w := by kernel_rfl
theorem cmd_index4 (ws : Nat → ByteArray) (w : World) : (Instr.index 132 (.agg (cmdCells ws).toArray) (.int .i64 4)).run Tryd.prog w = .ok (.agg #[.string (ws 4), .int .u8 (cOne 4), .int .u8 (cTwo 4)]) w := by kernel_rfl
theorem cmd_index5 (ws : Nat → ByteArray) (w : World) : (Instr.index 132 (.agg (cmdCells ws).toArray) (.int .i64 5)).run Tryd.prog w = .ok (.agg #[.string (ws 5), .int .u8 (cOne 5), .int .u8 (cTwo 5)]) w := by kernel_rfl
theorem cmd_index6 (ws : Nat → ByteArray) (w : World) : (Instr.index 132 (.agg (cmdCells ws).toArray) (.int .i64 6)).run Tryd.prog w = .ok (.agg #[.string (ws 6), .int .u8 (cOne 6), .int .u8 (cTwo 6)]) w := by kernel_rfl
theorem cmd_index7 (ws : Nat → ByteArray) (w : World) : (Instr.index 132 (.agg (cmdCells ws).toArray) (.int .i64 7)).run Tryd.prog w = .ok (.agg #[.string (ws 7), .int .u8 (cOne 7), .int .u8 (cTwo 7)]) w := by kernel_rfl
theorem cmd_index8 (ws : Nat → ByteArray) (w : World) : (Instr.index 132 (.agg (cmdCells ws).toArray) (.int .i64 8)).run Tryd.prog w = .ok (.agg #[.string (ws 8), .int .u8 (cOne 8), .int .u8 (cTwo 8)]) w := by kernel_rfl
theorem cmd_index (ws : Nat → ByteArray) (k : Nat) (hk : k < 9) (w : World) :
    (Instr.index 132 (.agg (cmdCells ws).toArray) (.int .i64 (k : Int))).run Tryd.prog w = .ok (.agg #[.string (ws k), .int .u8 (cOne k), .int .u8 (cTwo k)]) w := by
  have hk' : k = 0 ∨ k = 1 ∨ k = 2 ∨ k = 3 ∨ k = 4 ∨ k = 5 ∨ k = 6 ∨ k = 7 ∨ k = 8 := by omega
  rcases hk' with rfl | rfl | rfl | rfl | rfl | rfl | rfl | rfl | rfl
  · exact cmd_index0 ws w
  · exact cmd_index1 ws w
  · exact cmd_index2 ws w
  · exact cmd_index3 ws w
  · exact cmd_index4 ws w
  · exact cmd_index5 ws w
  · exact cmd_index6 ws w
  · exact cmd_index7 ws w
  · exact cmd_index8 ws w

theorem cmd_hits : (List.range 256).all (fun b => (List.range 9).all fun k => !(cOne k == b || cTwo k == b) || decide (cmdOf b = (k : Int))) = true := by decide +kernel
theorem cmd_hit (b k : Nat) (hb : b < 256) (hk : k < 9) (h : cOne k = b ∨ cTwo k = b) : cmdOf b = (k : Int) := by
  have h1 := List.all_eq_true.1 (List.all_eq_true.1 cmd_hits b (by simp [hb])) k (by simp [hk])
  rcases h with h | h
  · simpa [h] using h1
  · simpa [h] using h1
theorem cmd_misses : (List.range 256).all (fun b => ((List.range 9).any fun k => cOne k == b || cTwo k == b) || decide (cmdOf b = -1)) = true := by decide +kernel
theorem cmd_miss (b : Nat) (hb : b < 256) (h : ∀ k, k < 9 → cOne k ≠ b ∧ cTwo k ≠ b) : cmdOf b = -1 := by
  have h1 := List.all_eq_true.1 cmd_misses b (by simp [hb])
  simp only [Bool.or_eq_true, decide_eq_true_eq] at h1
  rcases h1 with h1 | h1
  · obtain ⟨k, hk, h2⟩ := List.any_eq_true.1 h1
    have h3 := h k (by simpa using hk)
    simp [h3.1, h3.2] at h2
  · exact h1

theorem wpList_load_eq {P : Program} {w : World} {ops : Array Oper} {rest : List Oper} {o : Oper} {a : Act} {Q : Exit → Act → World → Prop} (hgd : o.guard = none) (ty : TypeId) (x : Operand) (ho : o.op = .load ty x)
    (ad : Addr) (hx : a.eval x = .pointer (some ad)) (v : Value) (hl : (loadVar ty ad).run P w = .ok v w) (h : wpList P ops Q rest (a.put o.dst v) w) : wpList P ops Q (o :: rest) a w :=
  wpList_plain hgd fun _ hK => by
    unfold Oper.wp execOp
    simp only [ho, hx, Instr.loadAt, Instr.sureAddr, Sem.run_bind, Sem.run_pure, Result.andThen_ok, hl]
    exact hK _ _ h
/-- what write.Command answers -/
def cmdVal (b : Nat) : Value := if cmdOf b = -1 then .tuple #[.int .i64 0, .bool false] else .tuple #[.int .i64 (cmdOf b), .bool true]

set_option maxHeartbeats 4000000 in
set_option maxRecDepth 100000 in
theorem command_any (b : Nat) (hb : b < 256) (w : World) (hc : Cmds w) :
    Calls Tryd.prog 57 #[.int .u8 b] w fun e w' => e = .returned (cmdVal b) ∧ Below w.heap.size w w' := by
  obtain ⟨ws, hc⟩ := hc
  have hload := cmd_load w ws hc
  clear hc
  go_enter Tryd.func57, Tryd.ntmps57
  go_wp2_with (refine wpList_load_eq rfl 132 (Operand.global 2) rfl ⟨2, 0, none⟩ rfl _ hload ?_)
  clear hload
  go_loopw [7] (fun i wr => ∃ k : Nat, k ≤ 9 ∧ i = .int .i64 k ∧ Below w.heap.size w wr ∧ ∀ j, j < k → cOne j ≠ b ∧ cTwo j ≠ b) (fun i _ => 9 - (intOf i).toNat)
  case atStart => exact ⟨0, Nat.zero_le _, rfl, Below.refl _ _, fun j hj => by omega⟩
  case round =>
    obtain ⟨k, hk, rfl, hw, hno⟩ := hrel
    have HW := Lib.hid hw
    have HNO := Lib.hid hno
    clear hw hno
    by_cases hlt : k < 9
    · have hix := cmd_index ws k hlt
      obtain ⟨x1, hx1⟩ : ∃ x1, cOne k = x1 := ⟨_, rfl⟩
      obtain ⟨x2, hx2⟩ : ∃ x2, cTwo k = x2 := ⟨_, rfl⟩
      rw [hx1, hx2] at hix
      have HX1 := Lib.hid hx1
      have HX2 := Lib.hid hx2
      clear hx1 hx2
      by_cases h1 : x1 = b
      · have hq1 : ((x1 : Int) == (b : Int)) = true := beq_iff_eq.2 (by omega)
        have hh := cmd_hit b k hb hlt (.inl (HX1.out.trans h1))
        have hr : cmdVal b = .tuple #[.int .i64 (k : Int), .bool true] := by
          unfold cmdVal
          rw [if_neg (by omega), hh]
        have HR := Lib.hid hr
        clear hh hr h1
        go_wp2_with fail
        go_ret2
        exact ⟨by rw [HR.out]; try rfl, HW.out.alloc HW.out.size _⟩
      · have hq1 : ((x1 : Int) == (b : Int)) = false := beq_eq_false_iff_ne.2 (by omega)
        by_cases h2 : x2 = b
        · have hq2 : ((x2 : Int) == (b : Int)) = true := beq_iff_eq.2 (by omega)
          have hh := cmd_hit b k hb hlt (.inr (HX2.out.trans h2))
          have hr : cmdVal b = .tuple #[.int .i64 (k : Int), .bool true] := by
            unfold cmdVal
            rw [if_neg (by omega), hh]
          have HR := Lib.hid hr
          clear hh hr h1 h2
          go_wp2_with fail
          go_ret2
          exact ⟨by rw [HR.out]; try rfl, HW.out.alloc HW.out.size _⟩
        · have hq2 : ((x2 : Int) == (b : Int)) = false := beq_eq_false_iff_ne.2 (by omega)
          have HN := Lib.hid h1
          have HN2 := Lib.hid h2
          clear h1 h2
          go_wp2_with fail
          go_roundw
          case rel =>
            refine ⟨k + 1, by omega, by go_num, HW.out.alloc HW.out.size _, fun j hj => ?_⟩
            by_cases e : j = k
            · subst e
              rw [HX1.out, HX2.out]
              exact ⟨HN.out, HN2.out⟩
            · exact HNO.out j (by omega)
          case measure => simp [intOf]; omega
    · obtain rfl : k = 9 := by omega
      have hr : cmdVal b = .tuple #[.int .i64 0, .bool false] := if_pos (cmd_miss b hb HNO.out)
      have HR := Lib.hid hr
      clear hr
      go_wp2_with fail
      go_ret2
      exact ⟨by rw [HR.out]; try rfl, HW.out⟩

theorem reads_cmd (c : Int) (w : World) : Calls Tryd.prog 58 #[.int .i64 c] w fun e w' => e = .returned (.bool (decide (isRead c))) ∧ w = w' := by
  by_cases h5 : 5 ≤ c
  · by_cases h7 : c ≤ 7
    · have h : decide (isRead c) = true := decide_eq_true ⟨h5, h7⟩
      rw [h]
      clear h
      go_enter Tryd.func58, Tryd.ntmps58
      go_wp2
      go_ret
      exact ⟨rfl, rfl⟩
    · have h : decide (isRead c) = false := decide_eq_false (fun x => h7 x.2)
      rw [h]
      have h7' : decide (c ≤ 7) = false := decide_eq_false h7
      clear h h7
      go_enter Tryd.func58, Tryd.ntmps58
      go_wp2
      go_ret
      exact ⟨rfl, rfl⟩
  · have h : decide (isRead c) = false := decide_eq_false (fun x => h5 x.1)
    rw [h]
    have h5' : decide (5 ≤ c) = false := decide_eq_false h5
    clear h h5
    go_enter Tryd.func58, Tryd.ntmps58
    go_wp2
    go_ret
    exact ⟨rfl, rfl⟩

/-- what write.of answers -/
def ofVal (c : Int) (e : Ending) : Prop := ∃ s one, e = .returned (.tuple #[.agg #[.string s, .int .u8 one, .int .u8 (byteOf c)], .bool (decide (0 ≤ c ∧ c ≤ 8))])
theorem byteOf_in (c : Int) (h0 : 0 ≤ c) (h8 : c ≤ 8) : byteOf c = cTwo c.toNat := by
  unfold byteOf
  rw [if_neg (by omega), if_neg (by omega)]
  rfl
set_option maxHeartbeats 4000000 in
set_option maxRecDepth 100000 in
theorem of_any (c : Int) (w : World) (hc : Cmds w) : Calls Tryd.prog 68 #[.int .i64 c] w fun e w' => ofVal c e ∧ Below w.heap.size w w' := by
  obtain ⟨ws, hc⟩ := hc
  by_cases h0 : c < 0
  · have e : byteOf c = 0 := if_pos h0
    have e2 : decide (0 ≤ c ∧ c ≤ 8) = false := decide_eq_false (by omega)
    unfold ofVal
    rw [e, e2]
    clear e e2 hc
    go_enter Tryd.func68, Tryd.ntmps68
    go_wp2
    exact bodyPost_ret (v := .tuple #[.agg #[.string ⟨#[]⟩, .int .u8 0, .int .u8 0], .bool false]) (by simp [results, Tryd.results68, go_sem]) rfl ⟨⟨_, _, rfl⟩, ((Below.refl _ _).alloc (Nat.le_refl _) _)⟩
  · by_cases h8 : 8 < c
    · have e : byteOf c = 0 := by unfold byteOf; rw [if_neg h0, if_pos h8]
      have e2 : decide (0 ≤ c ∧ c ≤ 8) = false := decide_eq_false (by omega)
      unfold ofVal
      rw [e, e2]
      have h9 : 9 ≤ c := by omega
      clear e e2 hc
      go_enter Tryd.func68, Tryd.ntmps68
      go_wp2
      exact bodyPost_ret (v := .tuple #[.agg #[.string ⟨#[]⟩, .int .u8 0, .int .u8 0], .bool false]) (by simp [results, Tryd.results68, go_sem]) rfl ⟨⟨_, _, rfl⟩, ((Below.refl _ _).alloc (Nat.le_refl _) _)⟩
    · have e := byteOf_in c (by omega) (by omega)
      have e2 : decide (0 ≤ c ∧ c ≤ 8) = true := decide_eq_true (by omega)
      unfold ofVal
      rw [e, e2]
      clear e e2
      obtain ⟨k, rfl⟩ : ∃ k : Nat, c = k := ⟨c.toNat, by omega⟩
      have hk : k < 9 := by omega
      obtain ⟨d0, d1, d2⟩ := hc k hk
      have hz : 2 < w.heap.size := cell_lt (p := ⟨_, _, none⟩) d0
      have et : ((k : Int)).toNat = k := by omega
      rw [et]
      clear et hc h0 h8
      have d0' : w.cell? ⟨2, k * 3, none⟩ = some (.string (ws k)) := by rw [Nat.mul_comm]; exact d0
      have d1' : w.cell? ⟨2, k * 3 + 1, none⟩ = some (.int .u8 (cOne k)) := by rw [Nat.mul_comm]; exact d1
      have d2' : w.cell? ⟨2, k * 3 + 2, none⟩ = some (.int .u8 (cTwo k)) := by rw [Nat.mul_comm]; exact d2
      clear d0 d1 d2
      go_enter Tryd.func68, Tryd.ntmps68
      go_wp2
      exact bodyPost_ret (v := .tuple #[.agg #[.string (ws k), .int .u8 (cOne k), .int .u8 (cTwo k)], .bool true]) (by simp [results, Tryd.results68, go_sem]) rfl ⟨⟨_, _, rfl⟩, ((Below.refl _ _).alloc (Nat.le_refl _) _)⟩
set_option maxHeartbeats 4000000 in
set_option maxRecDepth 100000 in
theorem byte_any (c : Int) (w : World) (hc : Cmds w) : Calls Tryd.prog 61 #[.int .i64 c] w fun e w' => e = .returned (.int .u8 (byteOf c)) ∧ Below w.heap.size w w' := by
  have HC := Lib.hid hc
  clear hc
  go_enter Tryd.func61, Tryd.ntmps61
  go_wp2_with fail
  refine (of_any c w HC.out).mono ?_
  rintro e w' ⟨⟨s, one, rfl⟩, h⟩
  have H := Lib.hid h
  clear h
  go_wp2
  go_ret
  exact ⟨rfl, H.out.alloc H.out.size _⟩
end Go.Proofs.YtcibhchbgendaaaDoor.Sf
