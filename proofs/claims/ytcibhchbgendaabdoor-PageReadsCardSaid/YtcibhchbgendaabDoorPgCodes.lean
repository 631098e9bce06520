/- The walk of (*page.Page).Codes. -/
import Derived.Test.YtcibhchbgendaabDoorShelf
import Derived.Test.YtcibhchbgendaabDoorBy
import Derived.Test.YtcibhchbgendaabDoorClMem
import Derived.Test.YtcibhchbgendaabDoorPgPure2
import Derived.Maps.AppendAt
import Derived.Lib.OthersKept
import Derived.Lib.DecodeN
import Derived.Stop.FmtRuneSmall
namespace Go.Proofs.YtcibhchbgendaabDoor.Cl
open Go Go.RowKit Go.Proofs.YtcibhchbgendaabDoor.Pg Go.Proofs.YtcibhchbgendaabDoor.By

/-- from place pos on, with out read: all codes; or how many were read, and the error -/
def codesTo (k : Int) (s : ByteArray) : Nat → Nat → List Nat → List Nat ⊕ (Nat × Int)
  | 0, _, out => .inl out
  | fuel + 1, pos, out =>
    if pos < s.size then
      if (Utf8.decode s pos).1 = 65533 ∧ Lib.hasPrefix (s.extract pos s.size).data.toList [239, 191, 189] = false then .inr (out.length, 4)
      else match codeOf k (Utf8.decode s pos).1 with
        | none => .inr (out.length, 12)
        | some c => codesTo k s fuel (pos + (Utf8.decode s pos).2) (out ++ [c])
    else .inl out
def codesRun (k : Int) (s : ByteArray) : List Nat ⊕ (Nat × Int) := codesTo k s s.size 0 []
theorem codesTo_end (k : Int) (s : ByteArray) (fuel pos : Nat) (out : List Nat) (h : ¬ pos < s.size) : codesTo k s fuel pos out = .inl out := by
  cases fuel with
  | zero => rfl
  | succ f => simp [codesTo, h]
theorem width_pos (s : ByteArray) (pos : Nat) (h : pos < s.size) : 1 ≤ (Utf8.decode s pos).2 := by
  by_cases ha : (s[pos]'h).toNat < 128
  · rw [decode_ascii s pos h ha]
    exact Nat.le_refl _
  · exact (decode_high s pos h (by omega)).2

theorem PageAt_iter {w : World} {b : Nat} {k : Int} (h : PageAt w b k) {q : Nat} {s : ByteArray} {pos : Nat} (hq : w.heap[q]? = some (.stringIter s pos)) (pos' : Nat) : PageAt (w.iterAt q s pos') b k := by
  have keep : ∀ (g : Nat) (o : Obj), w.heap[g]? = some o → (∀ s p, o ≠ .stringIter s p) → (w.iterAt q s pos').heap[g]? = some o := by
    intro g o hg ho
    rw [Lib.iterAt_other w q g s pos' (by rintro rfl; rw [hq] at hg; injection hg with e; exact ho _ _ e.symm)]
    exact hg
  refine ⟨h.1, ?_⟩
  rcases h.2 with h | ⟨m, h, es, clock, h1, h2⟩
  · exact .inl (keep _ _ h (by intro s p e; cases e))
  · exact .inr ⟨m, keep _ _ h (by intro s p e; cases e), es, clock, keep _ _ h1 (by intro s p e; cases e), h2⟩
theorem BOwn_iter {B : Nat} {w : World} {v : Value} {l : List Nat} (h : BOwn B w v l) {q : Nat} {s : ByteArray} {pos : Nat} (hq : w.heap[q]? = some (.stringIter s pos)) (pos' : Nat) : BOwn B (w.iterAt q s pos') v l := by
  obtain ⟨hb, hl, h | ⟨g, cap, cur, h1, h2, h3, h4⟩⟩ := h
  · exact ⟨hb, hl, .inl h⟩
  · exact ⟨hb, hl, .inr ⟨g, cap, cur, h1, h2, (Lib.iterAt_other w q g s pos' (by rintro rfl; rw [hq] at h3; cases h3)).trans h3, h4⟩⟩
theorem BOwn_step {B : Nat} {w w' : World} {v : Value} {l : List Nat} (h : BOwn B w v l) (s : PgStep w w') : BOwn B w' v l := by
  obtain ⟨hb, hl, h | ⟨g, cap, cur, h1, h2, h3, h4⟩⟩ := h
  · exact ⟨hb, hl, .inl h⟩
  · refine ⟨hb, hl, .inr ⟨g, cap, cur, h1, h2, ?_, h4⟩⟩
    have hlt : g < w.heap.size := (Array.getElem?_eq_some_iff.1 h3).1
    exact (s.keep g hlt (fun cs hc => by unfold Bk at hc; rw [h3] at hc; injection hc with e; injection e with _ e2; exact absurd e2 (by decide))).trans h3
theorem iter_step {w w' : World} {q : Nat} {s : ByteArray} {pos : Nat} (hq : w.heap[q]? = some (.stringIter s pos)) (h : PgStep w w') : w'.heap[q]? = some (.stringIter s pos) :=
  (h.keep q (Array.getElem?_eq_some_iff.1 hq).1 (fun cs hc => by unfold Bk at hc; rw [hq] at hc; cases hc)).trans hq
theorem PgStep.below_trans' {a w w' : World} (h : PgStep a w) (hb : Below a.heap.size w w') : PgStep a w' :=
  ⟨hb.os.trans h.os, hb.tape.trans h.tape, hb.output.trans h.output, Nat.le_trans h.size hb.size, fun i hi hn => (hb.block i hi).trans (h.keep i hi hn), fun i cs hc => by
    obtain ⟨cs', h'⟩ := h.page i cs hc
    exact ⟨cs', (hb.block i hc.lt).trans h'⟩⟩

theorem signs_small : nums.all (fun k => (signs k).all (fun s => decide (0 ≤ s) && (decide (s ≤ 255) || s == 8364))) = true := by decide +kernel
theorem signOf_small {k : Int} (hk : IsNum k) {c : Nat} (hc : c < 256) : 0 ≤ signOf k c ∧ (signOf k c ≤ 255 ∨ signOf k c = 8364) := by
  have h := List.all_eq_true.1 signs_small k (isnum_nums hk)
  have hl := signs_len k
  have hm : signOf k c ∈ signs k := by
    unfold signOf
    rw [List.getD_eq_getElem?_getD, List.getElem?_eq_getElem (by omega)]
    exact List.getElem_mem _
  have h2 := List.all_eq_true.1 h _ hm
  simp only [Bool.and_eq_true, Bool.or_eq_true, decide_eq_true_eq, beq_iff_eq] at h2
  exact h2
theorem codeOf_bad {k : Int} (hk : IsNum k) : codeOf k 65533 = none := codeOf_none fun q hq e => by
  have := signOf_small hk hq
  omega
theorem codesTo_bad {k : Int} {s : ByteArray} {f pos : Nat} {out : List Nat} (hlt : pos < s.size) (hr : (Utf8.decode s pos).1 = 65533) (hp : Lib.hasPrefix (s.extract pos s.size).data.toList [239, 191, 189] = false) : codesTo k s (f + 1) pos out = .inr (out.length, 4) := by
  unfold codesTo
  rw [if_pos hlt, if_pos ⟨hr, hp⟩]
theorem codesTo_none {k : Int} {s : ByteArray} {f pos : Nat} {out : List Nat} (hlt : pos < s.size) (hr : ¬ ((Utf8.decode s pos).1 = 65533 ∧ Lib.hasPrefix (s.extract pos s.size).data.toList [239, 191, 189] = false)) (hc : codeOf k (Utf8.decode s pos).1 = none) : codesTo k s (f + 1) pos out = .inr (out.length, 12) := by
  unfold codesTo
  rw [if_pos hlt, if_neg hr, hc]
theorem codesTo_some {k : Int} {s : ByteArray} {f pos c : Nat} {out : List Nat} (hlt : pos < s.size) (hr : ¬ ((Utf8.decode s pos).1 = 65533 ∧ Lib.hasPrefix (s.extract pos s.size).data.toList [239, 191, 189] = false)) (hc : codeOf k (Utf8.decode s pos).1 = some c) : codesTo k s (f + 1) pos out = codesTo k s f (pos + (Utf8.decode s pos).2) (out ++ [c]) := by
  conv => lhs; unfold codesTo
  rw [if_pos hlt, if_neg hr, hc]

theorem BOwn_block {B : Nat} {w : World} {v : Value} {l : List Nat} (h : BOwn B w v l) : ∀ g, v.ownBlock = some g → B ≤ g ∧ ∃ cs, Bk w g 5 cs := by
  intro g e
  obtain ⟨_, _, h | ⟨g', cap, cur, h1, h2, h3, _⟩⟩ := h
  · rw [h.1] at e; cases e
  · rw [h1] at e
    injection e with e
    subst e
    exact ⟨h2, cur, h3⟩

/-- how the call ends -/
def CodesEnd (k : Int) (s : ByteArray) (B : Nat) (e : Ending) (w' : World) : Prop :=
  (∃ l v, codesRun k s = .inl l ∧ e = .returned (.tuple #[v, .int .i64 l.length, .int .i64 0]) ∧ BOwn B w' v l) ∨
  ∃ (n : Nat) (x : Int), codesRun k s = .inr (n, x) ∧ e = .returned (.tuple #[.slice none 0 0, .int .i64 n, .int .i64 x])

set_option maxHeartbeats 4000000 in
set_option maxRecDepth 100000 in
theorem codes_any (B b : Nat) (k : Int) (s : ByteArray) (hs : s.size ≤ 1000000) (w : World) (hB : B ≤ w.heap.size) (hBb : B ≤ b) (hp : PageAt w b k) :
    Calls Tryd.prog 9 #[.pointer (some ⟨b, 0, none⟩), .string s] w fun e w' => CodesEnd k s w.heap.size e w' ∧ PgV B w' (.pointer (some ⟨b, 0, none⟩)) k ∧ PgStep w w' ∧ Below B w w' := by
  have hn : ∀ w : World, (binOp .eql 23 (.pointer (some ⟨b, 0, none⟩)) (.pointer none)).run Tryd.prog w = .ok (.bool false) w := fun w => by kernel_rfl
  have hnot : ∀ (x : Bool) (w : World), (Op.unary .not (.bool x)).run Tryd.prog w = .ok (.bool (!x)) w := fun _ _ => rfl
  have HP := Lib.hid hp
  obtain ⟨i0, hi, hz0, hz1, hz2⟩ := info_parts u8_info
  clear hp
  go_enter Tryd.func9, Tryd.ntmps9
  go_wp2_with fail
  go_loopw [7] (fun v wr => ∃ (pos fuel : Nat) (out : List Nat), BOwn w.heap.size wr v out ∧ wr.heap[w.heap.size]? = some (.stringIter s pos) ∧ PageAt wr b k ∧ PgStep w wr ∧ Below B w wr ∧
      codesTo k s fuel pos out = codesRun k s ∧ s.size ≤ pos + fuel ∧ out.length ≤ pos) (fun v wr => s.size - wr.iterPos w.heap.size)
  case atStart =>
    have hA' := (Below.refl w.heap.size w).alloc (Nat.le_refl _) (.stringIter s 0)
    refine ⟨0, s.size, [], ⟨by simp, by simp, .inl ⟨rfl, rfl⟩⟩, ?_, HP.out.below hA', PgStep.below hA', (Below.refl B w).alloc hB _, rfl, by omega, by simp⟩
    exact heap_alloc_new w _
  case round =>
    obtain ⟨pos, fuel, out, ho1, hi1, hp1, hs1, hw1, hc1, hf1, hl1⟩ := hrel
    obtain ⟨ao, cap, rfl⟩ : ∃ ao cap, u7 = Value.slice ao out.length cap := by
      rcases ho1.row with ⟨h1, h2⟩ | ⟨ao, cap, h, _⟩
      · exact ⟨none, 0, by rw [h1, h2]; rfl⟩
      · exact ⟨_, _, h⟩
    have HO1 := Lib.hid ho1
    have HI1 := Lib.hid hi1
    have HP1 := Lib.hid hp1
    have HS1 := Lib.hid hs1
    have HW1 := Lib.hid hw1
    have HC1 := Lib.hid hc1
    by_cases hlt : pos < s.size
    · obtain ⟨f, rfl⟩ : ∃ f, fuel = f + 1 := ⟨fuel - 1, by omega⟩
      have hwd := width_pos s pos hlt
      have hmx := decode_max s pos
      have hnx : ∀ ty, (Instr.next (.pointer (some ⟨w.heap.size, 0, none⟩)) true ty).run Tryd.prog wr = _ := fun ty => Lib.run_next_any_at wr w.heap.size s pos ty hi1 hlt
      have HI2 := Lib.hid (Lib.iterAt_heap wr w.heap.size s pos (pos + (Utf8.decode s pos).2) hi1)
      have HO2 := Lib.hid (BOwn_iter ho1 hi1 (pos + (Utf8.decode s pos).2))
      have HP2 := Lib.hid (PageAt_iter hp1 hi1 (pos + (Utf8.decode s pos).2))
      have HL2 := Lib.hid (Lib.below_iterAt (Below.refl w.heap.size wr) (Nat.le_refl _) s (pos + (Utf8.decode s pos).2))
      clear ho1 hi1 hp1 hs1 hw1 hc1
      obtain ⟨r, hr⟩ : ∃ r, r = (Utf8.decode s pos).1 := ⟨_, rfl⟩
      obtain ⟨d, hd⟩ : ∃ d, d = (Utf8.decode s pos).2 := ⟨_, rfl⟩
      rw [← hr, ← hd] at hnx
      rw [← hd] at HI2 HO2 HP2 HL2 hwd
      rw [← hr] at hmx
      generalize hW2 : wr.iterAt w.heap.size s (pos + d) = wi at *
      have hwf : (Lit.int .i32 (r : Int)).wf = true := by
        simp only [Lit.wf, show IntKind.i32.min = -2147483648 from rfl, show IntKind.i32.max = 2147483647 from rfl, Bool.and_eq_true, decide_eq_true_eq]
        omega
      have HR := Lib.hid hr
      have HD := Lib.hid hd
      have HNX := Lib.hid hnx
      clear hr hd
      by_cases hbad : r = 65533
      · cases hpf : Lib.hasPrefix (s.extract pos s.size).data.toList [239, 191, 189] with
        | false =>
          have HPF := Lib.hid hpf
          have hend := codesTo_bad (k := k) (f := f) (out := out) hlt (HR.out.symm.trans hbad) hpf
          rw [HC1.out] at hend
          have HE := Lib.hid hend
          subst hbad
          clear hpf hend
          go_wp2_with fail
          refine (Tryd.strings_HasPrefix _ _ _).mono ?_
          rintro e w' ⟨rfl, rfl⟩
          rw [show Lib.hasPrefix (s.extract pos s.size).data.toList (ByteArray.mk #[239, 191, 189]).data.toList = false from HPF.out]
          go_wp2_with fail
          go_ret3
          exact ⟨.inr ⟨out.length, 4, HE.out, rfl⟩, .inr ⟨b, rfl, hBb, HP2.out⟩, HS1.out.below_trans' HL2.out, HW1.out.trans (HL2.out.mono hB)⟩
        | true =>
          have HPF := Lib.hid hpf
          have hend := codesTo_none (k := k) (f := f) (out := out) hlt (fun h => by rw [hpf] at h; cases h.2) (by rw [← HR.out, hbad]; exact codeOf_bad HP2.out.1)
          rw [HC1.out] at hend
          have HE := Lib.hid hend
          have HCB := Lib.hid (codeOf_bad HP2.out.1)
          subst hbad
          clear hpf hend
          go_wp2_with fail
          refine (Tryd.strings_HasPrefix _ _ _).mono ?_
          rintro e w' ⟨rfl, rfl⟩
          rw [show Lib.hasPrefix (s.extract pos s.size).data.toList (ByteArray.mk #[239, 191, 189]).data.toList = true from HPF.out]
          go_wp2_with fail
          refine (code_any b k 65533 (by decide) _ HP2.out).mono ?_
          rintro e w3 ⟨rfl, hg, hp3⟩
          rw [HCB.out]
          have HG := Lib.hid hg
          have HP3 := Lib.hid hp3
          clear hg hp3
          go_wp2_with fail
          go_ret3
          exact ⟨.inr ⟨out.length, 12, HE.out, rfl⟩, .inr ⟨b, rfl, hBb, HP3.out⟩, (HS1.out.below_trans' HL2.out).trans (PgStep.of HG.out HP2.out HP3.out), below_gb (HW1.out.trans (HL2.out.mono hB)) HG.out hB hBb⟩
      · have hb1 : ((r : Int) == 65533) = false := beq_eq_false_iff_ne.2 (by omega)
        have hne : ¬ ((Utf8.decode s pos).1 = 65533 ∧ Lib.hasPrefix (s.extract pos s.size).data.toList [239, 191, 189] = false) := fun h => hbad (HR.out.trans h.1)
        cases hx : codeOf k r with
        | none =>
          have hend := codesTo_none (k := k) (f := f) (out := out) hlt hne (by rw [← HR.out]; exact hx)
          rw [HC1.out] at hend
          have HE := Lib.hid hend
          have HX := Lib.hid hx
          clear hx hend hne
          go_wp2_with fail
          refine (code_any b k r hwf _ HP2.out).mono ?_
          rintro e w3 ⟨rfl, hg, hp3⟩
          rw [HX.out]
          have HG := Lib.hid hg
          have HP3 := Lib.hid hp3
          clear hg hp3
          go_wp2_with fail
          go_ret3
          exact ⟨.inr ⟨out.length, 12, HE.out, rfl⟩, .inr ⟨b, rfl, hBb, HP3.out⟩, (HS1.out.below_trans' HL2.out).trans (PgStep.of HG.out HP2.out HP3.out), below_gb (HW1.out.trans (HL2.out.mono hB)) HG.out hB hBb⟩
        | some c =>
          have hend := codesTo_some (k := k) (f := f) (out := out) hlt hne (by rw [← HR.out]; exact hx)
          rw [HC1.out, ← HD.out] at hend
          have HE := Lib.hid hend
          have HX := Lib.hid hx
          have hc256 := (codeOf_some hx).1
          clear hx hend hne
          go_wp2_with fail
          refine (code_any b k r hwf _ HP2.out).mono ?_
          rintro e w3 ⟨rfl, hg, hp3⟩
          rw [HX.out]
          have HG := Lib.hid hg
          have HP3 := Lib.hid hp3
          have hS3 := PgStep.of hg HP2.out hp3
          have HS3 := Lib.hid ((HS1.out.below_trans' HL2.out).trans hS3)
          have HW3 := Lib.hid (below_gb (HW1.out.trans (HL2.out.mono hB)) hg hB hBb)
          have HO3 := Lib.hid (BOwn_step HO2.out hS3)
          have HI3 := Lib.hid (iter_step HI2.out hS3)
          clear hg hp3 hS3
          have hsz3 : w.heap.size ≤ w3.heap.size := HS3.out.size
          go_wp2_with (first | (at_builtin; go_loud (refine wpList_append_own _ rfl _ _ 27 rfl w.heap.size 5 i0 (.int .u8 0) 1 1 Tryd.underlying27 hi hz0 hz1 hz2 rfl (by decide) (.slice ao out.length cap) out.length (out.map bv) rfl (HO3.out.2.alloc _) ⟨w3.heap.size, 0, none⟩ 1 1 [bv c] rfl rfl (cell_one_new _ _ _) (by intro u hu; simp at hu; subst hu; rfl) (by unfold maxLen; omega) (by omega) (by simp; omega) ?_; intro v' w4 hown hgrow hnil)))
          go_wp2_with fail
          go_roundw
          case rel =>
            have hob := BOwn_block HO3.out
            have hL4 : Below w.heap.size w3 w4 := ((Below.refl w.heap.size w3).alloc hsz3 _).grown hgrow (by simp; omega) (fun j hj => (hob j hj).1)
            refine ⟨pos + d, f, out ++ [c], ⟨?_, by simpa using hown⟩, ?_, (HP3.out.alloc _).grown hgrow ?_ ?_, HS3.out.below_trans' hL4, HW3.out.trans (hL4.mono hB), HE.out.symm, by omega, by simp; omega⟩
            · intro n hn
              rcases List.mem_append.1 hn with hn | hn
              · exact HO3.out.1 n hn
              · simp at hn; omega
            · have hlt3 : w.heap.size < w3.heap.size := (Array.getElem?_eq_some_iff.1 HI3.out).1
              refine (hgrow.block w.heap.size (by simp; omega) ?_).trans ((Below.heap_alloc w3 _ w.heap.size hlt3).trans HI3.out)
              intro e
              obtain ⟨_, cs, hc⟩ := hob _ e.symm
              unfold Bk at hc
              rw [HI3.out] at hc
              cases hc
            · intro e
              obtain ⟨_, cs, hc⟩ := hob _ e.symm
              obtain ⟨cs', hc'⟩ := HP3.out.bk
              unfold Bk at hc hc'
              rw [hc] at hc'
              injection hc' with e
              injection e with _ e2
              exact absurd e2 (by decide)
            · intro g e es cl hh
              obtain ⟨_, cs, hc⟩ := hob _ e
              unfold Bk at hc
              have hlt3 : g < w3.heap.size := (Array.getElem?_eq_some_iff.1 hc).1
              rw [Below.heap_alloc w3 _ g hlt3, hc] at hh
              cases hh
          case measure =>
            have hob := BOwn_block HO3.out
            have hlt3 : w.heap.size < w3.heap.size := (Array.getElem?_eq_some_iff.1 HI3.out).1
            have hit : w4.heap[w.heap.size]? = some (.stringIter s (pos + d)) := by
              refine (hgrow.block w.heap.size (by simp; omega) ?_).trans ((Below.heap_alloc w3 _ w.heap.size hlt3).trans HI3.out)
              intro e
              obtain ⟨_, cs, hc⟩ := hob _ e.symm
              unfold Bk at hc
              rw [HI3.out] at hc
              cases hc
            simp only [World.iterPos, hit, HI1.out]
            omega
    · have hend := codesTo_end k s fuel pos out hlt
      rw [HC1.out] at hend
      have HE := Lib.hid hend
      have hnx : ∀ ty, (Instr.next (.pointer (some ⟨w.heap.size, 0, none⟩)) true ty).run Tryd.prog wr = _ := fun ty => Lib.run_next_end_at wr w.heap.size s pos ty hi1 hlt
      clear hend ho1 hi1 hp1 hs1 hw1 hc1
      go_wp2_with fail
      go_ret3
      exact ⟨.inl ⟨out, _, HE.out, rfl, HO1.out⟩, .inr ⟨b, rfl, hBb, HP1.out⟩, HS1.out, HW1.out⟩
end Go.Proofs.YtcibhchbgendaabDoor.Cl
