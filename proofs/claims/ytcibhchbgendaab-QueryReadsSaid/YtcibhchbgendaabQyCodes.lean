/- The walks of vitrineref22.unhex at the codes, Codes, query.Name and vitrineref22.Name, vitrineref04.Model. -/
import Derived.Test.YtcibhchbgendaabQyCat
import Derived.Test.YtcibhchbgendaabRfNum
import Derived.Lib.Strings
namespace Go.Proofs.Ytcibhchbgendaab.Qy
open Go Go.RowKit Go.Proofs.Ytcibhchbgendaab.By Go.Proofs.Ytcibhchbgendaab.Sf Go.Proofs.Ytcibhchbgendaab.Rf

/-- how a call ends that tells the codes -/
def OwnB7 (B : Nat) (e : Ending) (w' : World) : Prop := ∃ p c, e = .returned (.slice p 7 c) ∧ BOwn B w' (.slice p 7 c) codes7
def codesS : ByteArray := ⟨#[56, 48, 56, 49, 56, 53, 56, 54, 56, 55, 56, 56, 97, 54]⟩
theorem code_nums : (List.range 7).map (fun k => num ((codesS.data.toList.drop (2 * k)).take 2) 0) = codes7.map Int.ofNat := by decide +kernel
theorem code_num (k : Nat) (hk : k < 7) : num (codesS.extract (2 * k) (2 * k + 2)).data.toList 0 = ((codes7.getD k 0 : Nat) : Int) := by
  have h := congrArg (fun l : List Int => l[k]?) code_nums
  simp only [List.getElem?_map, List.getElem?_range hk, Option.map_some] at h
  have hl : k < codes7.length := hk
  rw [List.getElem?_eq_getElem hl] at h
  have e : (codesS.extract (2 * k) (2 * k + 2)).data.toList = (codesS.data.toList.drop (2 * k)).take 2 := by
    rw [ByteArray.data_extract, Array.toList_extract, List.extract, show 2 * k + 2 - 2 * k = 2 by omega]
  rw [e, List.getD_eq_getElem?_getD, List.getElem?_eq_getElem hl]
  simpa using h
theorem code_step (k : Nat) (hk : k < 7) : codes7.take (k + 1) = codes7.take k ++ [codes7.getD k 0] ∧ codes7.getD k 0 < 256 := by
  have h : ∀ k, k < 7 → codes7.take (k + 1) = codes7.take k ++ [codes7.getD k 0] ∧ codes7.getD k 0 < 256 := by decide
  exact h k hk

set_option maxHeartbeats 4000000 in
set_option maxRecDepth 100000 in
theorem unhex_any (S : ByteArray) (hS : S = codesS) (w : World) : Calls Try.prog 64 #[.string S] w fun e w' => OwnB7 w.heap.size e w' ∧ Below w.heap.size w w' := by
  have hz : S.size = 14 := by rw [hS]; rfl
  have HS := Lib.hid hS
  clear hS
  go_enter Try.func64, Try.ntmps64
  go_wp2_with fail
  go_loopw [3, 4] (fun vo i wr => ∃ k : Nat, k ≤ 7 ∧ i = .int .i64 ((2 * k : Nat) : Int) ∧ BOwn w.heap.size wr vo (codes7.take k) ∧ Below w.heap.size w wr) (fun _ i _ => 20 - (intOf i).toNat)
  case atStart => exact ⟨0, by omega, rfl, BOwn_nil, Below.refl _ _⟩
  case round =>
    obtain ⟨k, hk, rfl, hv, hb⟩ := hrel
    have hl : (codes7.take k).length = k := by rw [List.length_take]; simp [codes7]; omega
    obtain ⟨av, cv, rfl⟩ := BOwn_form hv
    obtain ⟨pl, hpl⟩ : ∃ pl, codes7.take k = pl := ⟨_, rfl⟩
    rw [hpl] at hv hl ⊢
    rw [hl] at hv ⊢
    have HPL := Lib.hid hpl
    have HV := Lib.hid hv
    have HB := Lib.hid hb
    have HL := Lib.hid hl
    have hsz := hb.size
    obtain ⟨i2, hi2⟩ : ∃ i2, i2 = 2 * k := ⟨_, rfl⟩
    rw [← hi2]
    have HI := Lib.hid hi2
    clear hv hb hl hpl
    by_cases hlt : k < 7
    · have hd : decide ((i2 : Int) < 14) = true := decide_eq_true (by omega)
      have hi14 : i2 + 2 ≤ 14 := by omega
      obtain ⟨x, hx⟩ : ∃ x, codes7.getD k 0 = x := ⟨_, rfl⟩
      obtain ⟨P, hP⟩ : ∃ P, S.extract i2 (i2 + 2) = P := ⟨_, rfl⟩
      have hnum : num P.data.toList 0 = (x : Int) := by rw [← hP, HS.out, hi2, ← hx]; exact code_num k hlt
      have hps : P.size ≤ maxLen := by
        have : P.size ≤ S.size := by rw [← hP, ByteArray.size_extract]; omega
        unfold maxLen
        omega
      obtain ⟨hst, hx8⟩ := code_step k hlt
      rw [hx] at hst hx8
      rw [HPL.out] at hst
      have hsl : ∀ w : World, (Instr.slice 9 (.string S) (some (.int .i64 (i2 : Int))) (some (.int .i64 ((i2 : Int) + 2))) none).run Try.prog w = .ok (.string P) w := by
        intro w
        have := run_slice_string (P := Try.prog) w 9 S .i64 .i64 (i2 : Int) ((i2 : Int) + 2) Try.underlying9 (by omega) (by omega) (by omega)
        rw [this]
        have e1 : ((i2 : Int)).toNat = i2 := by omega
        have e2 : ((i2 : Int) + 2).toNat = i2 + 2 := by omega
        rw [e1, e2, hP]
      have HSL := Lib.hid hsl
      have HNUM := Lib.hid hnum
      have HPS := Lib.hid hps
      have HST := Lib.hid hst
      have HLIT := Lib.hid (own_lit wr [x] (by simp) (by intro n hn; simp at hn; omega))
      have HO := Lib.hid (HV.out.below ((Below.refl wr.heap.size wr).alloc (Nat.le_refl _) (.cells ([x].map bv).toArray 5)) (Nat.le_refl _))
      have HSUM := Lib.hid (show pl.length + ([x] : List Nat).length ≤ 1000000 by rw [HL.out]; simp; omega)
      have hs := HSL.out
      have hxm : (x : Int) % 256 = x := by omega
      clear hi2 hx hP hnum hps hst hsl hlt hk
      go_wp2_with (first | (go_at_call 57; refine (num_any P HPS.out _).mono ?_; rintro e w1 ⟨rfl, rfl⟩; rw [HNUM.out]) | (at_builtin; refine wpList_append_brow rfl _ _ rfl w.heap.size _ pl rfl HO.out _ [x] rfl HLIT.out.row (by simp; omega) HSUM.out ?_; intro p5 c5 w5 hbo hgrow) | fail)
      have hb5 : Below w.heap.size w w5 := (HB.out.alloc hsz _).grown hgrow (by simp; omega) (fun j hj => (HV.out.2.lt j hj).1)
      refine ⟨⟨k + 1, by have := HI.out; omega, congrArg (Value.int .i64) (by have := HI.out; omega), ?_, hb5⟩, by have := HI.out; simp [intOf]; omega⟩
      have h := hbo
      rw [List.length_append, ← HST.out] at h
      exact h
    · obtain rfl : k = 7 := by omega
      have hd : decide ((i2 : Int) < 14) = false := decide_eq_false (by omega)
      have hp7 : pl = codes7 := HPL.out.symm
      subst hp7
      clear hi2
      go_wp2_with fail
      go_ret
      exact ⟨⟨av, cv, rfl, HV.out⟩, HB.out⟩

set_option maxHeartbeats 4000000 in
set_option maxRecDepth 100000 in
theorem rcodes_any (w : World) : Calls Try.prog 36 #[] w fun e w' => OwnB7 w.heap.size e w' ∧ Below w.heap.size w w' := by
  have HU := Lib.hid (fun (S : ByteArray) (hS : S = codesS) => unhex_any S hS w)
  go_enter Try.func36, Try.ntmps36
  go_wp2_with fail
  refine (HU.out _ rfl).mono ?_
  rintro e w1 ⟨⟨p, c, rfl, ho⟩, hb⟩
  have HO := Lib.hid ho
  have HB := Lib.hid hb
  clear ho hb
  go_wp2_with fail
  go_ret
  exact ⟨⟨p, c, rfl, HO.out⟩, HB.out⟩

def qn0 : ByteArray := ⟨#[83, 117, 109, 109, 97, 114, 121]⟩
def qn1 : ByteArray := ⟨#[85, 115, 97, 98, 108, 101, 65, 114, 101, 97]⟩
def qn2 : ByteArray := ⟨#[67, 104, 97, 114, 97, 99, 116, 101, 114, 83, 101, 116, 115]⟩
def qn3 : ByteArray := ⟨#[67, 111, 108, 111, 114]⟩
def qn4 : ByteArray := ⟨#[72, 105, 103, 104, 108, 105, 103, 104, 116, 105, 110, 103]⟩
def qn5 : ByteArray := ⟨#[82, 101, 112, 108, 121, 77, 111, 100, 101, 115]⟩
def qn6 : ByteArray := ⟨#[73, 109, 112, 108, 105, 99, 105, 116, 80, 97, 114, 116, 105, 116, 105, 111, 110]⟩
def qn7 : ByteArray := ⟨#[78, 117, 108, 108]⟩
def codes8 : List Nat := [128, 129, 133, 134, 135, 136, 166, 255]
/-- the name of a code -/
def nameQ (c : Nat) : ByteArray := if c = 128 then qn0 else if c = 129 then qn1 else if c = 133 then qn2 else if c = 134 then qn3 else if c = 135 then qn4 else if c = 136 then qn5 else if c = 166 then qn6 else if c = 255 then qn7 else ⟨#[]⟩

set_option maxHeartbeats 4000000 in
set_option maxRecDepth 100000 in
theorem qname_any (c : Nat) (w : World) : Calls Try.prog 40 #[.int .u8 c] w fun e w' => e = .returned (.string (nameQ c)) ∧ w' = w := by
  by_cases h128 : c = 128
  · subst h128
    go_enter Try.func40, Try.ntmps40
    go_wp2
    go_ret
    exact ⟨rfl, rfl⟩
  have q128 : ((c : Int) == 128) = false := beq_eq_false_iff_ne.2 (by omega)
  by_cases h129 : c = 129
  · subst h129
    go_enter Try.func40, Try.ntmps40
    go_wp2
    go_ret
    exact ⟨rfl, rfl⟩
  have q129 : ((c : Int) == 129) = false := beq_eq_false_iff_ne.2 (by omega)
  by_cases h133 : c = 133
  · subst h133
    go_enter Try.func40, Try.ntmps40
    go_wp2
    go_ret
    exact ⟨rfl, rfl⟩
  have q133 : ((c : Int) == 133) = false := beq_eq_false_iff_ne.2 (by omega)
  by_cases h134 : c = 134
  · subst h134
    go_enter Try.func40, Try.ntmps40
    go_wp2
    go_ret
    exact ⟨rfl, rfl⟩
  have q134 : ((c : Int) == 134) = false := beq_eq_false_iff_ne.2 (by omega)
  by_cases h135 : c = 135
  · subst h135
    go_enter Try.func40, Try.ntmps40
    go_wp2
    go_ret
    exact ⟨rfl, rfl⟩
  have q135 : ((c : Int) == 135) = false := beq_eq_false_iff_ne.2 (by omega)
  by_cases h136 : c = 136
  · subst h136
    go_enter Try.func40, Try.ntmps40
    go_wp2
    go_ret
    exact ⟨rfl, rfl⟩
  have q136 : ((c : Int) == 136) = false := beq_eq_false_iff_ne.2 (by omega)
  by_cases h166 : c = 166
  · subst h166
    go_enter Try.func40, Try.ntmps40
    go_wp2
    go_ret
    exact ⟨rfl, rfl⟩
  have q166 : ((c : Int) == 166) = false := beq_eq_false_iff_ne.2 (by omega)
  by_cases h255 : c = 255
  · subst h255
    go_enter Try.func40, Try.ntmps40
    go_wp2
    go_ret
    exact ⟨rfl, rfl⟩
  have q255 : ((c : Int) == 255) = false := beq_eq_false_iff_ne.2 (by omega)
  have HN := Lib.hid (show nameQ c = ⟨#[]⟩ by unfold nameQ; rw [if_neg h128, if_neg h129, if_neg h133, if_neg h134, if_neg h135, if_neg h136, if_neg h166, if_neg h255])
  clear h128 h129 h133 h134 h135 h136 h166 h255
  go_enter Try.func40, Try.ntmps40
  go_wp2
  go_ret
  exact ⟨by rw [HN.out]; rfl, rfl⟩

theorem name_at (k c : Nat) (hk : k < 8) (h : codes8[k]? = some c) : ([.string qn0, .string qn1, .string qn2, .string qn3, .string qn4, .string qn5, .string qn6, .string qn7] : List Value)[k]? = some (.string (nameQ c)) := by
  have h8 : k = 0 ∨ k = 1 ∨ k = 2 ∨ k = 3 ∨ k = 4 ∨ k = 5 ∨ k = 6 ∨ k = 7 := by omega
  rcases h8 with rfl | rfl | rfl | rfl | rfl | rfl | rfl | rfl <;> (simp [codes8] at h; subst h; rfl)
theorem name_not (c : Nat) (h : ∀ j, j < 8 → codes8.getD j 0 ≠ c) : nameQ c = ⟨#[]⟩ := by
  have h128 : c ≠ 128 := fun e => h 0 (by decide) e.symm
  have h129 : c ≠ 129 := fun e => h 1 (by decide) e.symm
  have h133 : c ≠ 133 := fun e => h 2 (by decide) e.symm
  have h134 : c ≠ 134 := fun e => h 3 (by decide) e.symm
  have h135 : c ≠ 135 := fun e => h 4 (by decide) e.symm
  have h136 : c ≠ 136 := fun e => h 5 (by decide) e.symm
  have h166 : c ≠ 166 := fun e => h 6 (by decide) e.symm
  have h255 : c ≠ 255 := fun e => h 7 (by decide) e.symm
  unfold nameQ
  rw [if_neg h128, if_neg h129, if_neg h133, if_neg h134, if_neg h135, if_neg h136, if_neg h166, if_neg h255]

set_option maxHeartbeats 4000000 in
set_option maxRecDepth 100000 in
theorem rqname_any (c : Nat) (hc : c < 256) (w : World) : Calls Try.prog 41 #[.int .u8 c] w fun e w' => e = .returned (.string (nameQ c)) ∧ Below w.heap.size w w' := by
  have HL := Lib.hid (Bk.new w 9 #[.string qn0, .string qn1, .string qn2, .string qn3, .string qn4, .string qn5, .string qn6, .string qn7])
  have HB0 := Lib.hid ((Below.refl w.heap.size w).alloc (Nat.le_refl _) (.cells #[.string qn0, .string qn1, .string qn2, .string qn3, .string qn4, .string qn5, .string qn6, .string qn7] 9))
  go_enter Try.func41, Try.ntmps41
  go_wp2_with fail
  refine (rcodes_any _).mono ?_
  rintro e w1 ⟨⟨p, cp, rfl, ho⟩, hb⟩
  have HL1 := Lib.hid (HL.out.below hb (by simp))
  have HB1 := Lib.hid (HB0.out.trans (hb.mono (by simp)))
  have HLIT := Lib.hid (own_lit w1 [255] (by decide) (by decide))
  have HO := Lib.hid ((ho.lower (C := w.heap.size + 1) (by simp)).below ((Below.refl w1.heap.size w1).alloc (Nat.le_refl _) (.cells ([255].map bv).toArray 5)) (Nat.le_refl _))
  have hs1 : w.heap.size + 1 ≤ w1.heap.size := by have := hb.size; simp at this; omega
  have HL8 := Lib.hid (show codes7 ++ [255] = codes8 from rfl)
  have HL8N := Lib.hid (show codes8.length = 8 from rfl)
  clear ho hb
  go_wp2_with (first | (at_builtin; refine wpList_append_brow rfl _ _ rfl (w.heap.size + 1) _ codes7 rfl HO.out _ [255] rfl HLIT.out.row (by simp; omega) (by decide) ?_; intro p5 c5 w5 hbo hgrow; rw [HL8.out, HL8N.out] at hbo ⊢) | fail)
  have hb5 : Below (w.heap.size + 1) w1 w5 := ((Below.refl _ w1).alloc hs1 _).grown hgrow (by simp; omega) (fun j hj => (HO.out.2.lt j hj).1)
  have HL5 := Lib.hid (HL1.out.below hb5 (by omega))
  have HB5 := Lib.hid (HB1.out.trans (hb5.mono (by omega)))
  have HC5 := Lib.hid (show BOwn (w.heap.size + 1) w5 (.slice p5 8 c5) codes8 from hbo)
  clear hbo hgrow hb5
  go_loop [11] (fun i => ∃ k : Nat, k ≤ 8 ∧ i = .int .i64 k ∧ ∀ j, j < k → codes8.getD j 0 ≠ c) (fun i => 8 - (intOf i).toNat)
  case atStart => exact ⟨0, by omega, rfl, fun j hj => by omega⟩
  case round =>
    obtain ⟨k, hk, rfl, hno⟩ := hrel
    have HNO := Lib.hid hno
    clear hno
    by_cases hlt : k < 8
    · obtain ⟨x, hx⟩ : ∃ x, codes8[k]? = some x := ⟨codes8[k]'hlt, List.getElem?_eq_getElem _⟩
      obtain ⟨g, cg, hp5, hcx⟩ := BOwn_at HC5.out hx
      injection hp5 with hp5 _ _
      subst hp5
      have HX := Lib.hid (show codes8.getD k 0 = x by rw [List.getD_eq_getElem?_getD, hx]; rfl)
      by_cases he : x = c
      · subst he
        have hstr := HL5.out.cellv (i := k) (v := .string (nameQ x)) (by
          have := name_at k x hlt hx
          simpa using this)
        clear hx
        go_wp2_with fail
        go_ret
        exact ⟨rfl, HB5.out⟩
      · have hq : ((x : Int) == (c : Int)) = false := beq_eq_false_iff_ne.2 (by omega)
        have HE := Lib.hid he
        clear hx he
        go_wp2_with fail
        go_round
        case rel =>
          refine ⟨k + 1, by omega, by go_num, fun j hj => ?_⟩
          by_cases e : j = k
          · subst e; rw [HX.out]; exact HE.out
          · exact HNO.out j (by omega)
        case measure => simp [intOf]; omega
    · obtain rfl : k = 8 := by omega
      have HN := Lib.hid (name_not c HNO.out)
      go_wp2_with fail
      go_ret
      exact ⟨by rw [HN.out]; rfl, HB5.out⟩

set_option maxHeartbeats 4000000 in
set_option maxRecDepth 100000 in
theorem rmodel_any (m : Nat) (hm : m = 2 ∨ m = 3 ∨ m = 4 ∨ m = 5) (w : World) : Calls Try.prog 31 #[.int .i64 m] w fun e w' => e = .returned (.tuple #[.agg #[.int .i64 (rowsOf m : Nat), .int .i64 (colsOf m : Nat)], .bool true]) ∧ Below w.heap.size w w' := by
  rcases hm with rfl | rfl | rfl | rfl
  · go_enter Try.func31, Try.ntmps31
    go_wp2
    exact bodyPost_ret (v := .tuple #[.agg #[.int .i64 24, .int .i64 80], .bool true]) (by simp [results, Try.results31, go_sem]) rfl ⟨rfl, ((Below.refl _ _).alloc (Nat.le_refl _) _).alloc (by simp) _⟩
  · go_enter Try.func31, Try.ntmps31
    go_wp2
    exact bodyPost_ret (v := .tuple #[.agg #[.int .i64 32, .int .i64 80], .bool true]) (by simp [results, Try.results31, go_sem]) rfl ⟨rfl, ((Below.refl _ _).alloc (Nat.le_refl _) _).alloc (by simp) _⟩
  · go_enter Try.func31, Try.ntmps31
    go_wp2
    exact bodyPost_ret (v := .tuple #[.agg #[.int .i64 43, .int .i64 80], .bool true]) (by simp [results, Try.results31, go_sem]) rfl ⟨rfl, ((Below.refl _ _).alloc (Nat.le_refl _) _).alloc (by simp) _⟩
  · go_enter Try.func31, Try.ntmps31
    go_wp2
    exact bodyPost_ret (v := .tuple #[.agg #[.int .i64 27, .int .i64 132], .bool true]) (by simp [results, Try.results31, go_sem]) rfl ⟨rfl, ((Below.refl _ _).alloc (Nat.le_refl _) _).alloc (by simp) _⟩
end Go.Proofs.Ytcibhchbgendaab.Qy
