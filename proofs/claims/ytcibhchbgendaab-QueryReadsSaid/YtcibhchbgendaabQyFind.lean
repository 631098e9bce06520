/- The walks of query.find, at, Size and Number. -/
import Derived.Test.YtcibhchbgendaabQyParse
namespace Go.Proofs.Ytcibhchbgendaab.Qy
open Go Go.RowKit Go.Shelf Go.Proofs.Ytcibhchbgendaab.By Go.Proofs.Ytcibhchbgendaab.Rg Go.Proofs.Ytcibhchbgendaab.Sf

/-- how find ends -/
def FiEnd (o : Option (List Nat)) (n B : Nat) (e : Ending) (w' : World) : Prop :=
  ∃ v, e = .returned v ∧ ((v = .slice none 0 0 ∧ ∀ d, o = some d → d.length < n) ∨ ∃ d, o = some d ∧ n ≤ d.length ∧ v ≠ .slice none 0 0 ∧ BOwn B w' v d)

theorem find_step {xs : List El} {k : Nat} {x : El} {c : Nat} (hx : xs[k]? = some x) (hn : ∀ y ∈ xs.take k, ¬ (y.l.head? == some c) = true) (h : (x.l.head? == some c) = true) : (xs.map El.l).find? (fun d => d.head? == some c) = some x.l := by
  have e : xs = xs.take k ++ x :: xs.drop (k + 1) := by
    have hk' : k < xs.length := (List.getElem?_eq_some_iff.1 hx).1
    have h1 := List.drop_eq_getElem_cons hk'
    rw [(List.getElem?_eq_some_iff.1 hx).2] at h1
    rw [← h1, List.take_append_drop]
  rw [e, List.map_append, List.find?_append]
  have h2 : ((xs.take k).map El.l).find? (fun d => d.head? == some c) = none := by
    rw [List.find?_eq_none]
    intro d hd
    obtain ⟨y, hy, rfl⟩ := List.mem_map.1 hd
    exact hn y hy
  rw [h2, List.map_cons, List.find?_cons, h]
  rfl

set_option maxRecDepth 100000 in
set_option maxHeartbeats 8000000 in
theorem find_any (B : Nat) (v : Value) (l : List Nat) (w : World) (hw : BOwn B w v l) (h47 : l.length ≤ 100000) (c n : Nat) (hc : c < 256) :
    Calls Try.prog 62 #[v, .int .u8 c, .int .i64 n] w fun e w' => FiEnd (findOf l c) n w.heap.size e w' ∧ Below w.heap.size w w' := by
  obtain ⟨hne, hll, hen, hdl⟩ := replies_ne l
  obtain ⟨⟨rs, er⟩, hr⟩ : ∃ r, repliesOf l = r := ⟨_, rfl⟩
  have HP := Lib.hid (show findOf l c = rs.find? (fun d => d.head? == some c) by unfold findOf; rw [hr])
  have hra := replies_any B v l w hw h47
  rw [hr] at hne hll hra hdl
  have HRA := Lib.hid hra
  have HNE := Lib.hid hne
  have HDL := Lib.hid hdl
  change rs.length ≤ l.length at hll
  rw [HP.out]
  clear hw hr hra hne hen hdl
  go_enter Try.func62, Try.ntmps62
  go_wp2_with fail
  refine HRA.out.mono ?_
  rintro e w1 ⟨⟨v1, xs, rfl, hrow, hx⟩, hb⟩
  change xs.map El.l = rs at hx
  obtain ⟨a1, c1, rfl⟩ := row_form hrow.1
  have HROW := Lib.hid (show RRow w.heap.size w1 (.slice a1 xs.length c1) xs from hrow)
  have HB := Lib.hid hb
  have HX := Lib.hid hx
  obtain ⟨N, hN⟩ : ∃ N, N = xs.length := ⟨_, rfl⟩
  rw [← hN] at HROW ⊢
  have HN := Lib.hid hN
  have hN6 : N ≤ 100000 := by have h := congrArg List.length hx; rw [List.length_map] at h; omega
  clear hrow hb hx hN hll
  go_wp2_with fail
  go_loop [18] (fun i => ∃ k : Nat, k ≤ N ∧ i = .int .i64 k ∧ ∀ y ∈ xs.take k, ¬ (y.l.head? == some c) = true) (fun i => N - (intOf i).toNat)
  case atStart => exact ⟨0, by omega, rfl, by simp⟩
  case round =>
    obtain ⟨k, hk, rfl, hno⟩ := hrel
    have HNO := Lib.hid hno
    clear hno
    by_cases hlt : k < N
    · obtain ⟨x, hx⟩ : ∃ x, xs[k]? = some x := ⟨xs[k]'(by have := HN.out; omega), List.getElem?_eq_getElem _⟩
      obtain ⟨g, rfl⟩ := RRow_some HROW.out (by have := HN.out; omega)
      have hce := RRow_cell HROW.out hx
      have hxm := HROW.out.2 x (List.mem_of_getElem? hx)
      have hxr : x.l ∈ rs := by rw [← HX.out]; exact List.mem_map.2 ⟨x, List.mem_of_getElem? hx, rfl⟩
      have hxne : x.l ≠ [] := HNE.out x.l hxr
      have hxle : x.l.length ≤ l.length := HDL.out x.l hxr
      have HXK := Lib.hid hx
      obtain ⟨xi, xv, xl, xe⟩ := x
      change xl ≠ [] at hxne
      change xl.length ≤ _ at hxle
      obtain ⟨d0, dr, rfl⟩ : ∃ d0 dr, xl = d0 :: dr := by
        cases xl with
        | nil => exact absurd rfl hxne
        | cons a r => exact ⟨a, r, rfl⟩
      have hxm2 : BOwn w.heap.size w1 xv (d0 :: dr) := hxm.2
      obtain ⟨gd, cd, hxv, hcd⟩ := BOwn_at hxm2 (i := 0) (x := d0) rfl
      subst hxv
      obtain ⟨nd, hnd⟩ : ∃ nd, nd = (d0 :: dr).length := ⟨_, rfl⟩
      change w1.cell? _ = some (.slice (some ⟨gd, 0, none⟩) (d0 :: dr).length cd) at hce
      rw [← hnd] at hce hxm2 hxle
      have HXM := Lib.hid hxm2
      have HND := Lib.hid hnd
      have hnd0 : (0 : Int) < (nd : Int) := by rw [hnd, List.length_cons]; omega
      clear hxm hxm2 hx hxne hnd hxr
      by_cases hd : d0 = c
      · subst hd
        have hfi := find_step HXK.out HNO.out (c := d0) (by simp)
        rw [HX.out] at hfi
        change rs.find? _ = some (d0 :: dr) at hfi
        have HFI := Lib.hid hfi
        clear hfi
        by_cases hsz : nd < n
        · have hdec : decide ((nd : Int) < (n : Int)) = true := decide_eq_true (by omega)
          go_wp2_with fail
          go_ret
          exact ⟨⟨_, rfl, .inl ⟨rfl, fun d hd => by rw [HFI.out] at hd; injection hd with hd; subst hd; rw [← HND.out]; exact hsz⟩⟩, HB.out⟩
        · have hdec : decide ((nd : Int) < (n : Int)) = false := decide_eq_false (by omega)
          go_wp2_with fail
          go_ret
          exact ⟨⟨_, rfl, .inr ⟨_, HFI.out, by rw [← HND.out]; omega, by simp, HXM.out⟩⟩, HB.out⟩
      · have hdq : ((d0 : Int) == (c : Int)) = false := beq_eq_false_iff_ne.2 (by omega)
        have HDD := Lib.hid hd
        clear hd
        go_wp2_with fail
        go_round
        case rel =>
          refine ⟨k + 1, by omega, by go_num, fun y hy => ?_⟩
          rw [List.take_add_one, HXK.out] at hy
          rcases List.mem_append.1 hy with hy | hy
          · exact HNO.out y hy
          · simp at hy
            subst hy
            simpa using HDD.out
        case measure => simp [intOf]; omega
    · obtain rfl : k = N := by omega
      have hfi : rs.find? (fun d => d.head? == some c) = none := by
        rw [List.find?_eq_none, ← HX.out]
        intro d hd
        obtain ⟨y, hy, rfl⟩ := List.mem_map.1 hd
        have h := HNO.out y
        rw [List.take_of_length_le (by have := HN.out; omega)] at h
        exact h hy
      have HFI := Lib.hid hfi
      clear hfi
      go_wp2_with fail
      go_ret
      exact ⟨⟨_, rfl, .inl ⟨rfl, fun d hd => by rw [HFI.out] at hd; cases hd⟩⟩, HB.out⟩

set_option maxRecDepth 100000 in
set_option maxHeartbeats 8000000 in
theorem at_any (B : Nat) (v : Value) (d : List Nat) (i : Nat) (w : World) (hv : BOwn B w v d) (hi : i + 1 < d.length) (hi1 : i ≤ 100) :
    Calls Try.prog 63 #[v, .int .i64 i] w fun e w' => e = .returned (.int .i64 ((256 * d.getD i 0 + d.getD (i + 1) 0 : Nat) : Int)) ∧ ∃ n, w' = w.drewN n := by
  obtain ⟨x0, h0⟩ : ∃ x, d[i]? = some x := ⟨d[i], List.getElem?_eq_getElem _⟩
  obtain ⟨x1, h1⟩ : ∃ x, d[i + 1]? = some x := ⟨d[i + 1], List.getElem?_eq_getElem _⟩
  have e0 : d.getD i 0 = x0 := by rw [List.getD_eq_getElem?_getD, h0]; rfl
  have e1 : d.getD (i + 1) 0 = x1 := by rw [List.getD_eq_getElem?_getD, h1]; rfl
  rw [e0, e1]
  obtain ⟨g, cap, rfl, c0⟩ := BOwn_at hv h0
  have c1 := BOwn_cell hv h1
  have b0 : x0 < 256 := hv.1 x0 (List.mem_of_getElem? h0)
  have b1 : x1 < 256 := hv.1 x1 (List.mem_of_getElem? h1)
  obtain ⟨n, hn⟩ : ∃ n, n = d.length := ⟨_, rfl⟩
  rw [← hn] at hi ⊢
  have hor : bits .or .i64 ((x0 : Int) * 256) (x1 : Int) = ((256 * x0 + x1 : Nat) : Int) := or_word x0 x1 b0 b1
  obtain ⟨r, hr⟩ : ∃ r : Nat, 256 * x0 + x1 = r := ⟨_, rfl⟩
  rw [hr] at hor ⊢
  have hi0 : (0 : Int) ≤ (i : Int) := by omega
  have hin : (i : Int) < (n : Int) := by omega
  have hin1 : (i : Int) + 1 < (n : Int) := by omega
  have hz := cell_lt c0
  clear hv h0 h1 e0 e1 hn hr
  go_enter Try.func63, Try.ntmps63
  go_wp2_with fail
  go_quiet (fail)
  go_wp2_with fail
  go_ret
  exact ⟨rfl, _, rfl⟩

/-- a number in two bytes -/
def at2 (d : List Nat) (i : Nat) : Nat := 256 * d.getD i 0 + d.getD (i + 1) 0
/-- how Size ends -/
def SzEnd (o : Option (List Nat)) (e : Ending) : Prop :=
  (∃ d, o = some d ∧ 7 ≤ d.length ∧ e = .returned (.tuple #[.int .i64 (at2 d 5 : Nat), .int .i64 (at2 d 3 : Nat), .bool true])) ∨
  ((∀ d, o = some d → d.length < 7) ∧ e = .returned (.tuple #[.int .i64 0, .int .i64 0, .bool false]))
/-- how Number ends -/
def NmEnd (o : Option (List Nat)) (e : Ending) : Prop :=
  (∃ d, o = some d ∧ 15 ≤ d.length ∧ e = .returned (.tuple #[.int .i64 (at2 d 13 : Nat), .bool true])) ∨
  ((∀ d, o = some d → d.length < 15) ∧ e = .returned (.tuple #[.int .i64 0, .bool false]))

theorem nil_nil : ∀ w : World, (binOp .eql 22 (.slice none 0 0) (.slice none 0 0)).run Try.prog w = .ok (.bool true) w := fun w => by kernel_rfl
theorem some_nil (g n c : Nat) : ∀ w : World, (binOp .eql 22 (.slice (some ⟨g, 0, none⟩) n c) (.slice none 0 0)).run Try.prog w = .ok (.bool false) w := fun w => by kernel_rfl
theorem own_some' {B : Nat} {w : World} {v : Value} {l : List Nat} (h : BOwn B w v l) (hn : v ≠ .slice none 0 0) : ∃ g c, v = .slice (some ⟨g, 0, none⟩) l.length c := by
  obtain ⟨_, _, h1 | ⟨g, cap, cur, h1, _⟩⟩ := h
  · exact absurd h1.1 hn
  · exact ⟨g, cap, h1⟩

set_option maxRecDepth 100000 in
set_option maxHeartbeats 8000000 in
theorem size_any (B : Nat) (v : Value) (l : List Nat) (w : World) (hw : BOwn B w v l) (h47 : l.length ≤ 100000) :
    Calls Try.prog 34 #[v] w fun e w' => SzEnd (findOf l 129) e ∧ Below w.heap.size w w' := by
  have HF := Lib.hid (find_any B v l w hw h47 129 7 (by decide))
  obtain ⟨o, ho⟩ : ∃ o, findOf l 129 = o := ⟨_, rfl⟩
  rw [ho] at HF ⊢
  clear hw h47 ho
  go_enter Try.func34, Try.ntmps34
  go_wp2_with fail
  refine HF.out.mono ?_
  rintro e w1 ⟨⟨v1, rfl, hv⟩, hb⟩
  have HB := Lib.hid hb
  clear hb
  rcases hv with ⟨rfl, hno⟩ | ⟨d, rfl, hd, hne, hown⟩
  · have hn := nil_nil
    have HNO := Lib.hid hno
    clear hno
    go_wp2_with fail
    exact bodyPost_ret (v := .tuple #[.int .i64 0, .int .i64 0, .bool false]) (by simp [results, Try.results34, go_sem]) rfl ⟨.inr ⟨HNO.out, rfl⟩, HB.out⟩
  · obtain ⟨g, c, rfl⟩ := own_some' hown hne
    have hn := some_nil g d.length c
    have HO := Lib.hid hown
    have HD := Lib.hid hd
    obtain ⟨r5, hr5⟩ : ∃ r, at2 d 5 = r := ⟨_, rfl⟩
    have HA := Lib.hid (fun (W : World) (h : BOwn w.heap.size W (.slice (some ⟨g, 0, none⟩) d.length c) d) => show Calls Try.prog 63 #[.slice (some ⟨g, 0, none⟩) d.length c, .int .i64 5] W (fun e w' => e = .returned (.int .i64 (r5 : Int)) ∧ ∃ n, w' = W.drewN n) by rw [← hr5]; exact at_any _ _ d 5 W h (by omega) (by decide))
    have HR5 := Lib.hid hr5
    clear hr5
    obtain ⟨r3, hr3⟩ : ∃ r, at2 d 3 = r := ⟨_, rfl⟩
    have HA3 := Lib.hid (fun (W : World) (h : BOwn w.heap.size W (.slice (some ⟨g, 0, none⟩) d.length c) d) => show Calls Try.prog 63 #[.slice (some ⟨g, 0, none⟩) d.length c, .int .i64 3] W (fun e w' => e = .returned (.int .i64 (r3 : Int)) ∧ ∃ n, w' = W.drewN n) by rw [← hr3]; exact at_any _ _ d 3 W h (by omega) (by decide))
    have HR3 := Lib.hid hr3
    clear hr3
    clear hown hne hd
    go_wp2_with fail
    refine (HA.out _ HO.out).mono ?_
    rintro e w2 ⟨rfl, n2, rfl⟩
    go_wp2_with fail
    refine (HA3.out (w1.drewN n2) (show BOwn w.heap.size (w1.drewN n2) _ d from HO.out)).mono ?_
    rintro e w3 ⟨rfl, n3, rfl⟩
    go_wp2_with fail
    exact bodyPost_ret (v := .tuple #[.int .i64 (r5 : Int), .int .i64 (r3 : Int), .bool true]) (by simp [results, Try.results34, go_sem]) rfl ⟨.inl ⟨d, rfl, HD.out, by rw [HR5.out, HR3.out]⟩, bl_drewN HB.out _⟩

set_option maxRecDepth 100000 in
set_option maxHeartbeats 8000000 in
theorem pageno_any (B : Nat) (v : Value) (l : List Nat) (w : World) (hw : BOwn B w v l) (h47 : l.length ≤ 100000) :
    Calls Try.prog 35 #[v] w fun e w' => NmEnd (findOf l 133) e ∧ Below w.heap.size w w' := by
  have HF := Lib.hid (find_any B v l w hw h47 133 15 (by decide))
  obtain ⟨o, ho⟩ : ∃ o, findOf l 133 = o := ⟨_, rfl⟩
  rw [ho] at HF ⊢
  clear hw h47 ho
  go_enter Try.func35, Try.ntmps35
  go_wp2_with fail
  refine HF.out.mono ?_
  rintro e w1 ⟨⟨v1, rfl, hv⟩, hb⟩
  have HB := Lib.hid hb
  clear hb
  rcases hv with ⟨rfl, hno⟩ | ⟨d, rfl, hd, hne, hown⟩
  · have hn := nil_nil
    have HNO := Lib.hid hno
    clear hno
    go_wp2_with fail
    exact bodyPost_ret (v := .tuple #[.int .i64 0, .bool false]) (by simp [results, Try.results35, go_sem]) rfl ⟨.inr ⟨HNO.out, rfl⟩, HB.out⟩
  · obtain ⟨g, c, rfl⟩ := own_some' hown hne
    have hn := some_nil g d.length c
    have HO := Lib.hid hown
    have HD := Lib.hid hd
    obtain ⟨r13, hr13⟩ : ∃ r, at2 d 13 = r := ⟨_, rfl⟩
    have HA := Lib.hid (fun (W : World) (h : BOwn w.heap.size W (.slice (some ⟨g, 0, none⟩) d.length c) d) => show Calls Try.prog 63 #[.slice (some ⟨g, 0, none⟩) d.length c, .int .i64 13] W (fun e w' => e = .returned (.int .i64 (r13 : Int)) ∧ ∃ n, w' = W.drewN n) by rw [← hr13]; exact at_any _ _ d 13 W h (by omega) (by decide))
    have HR13 := Lib.hid hr13
    clear hr13
    clear hown hne hd
    go_wp2_with fail
    refine (HA.out _ HO.out).mono ?_
    rintro e w2 ⟨rfl, n2, rfl⟩
    go_wp2_with fail
    exact bodyPost_ret (v := .tuple #[.int .i64 (r13 : Int), .bool true]) (by simp [results, Try.results35, go_sem]) rfl ⟨.inl ⟨d, rfl, HD.out, by rw [HR13.out]⟩, bl_drewN HB.out _⟩
end Go.Proofs.Ytcibhchbgendaab.Qy
