/- The walk of vitrinelaw21.same: are two lists of fields alike. -/
import Derived.Test.YtcibhchbgendaaaDoorSfFields
import Derived.Test.YtcibhchbgendaaaDoorBySame
import Derived.Deep.QuietTactic
import Derived.BigQuiet
namespace Go.Proofs.YtcibhchbgendaaaDoor.Sf
open Go Go.RowKit Go.Proofs.YtcibhchbgendaaaDoor.By

theorem flat_at {α : Type} (c : α → List Value) (n : Nat) (hc : ∀ x, (c x).length = n) : ∀ (xs : List α) (i j : Nat) (x : α), xs[i]? = some x → j < n → (xs.flatMap c)[i * n + j]? = (c x)[j]?
  | [], i, j, x, h, _ => by simp at h
  | y :: xs, 0, j, x, h, hj => by
    simp at h
    subst h
    rw [List.flatMap_cons, Nat.zero_mul, Nat.zero_add, List.getElem?_append_left (by rw [hc]; exact hj)]
  | y :: xs, i + 1, j, x, h, hj => by
    rw [List.getElem?_cons_succ] at h
    rw [List.flatMap_cons, List.getElem?_append_right (by rw [hc, Nat.add_mul]; omega), hc]
    have e : (i + 1) * n + j - n = i * n + j := by rw [Nat.add_mul]; omega
    rw [e]
    exact flat_at c n hc xs i j x h hj
theorem FRow_cells {t : TypeId} {B : Nat} {W : World} {g n cap : Nat} {xs : List El} (h : FRow t B W (.slice (some ⟨g, 0, none⟩) n cap) xs) {i : Nat} {x : El} (hi : xs[i]? = some x) :
    W.cell? ⟨g, i * 2, none⟩ = some (.int .u8 (x.id : Int)) ∧ W.cell? ⟨g, i * 2 + 1, none⟩ = some x.v := by
  have hlt := (List.getElem?_eq_some_iff.1 hi).1
  obtain ⟨hr, _⟩ := h
  have hn : n = xs.length := by
    obtain ⟨a, c, e⟩ := row_form hr
    injection e
  subst hn
  refine ⟨?_, ?_⟩
  · rw [hr.cellAt (i * 2) (by omega)]
    have := flat_at El.cells 2 (fun _ => rfl) xs i 0 x hi (by decide)
    rw [Nat.add_zero] at this
    exact this
  · rw [hr.cellAt (i * 2 + 1) (by omega)]
    exact flat_at El.cells 2 (fun _ => rfl) xs i 1 x hi (by decide)
theorem FRow_form {t : TypeId} {B : Nat} {W : World} {v : Value} {xs : List El} (h : FRow t B W v xs) : (v = .slice none 0 0 ∧ xs = []) ∨ ∃ g c, v = .slice (some ⟨g, 0, none⟩) xs.length c := by
  rcases h.1.2 with ⟨h1, h2⟩ | ⟨g, cap, cur, h1, _⟩
  · exact .inl ⟨h1, List.length_eq_zero_iff.1 h2⟩
  · exact .inr ⟨_, _, h1⟩
theorem FRow_len {t : TypeId} {B : Nat} {W : World} {v : Value} {xs : List El} (h : FRow t B W v xs) : xs.length ≤ 9223372036854775807 := by
  rcases h.1.2 with ⟨h1, h2⟩ | ⟨g, cap, cur, h1, _, _, h2, h3, _⟩
  · omega
  · unfold maxLen at h3; omega
theorem FRow_below {t : TypeId} {B : Nat} {W W' : World} {v : Value} {xs : List El} (h : FRow t B W v xs) (hb : Below W.heap.size W W') : FRow t B W' v xs :=
  have hg : W.grownBy W' none := ⟨hb.os, hb.tape, hb.output, hb.size, fun i hi _ => hb.block i hi⟩
  ⟨row_kept h.1 hg (fun r e => by cases e), fun x hx => El.G_safe (h.2 x hx) hg (Safe.none _ _)⟩
theorem FRow_drewN {t : TypeId} {B : Nat} {W : World} {v : Value} {xs : List El} (h : FRow t B W v xs) (n : Nat) : FRow t B (W.drewN n) v xs := h

theorem quiet_add_same {P : Program} {f : FuncId} {args : Array Value} {w : World} {a n : Nat} {v : Value}
    (h : Calls P f args (w.drewN (a + n)) fun e w' => e = .returned v ∧ w' = w.drewN (a + n)) :
    Calls P f args (w.drewN (a + n)) fun e w'' => e = .returned v ∧ ∃ m, w'' = w.drewN (a + m) :=
  h.mono fun _ _ ⟨he, hm⟩ => ⟨he, n, hm⟩
/-- how it ends: it says whether they are alike -/
def SameEnd (b : Bool) (w : World) (e : Ending) (w' : World) : Prop := e = .returned (.bool b) ∧ ∃ n, w' = w.drewN n

set_option maxHeartbeats 4000000 in
set_option maxRecDepth 100000 in
theorem lsame_any (t1 t2 : TypeId) (B1 B2 : Nat) (v1 v2 : Value) (xs ys : List El) (w : World) (h1 : FRow t1 B1 w v1 xs) (h2 : FRow t2 B2 w v2 ys) :
    Calls Tryd.prog 15 #[v1, v2] w (SameEnd (decide (xs.map El.fd = ys.map El.fd)) w) := by
  have hl1 := FRow_len h1
  have hl2 := FRow_len h2
  obtain ⟨a1, c1, rfl⟩ := row_form h1.1
  obtain ⟨a2, c2, rfl⟩ := row_form h2.1
  have H1 := Lib.hid h1
  have H2 := Lib.hid h2
  clear h1 h2
  by_cases hlen : xs.length = ys.length
  · have hne : ((xs.length : Int) != (ys.length : Int)) = false := bne_eq_false_iff_eq.2 (by omega)
    have HLEN := Lib.hid hlen
    have hll : ys.length ≤ xs.length := by omega
    clear hlen
    go_enter Tryd.func15, Tryd.ntmps15
    go_wp2_with fail
    go_loopw [13] (fun i wr => ∃ k : Nat, k ≤ xs.length ∧ i = .int .i64 k ∧ (∃ n, wr = w.drewN n) ∧ ∀ j x y, j < k → xs[j]? = some x → ys[j]? = some y → x.fd = y.fd) (fun i _ => xs.length - (intOf i).toNat)
    case atStart => exact ⟨0, Nat.zero_le _, rfl, ⟨0, rfl⟩, fun j x y hj => by omega⟩
    case round =>
      obtain ⟨k, hk, rfl, ⟨nd, rfl⟩, hall⟩ := hrel
      have HALL := Lib.hid hall
      clear hall
      by_cases hlt : k < xs.length
      · have hlt2 : k < ys.length := by have := HLEN.out; omega
        obtain ⟨x, hx⟩ : ∃ x, xs[k]? = some x := ⟨xs[k], List.getElem?_eq_getElem hlt⟩
        obtain ⟨y, hy⟩ : ∃ y, ys[k]? = some y := ⟨ys[k], List.getElem?_eq_getElem hlt2⟩
        obtain ⟨g1, rfl⟩ : ∃ g1, a1 = some ⟨g1, 0, none⟩ := by
          rcases FRow_form H1.out with ⟨_, h⟩ | ⟨g, c, h⟩
          · rw [h] at hlt; simp at hlt
          · injection h with h; exact ⟨g, h⟩
        obtain ⟨g2, rfl⟩ : ∃ g2, a2 = some ⟨g2, 0, none⟩ := by
          rcases FRow_form H2.out with ⟨_, h⟩ | ⟨g, c, h⟩
          · rw [h] at hlt2; simp at hlt2
          · injection h with h; exact ⟨g, h⟩
        have hX := H1.out.2 x (List.mem_of_getElem? hx)
        have hY := H2.out.2 y (List.mem_of_getElem? hy)
        obtain ⟨d1, d2⟩ := FRow_cells H1.out hx
        obtain ⟨e1, e2⟩ := FRow_cells H2.out hy
        obtain ⟨⟨xi, xv, xl, xe⟩, rfl⟩ : ∃ z, z = x := ⟨x, rfl⟩
        obtain ⟨⟨yi, yv, yl, ye⟩, rfl⟩ : ∃ z, z = y := ⟨y, rfl⟩
        obtain ⟨xa, xc, hxv⟩ := BOwn_form hX.2
        change xv = .slice xa xl.length xc at hxv
        subst hxv
        obtain ⟨ya, yc, hyv⟩ := BOwn_form hY.2
        change yv = .slice ya yl.length yc at hyv
        subst hyv
        have HX := Lib.hid hX
        have HY := Lib.hid hY
        have HXX := Lib.hid hx
        have HYY := Lib.hid hy
        clear hX hY hx hy
        by_cases hid : xi = yi
        · subst hid
          have q1 : ((xi : Int) != (xi : Int)) = false := bne_eq_false_iff_eq.2 rfl
          by_cases hdl : xl = yl
          · subst hdl
            have hsq : ∀ W nn, W = w.drewN nn → Calls Tryd.prog 18 #[.slice xa xl.length xc, .slice ya xl.length yc] W fun e w' => e = .returned (.bool true) ∧ w' = W := fun W nn hW => by
              subst hW
              have h := same_any _ _ _ _ (w.drewN nn) (show BRow (w.drewN nn) (.slice xa xl.length xc) xl from HX.out.2.row) (show BRow (w.drewN nn) (.slice ya xl.length yc) xl from HY.out.2.row)
              rw [decide_eq_true rfl] at h
              exact h
            have HSQ := Lib.hid hsq
            clear hsq
            go_wp2_with fail
            go_quiet ((go_at_call 18; exact quiet_add_same (HSQ.out _ _ rfl)))
            go_wp2_with fail
            go_roundw
            case rel =>
              refine ⟨k + 1, by omega, by go_num, ⟨_, rfl⟩, fun j x y hj hx hy => ?_⟩
              by_cases e : j = k
              · subst e
                rw [HXX.out] at hx
                rw [HYY.out] at hy
                cases hx; cases hy; rfl
              · exact HALL.out j x y (by omega) hx hy
            case measure => simp [intOf]; omega
          · have hres : decide (xs.map El.fd = ys.map El.fd) = false := decide_eq_false fun e => hdl (by
              have h1 := congrArg (fun z : List (Nat × List Nat) => z[k]?) e
              simp only [List.getElem?_map, HXX.out, HYY.out, Option.map_some, El.fd, Option.some.injEq, Prod.mk.injEq] at h1
              exact h1.2)
            have HRES := Lib.hid hres
            have hsq : ∀ W nn, W = w.drewN nn → Calls Tryd.prog 18 #[.slice xa xl.length xc, .slice ya yl.length yc] W fun e w' => e = .returned (.bool false) ∧ w' = W := fun W nn hW => by
              subst hW
              have h := same_any _ _ _ _ (w.drewN nn) (show BRow (w.drewN nn) (.slice xa xl.length xc) xl from HX.out.2.row) (show BRow (w.drewN nn) (.slice ya yl.length yc) yl from HY.out.2.row)
              rw [decide_eq_false hdl] at h
              exact h
            have HSQ := Lib.hid hsq
            clear hsq hres hdl
            go_wp2_with fail
            go_quiet ((go_at_call 18; exact quiet_add_same (HSQ.out _ _ rfl)))
            go_wp2_with fail
            go_ret
            exact ⟨by rw [HRES.out]; try rfl, _, World.drewN_drewN ..⟩
        · have q1 : ((xi : Int) != (yi : Int)) = true := bne_iff_ne.2 (by omega)
          have hres : decide (xs.map El.fd = ys.map El.fd) = false := decide_eq_false fun e => hid (by
            have h1 := congrArg (fun z : List (Nat × List Nat) => z[k]?) e
            simp only [List.getElem?_map, HXX.out, HYY.out, Option.map_some, El.fd, Option.some.injEq, Prod.mk.injEq] at h1
            exact h1.1)
          have HRES := Lib.hid hres
          clear hres hid
          go_wp2_with fail
          go_quiet (fail)
          go_wp2_with fail
          go_ret
          exact ⟨by rw [HRES.out]; try rfl, _, World.drewN_drewN ..⟩
      · have hres : decide (xs.map El.fd = ys.map El.fd) = true := decide_eq_true (by
          apply List.ext_getElem?
          intro j
          rw [List.getElem?_map, List.getElem?_map]
          by_cases hj : j < xs.length
          · have hj2 : j < ys.length := by have := HLEN.out; omega
            rw [List.getElem?_eq_getElem hj, List.getElem?_eq_getElem hj2]
            exact congrArg some (HALL.out j xs[j] ys[j] (by omega) (List.getElem?_eq_getElem hj) (List.getElem?_eq_getElem hj2))
          · rw [List.getElem?_eq_none (by omega), List.getElem?_eq_none (by have := HLEN.out; omega)])
        have HRES := Lib.hid hres
        clear hres
        go_wp2_with fail
        go_ret
        exact ⟨by rw [HRES.out]; try rfl, _, rfl⟩
  · have hne : ((xs.length : Int) != (ys.length : Int)) = true := bne_iff_ne.2 (by omega)
    have hres : decide (xs.map El.fd = ys.map El.fd) = false := decide_eq_false fun e => hlen (by
      have h1 := congrArg List.length e
      simpa using h1)
    have HRES := Lib.hid hres
    clear hres hlen
    go_enter Tryd.func15, Tryd.ntmps15
    go_wp2_with fail
    go_ret
    exact ⟨by rw [HRES.out]; try rfl, 0, rfl⟩
end Go.Proofs.YtcibhchbgendaaaDoor.Sf
