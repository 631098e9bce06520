/- The walk of query.List for the codes that are asked for. -/
import Derived.Test.YtcibhchbgendaabQyPick
import Derived.Lib.IndexLaws
namespace Go.Proofs.Ytcibhchbgendaab.Qy
open Go Go.RowKit Go.Proofs.Ytcibhchbgendaab.By Go.Proofs.Ytcibhchbgendaab.Sf Go.Proofs.Ytcibhchbgendaab.Pg

theorem mem_bytes (l : List Nat) (hl : ∀ n ∈ l, n < 256) (c : Nat) (hc : c < 256) : (c ∈ l ↔ 0 ≤ Lib.indexByte (Lib.bytesOf (l.map fun n : Nat => (n : Int))) ((c : Int).toNat.toUInt8)) := by
  have e : Lib.bytesOf (l.map fun n : Nat => (n : Int)) = l.map fun n => UInt8.ofNat n := by
    unfold Lib.bytesOf
    rw [List.map_map]
    rfl
  have e2 : (c : Int).toNat.toUInt8 = UInt8.ofNat c := rfl
  rw [e, e2]
  have hinj : ∀ a b : Nat, a < 256 → b < 256 → UInt8.ofNat a = UInt8.ofNat b → a = b := by
    intro a b ha hb h
    have h := congrArg UInt8.toNat h
    simp at h
    omega
  constructor
  · intro h
    have hge := Lib.indexByte_ge (l.map fun n => UInt8.ofNat n) (UInt8.ofNat c)
    by_cases h1 : Lib.indexByte (l.map fun n => UInt8.ofNat n) (UInt8.ofNat c) = -1
    · obtain ⟨i, hi⟩ := List.getElem?_of_mem h
      exact absurd (by rw [List.getElem?_map, hi]; rfl) (Lib.indexByte_none h1 i)
    · omega
  · intro h
    obtain ⟨o, ho⟩ : ∃ o : Nat, Lib.indexByte (l.map fun n => UInt8.ofNat n) (UInt8.ofNat c) = o := ⟨_, (Int.toNat_of_nonneg h).symm⟩
    have h1 := (Lib.indexByte_some ho).1
    rw [List.getElem?_map] at h1
    cases h2 : l[o]? with
    | none => rw [h2] at h1; cases h1
    | some d =>
      rw [h2] at h1
      injection h1 with h1
      have hd := List.mem_of_getElem? h2
      rw [← hinj d c (hl d hd) hc h1]
      exact hd
theorem idx_any (v : Value) (l : List Nat) (c : Nat) (hc : c < 256) (w : World) (hv : BRow w v l) :
    Calls Try.prog 65 #[v, .int .u8 (c : Int)] w fun e w' => (∃ x : Int, e = .returned (.int .i64 x) ∧ decide (0 ≤ x) = decide (c ∈ l)) ∧ w' = w := by
  have hb := hv.bound
  have hm := mem_bytes l hb c hc
  rcases hv with ⟨rfl, rfl⟩ | ⟨a, cap, rfl, h2, h3, h4, h5⟩
  · refine (Try.bytes_IndexByte_nil (c : Int) w).mono ?_
    rintro e w' ⟨rfl, rfl⟩
    exact ⟨⟨-1, rfl, by simp⟩, rfl⟩
  · refine (Try.bytes_IndexByte_at a l.length cap (l.map fun n : Nat => (n : Int)) (c : Int) w (by simp) (fun i hi => ?_)).mono ?_
    · rw [h4 i l[i] (List.getElem?_eq_getElem hi)]
      simp [bv, List.getD_eq_getElem?_getD, hi]
    · rintro e w' ⟨rfl, rfl⟩
      refine ⟨⟨_, rfl, ?_⟩, rfl⟩
      by_cases h : c ∈ l
      · rw [decide_eq_true (hm.1 h), decide_eq_true h]
      · rw [decide_eq_false (fun h' => h (hm.2 h')), decide_eq_false h]

/-- the codes that are asked for -/
def askOf (l : List Nat) : List Nat := codes7.filter fun c => decide (c ∈ l)
set_option maxHeartbeats 8000000 in
set_option maxRecDepth 100000 in
theorem list_any (cv : Value) (l : List Nat) (m k : Nat) (hm : m = 2 ∨ m = 3 ∨ m = 4 ∨ m = 5) (hk : k ≤ 2000) (p : Value) (w : World) (hp : PgP w p k) (hcv : BRow w cv l) :
    Calls Try.prog 37 #[.int .u8 0, cv, .int .i64 m, p] w fun e w' => OwnB (someOf (askOf l) m k) w.heap.size e w' ∧ Below w.heap.size w w' := by
  have HP := Lib.hid hp
  have HCV := Lib.hid hcv
  have HB0 := Lib.hid ((Below.refl w.heap.size w).alloc (Nat.le_refl _) (.cells (codes7.map bv).toArray 5))
  have HCO := Lib.hid (codes_own w)
  have HM := Lib.hid hm
  clear hp hcv hm
  go_enter Try.func37, Try.ntmps37
  go_wp2_with fail
  refine (codes_any _).mono ?_
  rintro e w1 ⟨rfl, rfl⟩
  obtain ⟨W, hW⟩ : ∃ W, W = w.alloc (.cells (codes7.map bv).toArray 5) := ⟨_, rfl⟩
  rw [← hW] at HB0 HCO ⊢
  have hWs : w.heap.size ≤ W.heap.size := HB0.out.size
  have HLT := Lib.hid (show w.heap.size < W.heap.size by rw [hW]; simp)
  clear hW
  go_wp2_with fail
  go_loopw [9, 19] (fun vo i wr => ∃ j : Nat, j ≤ 7 ∧ i = .int .i64 j ∧ BOwn W.heap.size wr vo ((codes7.take j).filter fun c => decide (c ∈ l)) ∧ Below W.heap.size W wr) (fun _ i _ => 7 - (intOf i).toNat)
  case atStart => exact ⟨0, by omega, rfl, BOwn_nil, Below.refl _ _⟩
  case round =>
    obtain ⟨j, hj, rfl, ho, hb⟩ := hrel
    obtain ⟨al, hal⟩ : ∃ al, al = (codes7.take j).filter (fun c => decide (c ∈ l)) := ⟨_, rfl⟩
    rw [← hal] at ho
    have hal7 : al.length ≤ 7 := by
      rw [hal]
      exact Nat.le_trans (List.length_filter_le _ _) (by rw [List.length_take]; exact Nat.min_le_right _ _)
    obtain ⟨av, cav, rfl⟩ := BOwn_form ho
    obtain ⟨na, hna⟩ : ∃ na, na = al.length := ⟨_, rfl⟩
    rw [← hna] at ho hal7 ⊢
    have HNA := Lib.hid hna
    have HAL := Lib.hid hal
    have HO := Lib.hid ho
    have HB := Lib.hid hb
    have hsz := hb.size
    clear hna hal ho hb
    by_cases hlt : j < 7
    · obtain ⟨c, hc⟩ : ∃ c, codes7[j]? = some c := ⟨codes7[j]'(by simpa [codes7] using hlt), List.getElem?_eq_getElem _⟩
      have hc256 : c < 256 := by
        have h := List.mem_of_getElem? hc
        simp [codes7] at h
        omega
      have hcell : wr.cell? ⟨w.heap.size, j, none⟩ = some (.int .u8 (c : Int)) := BOwn_cell ((HCO.out.lower (C := w.heap.size) (by omega)).keep (w' := wr) fun g n c e => by injection e with e; injection e with e; injection e with e; subst e; exact HB.out.block _ HLT.out) hc
      have hst : ((codes7.take (j + 1)).filter fun c => decide (c ∈ l)) = al ++ (if c ∈ l then [c] else []) := by
        rw [List.take_add_one, hc, List.filter_append, ← HAL.out]
        simp [List.filter_cons]
      have HST := Lib.hid hst
      have HLIT := Lib.hid (own_lit wr [c] (by simp) (by simp; omega))
      have HOL := Lib.hid (show BOwn W.heap.size (wr.alloc (.cells ([c].map bv).toArray 5)) (.slice av na cav) al from HO.out.below ((Below.refl _ _).alloc (Nat.le_refl _) _) (Nat.le_refl _))
      have HBL := Lib.hid (HB.out.alloc hsz (.cells ([c].map bv).toArray 5))
      have hsl : W.heap.size ≤ (wr.alloc (.cells ([c].map bv).toArray 5)).heap.size := by simp; omega
      have HSUM := Lib.hid (show al.length + ([c] : List Nat).length ≤ 1000000 by rw [← HNA.out]; simp; omega)
      clear hc hst
      go_wp2_with fail
      refine (idx_any cv l c hc256 _ (HCV.out.below (HB0.out.trans (HB.out.mono hWs)) (Nat.le_refl _))).mono ?_
      rintro e w2 ⟨⟨x, rfl, hx⟩, rfl⟩
      by_cases hin : c ∈ l
      · have hge : decide ((0 : Int) ≤ x) = true := by rw [hx, decide_eq_true hin]
        have hal1 : al ++ (if c ∈ l then [c] else []) = al ++ [c] := by rw [if_pos hin]
        have HS1 := Lib.hid (HST.out.trans hal1)
        clear hx hcell hal1
        go_wp2_with (first | (at_builtin; refine wpList_append_brow rfl _ _ rfl W.heap.size _ al rfl HOL.out _ [c] rfl HLIT.out.row hsl HSUM.out ?_; intro p5 c5 w5 hbo hgrow; rw [← HS1.out] at hbo ⊢) | fail)
        exact ⟨⟨j + 1, by omega, by go_num, hbo, HBL.out.grown hgrow hsl (fun i hi => (HOL.out.2.lt i hi).1)⟩, by simp [intOf]; omega⟩
      · have hge : decide ((0 : Int) ≤ x) = false := by rw [hx, decide_eq_false hin]
        have hal1 : al ++ (if c ∈ l then [c] else []) = al := by rw [if_neg hin, List.append_nil]
        have HS1 := Lib.hid (HST.out.trans hal1)
        clear hx hcell hal1
        go_wp2_with fail
        refine ⟨⟨j + 1, by omega, by go_num, ?_, HB.out⟩, by simp [intOf]; omega⟩
        rw [HS1.out, HNA.out] at *
        exact HO.out
    · obtain rfl : j = 7 := by omega
      have hask : al = askOf l := by
        rw [HAL.out]
        rfl
      have HSO := some_any (.slice av na cav) (askOf l) m k (fun c hc => (List.mem_filter.1 hc).1) (by rw [← hask, ← HNA.out]; omega) HM.out hk p wr (PgP_up HP.out (HB0.out.trans (HB.out.mono hWs))) (by rw [← hask]; exact HO.out.row)
      have HSO := Lib.hid HSO
      clear hask
      go_wp2_with fail
      refine HSO.out.mono ?_
      rintro e w3 ⟨⟨p3, c3, rfl, ho⟩, hb⟩
      have HO3 := Lib.hid ho
      have HB3 := Lib.hid hb
      clear ho hb
      go_wp2_with fail
      go_ret
      exact ⟨⟨_, _, rfl, HO3.out.lower (by omega)⟩, (HB0.out.trans (HB.out.mono hWs)).trans (HB3.out.mono (by omega))⟩
end Go.Proofs.Ytcibhchbgendaab.Qy
