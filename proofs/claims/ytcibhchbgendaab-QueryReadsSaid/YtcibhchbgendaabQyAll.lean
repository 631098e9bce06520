/- The walks of query.Reply, some and All. -/
import Derived.Test.YtcibhchbgendaabQySays
namespace Go.Proofs.Ytcibhchbgendaab.Qy
open Go Go.RowKit Go.Proofs.Ytcibhchbgendaab.By Go.Proofs.Ytcibhchbgendaab.Sf

theorem says_all (c m k : Nat) (hc : c ∈ codes7) (hm : m = 2 ∨ m = 3 ∨ m = 4 ∨ m = 5) (hk : k ≤ 2000) (p : Value) (w : World) (hp : PgP w p k) :
    Calls Try.prog 85 #[.int .u8 c, .agg #[.int .i64 (rowsOf m : Nat), .int .i64 (colsOf m : Nat)], p] w fun e w' => OwnB (saysOf c m k) w.heap.size e w' ∧ Below w.heap.size w w' := by
  obtain ⟨h1, h2, h3⟩ := model_size m hm
  simp only [codes7, List.mem_cons, List.not_mem_nil, or_false] at hc
  rcases hc with rfl | rfl | rfl | rfl | rfl | rfl | rfl
  · exact says128_any _ _ k h1 h2 h3 hk p w hp
  · exact says129_any _ _ k h1 h2 h3 hk p w hp
  · exact says133_any _ _ k h1 h2 h3 hk p w hp
  · exact says134_any _ _ k h1 h2 h3 hk p w hp
  · exact says135_any _ _ k h1 h2 h3 hk p w hp
  · exact says136_any _ _ k h1 h2 h3 hk p w hp
  · exact says166_any _ _ k h1 h2 h3 hk p w hp
theorem says_len (c m k : Nat) (hc : c ∈ codes7) : 1 ≤ (saysOf c m k).length ∧ (saysOf c m k).length ≤ 40 := by
  simp only [codes7, List.mem_cons, List.not_mem_nil, or_false] at hc
  rcases hc with rfl | rfl | rfl | rfl | rfl | rfl | rfl <;> simp [saysOf, two, codes7, colorList]
theorem codes_lt {c : Nat} (hc : c ∈ codes7) : c < 256 := by
  simp only [codes7, List.mem_cons, List.not_mem_nil, or_false] at hc
  omega
theorem reply_len (c m k : Nat) (hc : c ∈ codes7) : 1 ≤ (replyOf c m k).length ∧ (replyOf c m k).length ≤ 50 := by
  have := says_len c m k hc
  unfold replyOf
  simp [bytesOf]
  omega

set_option maxHeartbeats 4000000 in
set_option maxRecDepth 100000 in
theorem reply_any (c m k : Nat) (hc : c ∈ codes7) (hm : m = 2 ∨ m = 3 ∨ m = 4 ∨ m = 5) (hk : k ≤ 2000) (p : Value) (w : World) (hp : PgP w p k) :
    Calls Try.prog 75 #[.int .u8 c, .int .i64 m, p] w fun e w' => (∃ pv cp, e = .returned (.tuple #[.slice pv (replyOf c m k).length cp, .bool true]) ∧ BOwn w.heap.size w' (.slice pv (replyOf c m k).length cp) (replyOf c m k)) ∧ Below w.heap.size w w' := by
  have HP := Lib.hid hp
  have HM := Lib.hid hm
  have HCC := Lib.hid hc
  obtain ⟨L, hL⟩ : ∃ L, saysOf c m k = L := ⟨_, rfl⟩
  have hlen := says_len c m k hc
  have HSY := fun (W : World) (h : PgP W p k) => says_all c m k hc hm hk p W h
  rw [hL] at hlen HSY
  have HSA := Lib.hid HSY
  have HRP := Lib.hid (show replyOf c m k = bytesOf (129, c :: L) by unfold replyOf; rw [hL])
  obtain ⟨RL, hRL⟩ : ∃ RL, bytesOf (129, c :: L) = RL := ⟨_, rfl⟩
  rw [HRP.out, hRL]
  have HRL := Lib.hid hRL
  obtain ⟨R, hR⟩ : ∃ R, rowsOf m = R := ⟨_, rfl⟩
  obtain ⟨C, hC⟩ : ∃ C, colsOf m = C := ⟨_, rfl⟩
  have hmo := fun W => amodel_any m hm W
  rw [hR, hC] at hmo HSA
  have HMO := Lib.hid hmo
  clear hp hm hL HSY hRL hR hC hmo
  have hc8 := codes_lt hc
  clear hc
  go_enter Try.func75, Try.ntmps75
  go_wp2_with fail
  refine (HMO.out _).mono ?_
  rintro e w1 ⟨rfl, hb⟩
  have HB1 := Lib.hid hb
  have HB1B := Lib.hid ((Below.refl w1.heap.size w1).alloc (Nat.le_refl _) (.cells #[.int .i64 R, .int .i64 C] 147))
  clear hb
  go_wp2_with fail
  refine (HSA.out _ (PgP_up (PgP_up HP.out HB1.out) HB1B.out)).mono ?_
  rintro e w2 ⟨⟨p2, c2, rfl, ho⟩, hb⟩
  obtain ⟨n, hn⟩ : ∃ n, n = L.length := ⟨_, rfl⟩
  rw [← hn] at ho hlen ⊢
  have HN := Lib.hid hn
  have HO := Lib.hid ho
  have hs1 := HB1.out.size
  have hs2 : w1.heap.size + 1 ≤ w2.heap.size := by have := hb.size; simp at this; omega
  have HB2 := Lib.hid ((HB1.out.trans (HB1B.out.mono (by omega))).trans (hb.mono (by simp; omega)))
  have hd : decide ((0 : Int) < (n : Int)) = true := decide_eq_true (by omega)
  clear ho hb hn
  go_wp2_with fail
  have hf := qfield_any c hc8 (.slice p2 n c2) L w2 HO.out.row (by have := HN.out; omega)
  rw [HRL.out] at hf
  have HF := Lib.hid hf
  clear hf
  refine HF.out.mono ?_
  rintro e w3 ⟨⟨p3, c3, rfl, ho⟩, hb⟩
  have HO3 := Lib.hid ho
  have HB3 := Lib.hid (HB2.out.trans (hb.mono (by omega)))
  clear ho hb
  go_wp2_with fail
  go_ret2
  exact ⟨⟨_, _, rfl, HO3.out.lower (by omega)⟩, HB3.out⟩

/-- the replies to some codes, in a row -/
def catR (l : List Nat) (m k : Nat) : List Nat := 136 :: l.flatMap fun c => replyOf c m k
theorem catR_step (l : List Nat) (j c m k : Nat) (h : l[j]? = some c) : catR (l.take (j + 1)) m k = catR (l.take j) m k ++ replyOf c m k := by
  unfold catR
  rw [List.take_add_one, h, List.flatMap_append]
  simp
theorem catR_len : ∀ (l : List Nat) (m k : Nat), (∀ c ∈ l, c ∈ codes7) → l.length + 1 ≤ (catR l m k).length ∧ (catR l m k).length ≤ 50 * l.length + 1
  | [], _, _, _ => by simp [catR]
  | c :: l, m, k, h => by
    have ih := catR_len l m k (fun x hx => h x (List.mem_cons_of_mem _ hx))
    have hr := reply_len c m k (h c (by simp))
    simp only [catR, List.length_cons, List.flatMap_cons, List.length_append] at ih ⊢
    omega

set_option maxHeartbeats 4000000 in
set_option maxRecDepth 100000 in
theorem some_any (cv : Value) (l : List Nat) (m k : Nat) (hl : ∀ c ∈ l, c ∈ codes7) (hl7 : l.length ≤ 7) (hm : m = 2 ∨ m = 3 ∨ m = 4 ∨ m = 5) (hk : k ≤ 2000) (p : Value) (w : World) (hp : PgP w p k) (hcv : BRow w cv l) :
    Calls Try.prog 59 #[cv, .int .i64 m, p] w fun e w' => OwnB (someOf l m k) w.heap.size e w' ∧ Below w.heap.size w w' := by
  obtain ⟨a, cap, rfl⟩ := row_shape hcv
  obtain ⟨n, hn⟩ : ∃ n, n = l.length := ⟨_, rfl⟩
  rw [← hn] at hcv hl7 ⊢
  have HN := Lib.hid hn
  have HP := Lib.hid hp
  have HCV := Lib.hid hcv
  have HL := Lib.hid hl
  have HRA := Lib.hid (fun (c : Nat) (hc : c ∈ codes7) (W : World) (h : PgP W p k) => reply_any c m k hc hm hk p W h)
  have HLIT := Lib.hid (own_lit w [136] (by decide) (by decide))
  have HB0 := Lib.hid ((Below.refl w.heap.size w).alloc (Nat.le_refl _) (.cells ([136].map bv).toArray 5))
  clear hn hp hcv hl hm
  go_enter Try.func59, Try.ntmps59
  go_wp2_with fail
  go_loopw [7, 15] (fun vo i wr => ∃ j : Nat, j ≤ n ∧ i = .int .i64 j ∧ BOwn w.heap.size wr vo (catR (l.take j) m k) ∧ Below w.heap.size w wr) (fun _ i _ => n - (intOf i).toNat)
  case atStart => exact ⟨0, by omega, rfl, HLIT.out, HB0.out⟩
  case round =>
    obtain ⟨j, hj, rfl, hv, hb⟩ := hrel
    obtain ⟨av, cav, rfl⟩ := BOwn_form hv
    have hsz := hb.size
    have hln := catR_len (l.take j) m k (fun c hc => HL.out c (List.mem_of_mem_take hc))
    have hlj : (l.take j).length = j := by rw [List.length_take]; have := HN.out; omega
    rw [hlj] at hln
    obtain ⟨s, hs⟩ : ∃ s, s = (catR (l.take j) m k).length := ⟨_, rfl⟩
    rw [← hs] at hv hln ⊢
    have HS := Lib.hid hs
    have HV := Lib.hid hv
    have HB := Lib.hid hb
    clear hv hb hs hlj
    by_cases hlt : j < n
    · obtain ⟨c, hc⟩ : ∃ c, l[j]? = some c := ⟨l[j]'(by have := HN.out; omega), List.getElem?_eq_getElem _⟩
      have hcm := HL.out c (List.mem_of_getElem? hc)
      have hc8 := codes_lt hcm
      obtain ⟨ad, rfl⟩ : ∃ ad, a = some ad := by
        rcases HCV.out with ⟨h, h2⟩ | ⟨ad, cp, h, _⟩
        · injection h with _ h; omega
        · injection h with h; exact ⟨ad, h⟩
      have hcell : wr.cell? (ad.add j) = some (.int .u8 c) := by
        rcases HCV.out.below HB.out (Nat.le_refl _) with ⟨h, _⟩ | ⟨ad2, cp, h, _, _, h4, _⟩
        · cases h
        · injection h with h; injection h with h; subst h
          exact h4 j c hc
      have hst := catR_step l j c m k hc
      obtain ⟨RL, hRL⟩ : ∃ RL, replyOf c m k = RL := ⟨_, rfl⟩
      have hrl := reply_len c m k hcm
      have hra := fun W (h : PgP W p k) => HRA.out c hcm W h
      rw [hRL] at hst hrl hra
      have HRR := Lib.hid hra
      have HST := Lib.hid hst
      clear hra hRL hst hcm hc
      go_wp2_with fail
      refine (HRR.out _ (PgP_up HP.out HB.out)).mono ?_
      rintro e w2 ⟨⟨p2, c2, rfl, ho⟩, hb⟩
      obtain ⟨rn, hrn⟩ : ∃ rn, rn = RL.length := ⟨_, rfl⟩
      rw [← hrn] at ho hrl ⊢
      have HRN := Lib.hid hrn
      have HR2 := Lib.hid ho
      have HV2 := Lib.hid (HV.out.below hb (Nat.le_refl _))
      have HB2 := Lib.hid (HB.out.trans (hb.mono hsz))
      have hs2 : w.heap.size ≤ w2.heap.size := HB2.out.size
      have HSUM := Lib.hid (show (catR (l.take j) m k).length + RL.length ≤ 1000000 by rw [← HS.out, ← HRN.out]; omega)
      clear ho hb hrn hcell
      go_wp2_with (first | (at_builtin; refine wpList_append_brow rfl _ _ rfl w.heap.size _ (catR (l.take j) m k) rfl HV2.out _ RL rfl HR2.out.row hs2 HSUM.out ?_; intro p5 c5 w5 hbo hgrow; rw [← HST.out] at hbo ⊢) | fail)
      have hb5 : Below w.heap.size w w5 := HB2.out.grown hgrow hs2 (fun j hj => (HV2.out.2.lt j hj).1)
      exact ⟨⟨j + 1, by omega, by go_num, hbo, hb5⟩, by simp [intOf]; omega⟩
    · obtain rfl : j = n := by omega
      have htk : l.take j = l := List.take_of_length_le (by have := HN.out; omega)
      rw [htk] at HV HS
      by_cases hz : j = 0
      · subst hz
        have hl0 : l = [] := List.length_eq_zero_iff.1 HN.out.symm
        subst hl0
        have HSO := Lib.hid (show someOf [] m k = [136] ++ bytesOf (129, [255]) from rfl)
        obtain rfl : s = 1 := HS.out
        clear hlt
        go_wp2_with fail
        have hf := qfield_any 255 (by decide) (.slice none 0 0) [] wr (.inl ⟨rfl, rfl⟩) (by simp)
        obtain ⟨RL, hRL⟩ : ∃ RL, bytesOf (129, [255]) = RL := ⟨_, rfl⟩
        rw [hRL] at hf
        have HF := Lib.hid hf
        have HRL := Lib.hid hRL
        have hrl : RL.length = 4 := by rw [← hRL]; rfl
        clear hf hRL
        refine HF.out.mono ?_
        rintro e w3 ⟨⟨p3, c3, rfl, ho⟩, hb⟩
        have HO3 := Lib.hid ho
        have HV3 := Lib.hid (show BOwn w.heap.size w3 _ [136] from HV.out.below hb (Nat.le_refl _))
        have HB3 := Lib.hid (HB.out.trans (hb.mono hsz))
        have hs3 := HB3.out.size
        have HSUM := Lib.hid (show ([136] : List Nat).length + RL.length ≤ 1000000 by rw [hrl]; decide)
        clear hrl
        have HEQ := Lib.hid (show [136] ++ RL = someOf [] m k by rw [HSO.out, HRL.out])
        clear ho hb
        go_wp2_with (first | (at_builtin; refine wpList_append_brow rfl _ _ rfl w.heap.size _ [136] rfl HV3.out _ RL rfl HO3.out.row hs3 HSUM.out ?_; intro p5 c5 w5 hbo hgrow; rw [HEQ.out] at hbo ⊢) | fail)
        have hb5 : Below w.heap.size w w5 := HB3.out.grown hgrow hs3 (fun j hj => (HV3.out.2.lt j hj).1)
        go_ret
        exact ⟨⟨_, _, rfl, hbo⟩, hb5⟩
      · have hne : ((s : Int) == 1) = false := beq_eq_false_iff_ne.2 (by omega)
        have HSO := Lib.hid (show someOf l m k = catR l m k by
          unfold someOf catR
          rw [if_neg (fun h => hz (by rw [HN.out, h]; rfl))])
        clear hlt hz
        go_wp2_with fail
        go_ret
        exact ⟨⟨av, cav, by rw [HSO.out, ← HS.out]; rfl, by rw [HSO.out, ← HS.out]; exact HV.out⟩, HB.out⟩

set_option maxHeartbeats 4000000 in
set_option maxRecDepth 100000 in
theorem qall_any (m k : Nat) (hm : m = 2 ∨ m = 3 ∨ m = 4 ∨ m = 5) (hk : k ≤ 2000) (p : Value) (w : World) (hp : PgP w p k) :
    Calls Try.prog 32 #[.int .i64 m, p] w fun e w' => OwnB (allOf m k) w.heap.size e w' ∧ Below w.heap.size w w' := by
  have HP := Lib.hid hp
  have HB0 := Lib.hid ((Below.refl w.heap.size w).alloc (Nat.le_refl _) (.cells (codes7.map bv).toArray 5))
  have hsm := some_any (.slice (some ⟨w.heap.size, 0, none⟩) 7 7) codes7 m k (fun c h => h) (by decide) hm hk p _ (PgP_up hp HB0.out) (codes_own w).row
  obtain ⟨L, hL⟩ : ∃ L, someOf codes7 m k = L := ⟨_, rfl⟩
  rw [hL] at hsm
  have HSM := Lib.hid hsm
  rw [show allOf m k = L from hL]
  clear hp hsm hL
  go_enter Try.func32, Try.ntmps32
  go_wp2_with fail
  refine (codes_any _).mono ?_
  rintro e w1 ⟨rfl, rfl⟩
  go_wp2_with fail
  refine HSM.out.mono ?_
  rintro e w2 ⟨⟨p2, c2, rfl, ho⟩, hb⟩
  have HO := Lib.hid ho
  have HB := Lib.hid (HB0.out.trans (hb.mono (by simp)))
  clear ho hb
  go_wp2_with fail
  go_ret
  exact ⟨⟨_, _, rfl, HO.out.lower (by simp)⟩, HB.out⟩
end Go.Proofs.Ytcibhchbgendaab.Qy
