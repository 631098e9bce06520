/- The walk of (sfield.Field).Act: what a field asks for. -/
import Derived.Test.YtcibhchbgendaaaDoorSfRead
namespace Go.Proofs.YtcibhchbgendaaaDoor.Sf
open Go Go.RowKit Go.Proofs.YtcibhchbgendaaaDoor.By

set_option maxHeartbeats 4000000 in
set_option maxRecDepth 100000 in
theorem fact_any (B id : Nat) (v : Value) (l : List Nat) (w : World) (hv : BOwn B w v l) (h47 : l.length ≤ 140737488351232) (hc : Cmds w) :
    Calls Tryd.prog 21 #[.agg #[.int .u8 (id : Int), v]] w fun e w' => ActEnd (actOf id l) w.heap.size e w' ∧ Below w.heap.size w w' := by
  have HC := Lib.hid hc
  have HVV := Lib.hid hv
  obtain ⟨a, cap, rfl⟩ := BOwn_form hv
  obtain ⟨n, hn⟩ : ∃ n, n = l.length := ⟨_, rfl⟩
  rw [← hn] at HVV ⊢
  have H47 := Lib.hid h47
  clear hc hv hn h47
  by_cases h1 : id = 1
  · subst h1
    obtain ⟨⟨⟨k, c, m, b, q, cs, rc⟩, er⟩, hr⟩ : ∃ x : A × Int, readsOf l = x := ⟨_, rfl⟩
    have HR := Lib.hid (show actOf 1 l = (⟨k, c, m, b, q, cs, rc⟩, er) from hr)
    have HRR := Lib.hid hr
    clear hr
    have HA := Lib.hid (((Below.refl w.heap.size w).alloc (Nat.le_refl _) (.cells #[.int .u8 1, .slice a n cap] 40)).alloc (by simp) (.cells #[.int .i64 0, .int .i64 0, .int .i64 0, .bool false, .int .u8 0, .slice none 0 0, .slice none 0 0] 50))
    have HVA := Lib.hid (HVV.out.below HA.out (Nat.le_refl _))
    have HCA := Lib.hid (HC.out.below HA.out HC.out.lt)
    go_enter Tryd.func21, Tryd.ntmps21
    go_wp2_with fail
    refine (reads_any _ _ l _ HVA.out H47.out HCA.out).mono ?_
    rintro e w1 ⟨⟨cv, rv, rfl, ho1, ho2⟩, h1⟩
    rw [HRR.out] at ho1 ho2
    obtain ⟨ca, cc, rfl⟩ := BOwn_form ho1
    obtain ⟨ra, rcc, rfl⟩ := BOwn_form ho2
    obtain ⟨n1, hn1⟩ : ∃ n1, n1 = (A.mk k c m b q cs rc).codes.length := ⟨_, rfl⟩
    obtain ⟨n2, hn2⟩ : ∃ n2, n2 = (A.mk k c m b q cs rc).rc.length := ⟨_, rfl⟩
    change BOwn _ w1 _ cs at ho1
    change BOwn _ w1 _ rc at ho2
    rw [← hn1] at ho1
    rw [← hn2] at ho2
    rw [HRR.out, ← hn1, ← hn2]
    simp only [aval]
    have HO1 := Lib.hid ho1
    have HO2 := Lib.hid ho2
    have H1 := Lib.hid (HA.out.trans (h1.mono (by simp only [World.size_alloc]; omega)))
    have HB1 := Lib.hid (show Bk w1 (w.heap.size + 1) 50 #[.int .i64 0, .int .i64 0, .int .i64 0, .bool false, .int .u8 0, .slice none 0 0, .slice none 0 0] from by
      have h := Bk.new (w.alloc (.cells #[.int .u8 1, .slice a n cap] 40)) 50 #[.int .i64 0, .int .i64 0, .int .i64 0, .bool false, .int .u8 0, .slice none 0 0, .slice none 0 0]
      simp only [World.size_alloc] at h
      exact h.below h1 (by simp only [World.size_alloc]; omega))
    obtain ⟨d0, d1, d2, d3, d4, d5, d6⟩ := cells7 HB1.out
    obtain ⟨f0, f1, f2, f3, f4, f5, f6⟩ := frozen7 HB1.out
    clear h1 ho1 ho2 hn1 hn2
    go_wp2
    clear d0 d1 d2 d3 d4 d5 d6 f0 f1 f2 f3 f4 f5 f6
    exact bodyPost_ret (v := .tuple #[.agg #[.int .i64 k, .int .i64 c, .int .i64 m, .bool b, .int .u8 q, .slice ca n1 cc, .slice ra n2 rcc], .int .i64 er]) (results_struct_tmp (p := 2) (q := 3) rfl _ _ (w.heap.size + 1) 50 _ _ _ rfl (Bk_fill7 HB1.out _ _ _ _ _ _ _) Tryd.underlying50 rfl (by kernel_rfl)) rfl ⟨by rw [HR.out]; exact ActEnd_of ⟨k, c, m, b, q, cs, rc⟩ er _ _ _ _ ((BOwn_fill7 HO1.out (by simp only [World.size_alloc]; omega) _ _ _ _ _ _ _).lower (by simp only [World.size_alloc]; omega)) ((BOwn_fill7 HO2.out (by simp only [World.size_alloc]; omega) _ _ _ _ _ _ _).lower (by simp only [World.size_alloc]; omega)), below_fill7 H1.out (by omega) _ _ _ _ _ _ _⟩
  · have q1 : ((id : Int) == 1) = false := beq_eq_false_iff_ne.2 (by omega)
    by_cases h3 : id = 3
    · subst h3
      obtain ⟨⟨⟨k, c, m, b, q, cs, rc⟩, er⟩, hr⟩ : ∃ x : A × Int, erasesOf l = x := ⟨_, rfl⟩
      have HR := Lib.hid (show actOf 3 l = (⟨k, c, m, b, q, cs, rc⟩, er) from hr)
      have HRR := Lib.hid hr
      clear hr
      have HA := Lib.hid (((Below.refl w.heap.size w).alloc (Nat.le_refl _) (.cells #[.int .u8 3, .slice a n cap] 40)).alloc (by simp) (.cells #[.int .i64 0, .int .i64 0, .int .i64 0, .bool false, .int .u8 0, .slice none 0 0, .slice none 0 0] 50))
      have HVA := Lib.hid (HVV.out.below HA.out (Nat.le_refl _))
      have HCA := Lib.hid (HC.out.below HA.out HC.out.lt)
      go_enter Tryd.func21, Tryd.ntmps21
      go_wp2_with fail
      refine (erases_any _ _ l _ HVA.out).mono ?_
      rintro e w1 ⟨⟨cv, rv, rfl, ho1, ho2⟩, h1⟩
      rw [HRR.out] at ho1 ho2
      obtain ⟨ca, cc, rfl⟩ := BOwn_form ho1
      obtain ⟨ra, rcc, rfl⟩ := BOwn_form ho2
      obtain ⟨n1, hn1⟩ : ∃ n1, n1 = (A.mk k c m b q cs rc).codes.length := ⟨_, rfl⟩
      obtain ⟨n2, hn2⟩ : ∃ n2, n2 = (A.mk k c m b q cs rc).rc.length := ⟨_, rfl⟩
      change BOwn _ w1 _ cs at ho1
      change BOwn _ w1 _ rc at ho2
      rw [← hn1] at ho1
      rw [← hn2] at ho2
      rw [HRR.out, ← hn1, ← hn2]
      simp only [aval]
      have HO1 := Lib.hid ho1
      have HO2 := Lib.hid ho2
      have H1 := Lib.hid (HA.out.trans (h1.mono (by simp only [World.size_alloc]; omega)))
      have HB1 := Lib.hid (show Bk w1 (w.heap.size + 1) 50 #[.int .i64 0, .int .i64 0, .int .i64 0, .bool false, .int .u8 0, .slice none 0 0, .slice none 0 0] from by
        have h := Bk.new (w.alloc (.cells #[.int .u8 3, .slice a n cap] 40)) 50 #[.int .i64 0, .int .i64 0, .int .i64 0, .bool false, .int .u8 0, .slice none 0 0, .slice none 0 0]
        simp only [World.size_alloc] at h
        exact h.below h1 (by simp only [World.size_alloc]; omega))
      obtain ⟨d0, d1, d2, d3, d4, d5, d6⟩ := cells7 HB1.out
      obtain ⟨f0, f1, f2, f3, f4, f5, f6⟩ := frozen7 HB1.out
      clear h1 ho1 ho2 hn1 hn2
      go_wp2
      clear d0 d1 d2 d3 d4 d5 d6 f0 f1 f2 f3 f4 f5 f6
      exact bodyPost_ret (v := .tuple #[.agg #[.int .i64 k, .int .i64 c, .int .i64 m, .bool b, .int .u8 q, .slice ca n1 cc, .slice ra n2 rcc], .int .i64 er]) (results_struct_tmp (p := 2) (q := 3) rfl _ _ (w.heap.size + 1) 50 _ _ _ rfl (Bk_fill7 HB1.out _ _ _ _ _ _ _) Tryd.underlying50 rfl (by kernel_rfl)) rfl ⟨by rw [HR.out]; exact ActEnd_of ⟨k, c, m, b, q, cs, rc⟩ er _ _ _ _ ((BOwn_fill7 HO1.out (by simp only [World.size_alloc]; omega) _ _ _ _ _ _ _).lower (by simp only [World.size_alloc]; omega)) ((BOwn_fill7 HO2.out (by simp only [World.size_alloc]; omega) _ _ _ _ _ _ _).lower (by simp only [World.size_alloc]; omega)), below_fill7 H1.out (by omega) _ _ _ _ _ _ _⟩
    · have q3 : ((id : Int) == 3) = false := beq_eq_false_iff_ne.2 (by omega)
      by_cases h9 : id = 9
      · subst h9
        obtain ⟨⟨⟨k, c, m, b, q, cs, rc⟩, er⟩, hr⟩ : ∃ x : A × Int, setsOf l = x := ⟨_, rfl⟩
        have HR := Lib.hid (show actOf 9 l = (⟨k, c, m, b, q, cs, rc⟩, er) from hr)
        have HRR := Lib.hid hr
        clear hr
        have HA := Lib.hid (((Below.refl w.heap.size w).alloc (Nat.le_refl _) (.cells #[.int .u8 9, .slice a n cap] 40)).alloc (by simp) (.cells #[.int .i64 0, .int .i64 0, .int .i64 0, .bool false, .int .u8 0, .slice none 0 0, .slice none 0 0] 50))
        have HVA := Lib.hid (HVV.out.below HA.out (Nat.le_refl _))
        have HCA := Lib.hid (HC.out.below HA.out HC.out.lt)
        go_enter Tryd.func21, Tryd.ntmps21
        go_wp2_with fail
        refine (sets_any _ _ l _ HVA.out).mono ?_
        rintro e w1 ⟨⟨cv, rv, rfl, ho1, ho2⟩, h1⟩
        rw [HRR.out] at ho1 ho2
        obtain ⟨ca, cc, rfl⟩ := BOwn_form ho1
        obtain ⟨ra, rcc, rfl⟩ := BOwn_form ho2
        obtain ⟨n1, hn1⟩ : ∃ n1, n1 = (A.mk k c m b q cs rc).codes.length := ⟨_, rfl⟩
        obtain ⟨n2, hn2⟩ : ∃ n2, n2 = (A.mk k c m b q cs rc).rc.length := ⟨_, rfl⟩
        change BOwn _ w1 _ cs at ho1
        change BOwn _ w1 _ rc at ho2
        rw [← hn1] at ho1
        rw [← hn2] at ho2
        rw [HRR.out, ← hn1, ← hn2]
        simp only [aval]
        have HO1 := Lib.hid ho1
        have HO2 := Lib.hid ho2
        have H1 := Lib.hid (HA.out.trans (h1.mono (by simp only [World.size_alloc]; omega)))
        have HB1 := Lib.hid (show Bk w1 (w.heap.size + 1) 50 #[.int .i64 0, .int .i64 0, .int .i64 0, .bool false, .int .u8 0, .slice none 0 0, .slice none 0 0] from by
          have h := Bk.new (w.alloc (.cells #[.int .u8 9, .slice a n cap] 40)) 50 #[.int .i64 0, .int .i64 0, .int .i64 0, .bool false, .int .u8 0, .slice none 0 0, .slice none 0 0]
          simp only [World.size_alloc] at h
          exact h.below h1 (by simp only [World.size_alloc]; omega))
        obtain ⟨d0, d1, d2, d3, d4, d5, d6⟩ := cells7 HB1.out
        obtain ⟨f0, f1, f2, f3, f4, f5, f6⟩ := frozen7 HB1.out
        clear h1 ho1 ho2 hn1 hn2
        go_wp2
        clear d0 d1 d2 d3 d4 d5 d6 f0 f1 f2 f3 f4 f5 f6
        exact bodyPost_ret (v := .tuple #[.agg #[.int .i64 k, .int .i64 c, .int .i64 m, .bool b, .int .u8 q, .slice ca n1 cc, .slice ra n2 rcc], .int .i64 er]) (results_struct_tmp (p := 2) (q := 3) rfl _ _ (w.heap.size + 1) 50 _ _ _ rfl (Bk_fill7 HB1.out _ _ _ _ _ _ _) Tryd.underlying50 rfl (by kernel_rfl)) rfl ⟨by rw [HR.out]; exact ActEnd_of ⟨k, c, m, b, q, cs, rc⟩ er _ _ _ _ ((BOwn_fill7 HO1.out (by simp only [World.size_alloc]; omega) _ _ _ _ _ _ _).lower (by simp only [World.size_alloc]; omega)) ((BOwn_fill7 HO2.out (by simp only [World.size_alloc]; omega) _ _ _ _ _ _ _).lower (by simp only [World.size_alloc]; omega)), below_fill7 H1.out (by omega) _ _ _ _ _ _ _⟩
      · have q9 : ((id : Int) == 9) = false := beq_eq_false_iff_ne.2 (by omega)
        by_cases h12 : id = 12
        · subst h12
          obtain ⟨⟨⟨k, c, m, b, q, cs, rc⟩, er⟩, hr⟩ : ∃ x : A × Int, partsOf ((6 : Nat) : Int) l = x := ⟨_, rfl⟩
          have HR := Lib.hid (show actOf 12 l = (⟨k, c, m, b, q, cs, rc⟩, er) from hr)
          have HRR := Lib.hid hr
          clear hr
          have HA := Lib.hid (((Below.refl w.heap.size w).alloc (Nat.le_refl _) (.cells #[.int .u8 12, .slice a n cap] 40)).alloc (by simp) (.cells #[.int .i64 0, .int .i64 0, .int .i64 0, .bool false, .int .u8 0, .slice none 0 0, .slice none 0 0] 50))
          have HVA := Lib.hid (HVV.out.below HA.out (Nat.le_refl _))
          have HCA := Lib.hid (HC.out.below HA.out HC.out.lt)
          go_enter Tryd.func21, Tryd.ntmps21
          go_wp2_with fail
          refine (parts_any 6 (.inl rfl) _ _ l _ HVA.out).mono ?_
          rintro e w1 ⟨⟨cv, rv, rfl, ho1, ho2⟩, h1⟩
          rw [HRR.out] at ho1 ho2
          obtain ⟨ca, cc, rfl⟩ := BOwn_form ho1
          obtain ⟨ra, rcc, rfl⟩ := BOwn_form ho2
          obtain ⟨n1, hn1⟩ : ∃ n1, n1 = (A.mk k c m b q cs rc).codes.length := ⟨_, rfl⟩
          obtain ⟨n2, hn2⟩ : ∃ n2, n2 = (A.mk k c m b q cs rc).rc.length := ⟨_, rfl⟩
          change BOwn _ w1 _ cs at ho1
          change BOwn _ w1 _ rc at ho2
          rw [← hn1] at ho1
          rw [← hn2] at ho2
          rw [HRR.out, ← hn1, ← hn2]
          simp only [aval]
          have HO1 := Lib.hid ho1
          have HO2 := Lib.hid ho2
          have H1 := Lib.hid (HA.out.trans (h1.mono (by simp only [World.size_alloc]; omega)))
          have HB1 := Lib.hid (show Bk w1 (w.heap.size + 1) 50 #[.int .i64 0, .int .i64 0, .int .i64 0, .bool false, .int .u8 0, .slice none 0 0, .slice none 0 0] from by
            have h := Bk.new (w.alloc (.cells #[.int .u8 12, .slice a n cap] 40)) 50 #[.int .i64 0, .int .i64 0, .int .i64 0, .bool false, .int .u8 0, .slice none 0 0, .slice none 0 0]
            simp only [World.size_alloc] at h
            exact h.below h1 (by simp only [World.size_alloc]; omega))
          obtain ⟨d0, d1, d2, d3, d4, d5, d6⟩ := cells7 HB1.out
          obtain ⟨f0, f1, f2, f3, f4, f5, f6⟩ := frozen7 HB1.out
          clear h1 ho1 ho2 hn1 hn2
          go_wp2
          clear d0 d1 d2 d3 d4 d5 d6 f0 f1 f2 f3 f4 f5 f6
          exact bodyPost_ret (v := .tuple #[.agg #[.int .i64 k, .int .i64 c, .int .i64 m, .bool b, .int .u8 q, .slice ca n1 cc, .slice ra n2 rcc], .int .i64 er]) (results_struct_tmp (p := 2) (q := 3) rfl _ _ (w.heap.size + 1) 50 _ _ _ rfl (Bk_fill7 HB1.out _ _ _ _ _ _ _) Tryd.underlying50 rfl (by kernel_rfl)) rfl ⟨by rw [HR.out]; exact ActEnd_of ⟨k, c, m, b, q, cs, rc⟩ er _ _ _ _ ((BOwn_fill7 HO1.out (by simp only [World.size_alloc]; omega) _ _ _ _ _ _ _).lower (by simp only [World.size_alloc]; omega)) ((BOwn_fill7 HO2.out (by simp only [World.size_alloc]; omega) _ _ _ _ _ _ _).lower (by simp only [World.size_alloc]; omega)), below_fill7 H1.out (by omega) _ _ _ _ _ _ _⟩
        · have q12 : ((id : Int) == 12) = false := beq_eq_false_iff_ne.2 (by omega)
          by_cases h13 : id = 13
          · subst h13
            obtain ⟨⟨⟨k, c, m, b, q, cs, rc⟩, er⟩, hr⟩ : ∃ x : A × Int, partsOf ((7 : Nat) : Int) l = x := ⟨_, rfl⟩
            have HR := Lib.hid (show actOf 13 l = (⟨k, c, m, b, q, cs, rc⟩, er) from hr)
            have HRR := Lib.hid hr
            clear hr
            have HA := Lib.hid (((Below.refl w.heap.size w).alloc (Nat.le_refl _) (.cells #[.int .u8 13, .slice a n cap] 40)).alloc (by simp) (.cells #[.int .i64 0, .int .i64 0, .int .i64 0, .bool false, .int .u8 0, .slice none 0 0, .slice none 0 0] 50))
            have HVA := Lib.hid (HVV.out.below HA.out (Nat.le_refl _))
            have HCA := Lib.hid (HC.out.below HA.out HC.out.lt)
            go_enter Tryd.func21, Tryd.ntmps21
            go_wp2_with fail
            refine (parts_any 7 (.inr (.inl rfl)) _ _ l _ HVA.out).mono ?_
            rintro e w1 ⟨⟨cv, rv, rfl, ho1, ho2⟩, h1⟩
            rw [HRR.out] at ho1 ho2
            obtain ⟨ca, cc, rfl⟩ := BOwn_form ho1
            obtain ⟨ra, rcc, rfl⟩ := BOwn_form ho2
            obtain ⟨n1, hn1⟩ : ∃ n1, n1 = (A.mk k c m b q cs rc).codes.length := ⟨_, rfl⟩
            obtain ⟨n2, hn2⟩ : ∃ n2, n2 = (A.mk k c m b q cs rc).rc.length := ⟨_, rfl⟩
            change BOwn _ w1 _ cs at ho1
            change BOwn _ w1 _ rc at ho2
            rw [← hn1] at ho1
            rw [← hn2] at ho2
            rw [HRR.out, ← hn1, ← hn2]
            simp only [aval]
            have HO1 := Lib.hid ho1
            have HO2 := Lib.hid ho2
            have H1 := Lib.hid (HA.out.trans (h1.mono (by simp only [World.size_alloc]; omega)))
            have HB1 := Lib.hid (show Bk w1 (w.heap.size + 1) 50 #[.int .i64 0, .int .i64 0, .int .i64 0, .bool false, .int .u8 0, .slice none 0 0, .slice none 0 0] from by
              have h := Bk.new (w.alloc (.cells #[.int .u8 13, .slice a n cap] 40)) 50 #[.int .i64 0, .int .i64 0, .int .i64 0, .bool false, .int .u8 0, .slice none 0 0, .slice none 0 0]
              simp only [World.size_alloc] at h
              exact h.below h1 (by simp only [World.size_alloc]; omega))
            obtain ⟨d0, d1, d2, d3, d4, d5, d6⟩ := cells7 HB1.out
            obtain ⟨f0, f1, f2, f3, f4, f5, f6⟩ := frozen7 HB1.out
            clear h1 ho1 ho2 hn1 hn2
            go_wp2
            clear d0 d1 d2 d3 d4 d5 d6 f0 f1 f2 f3 f4 f5 f6
            exact bodyPost_ret (v := .tuple #[.agg #[.int .i64 k, .int .i64 c, .int .i64 m, .bool b, .int .u8 q, .slice ca n1 cc, .slice ra n2 rcc], .int .i64 er]) (results_struct_tmp (p := 2) (q := 3) rfl _ _ (w.heap.size + 1) 50 _ _ _ rfl (Bk_fill7 HB1.out _ _ _ _ _ _ _) Tryd.underlying50 rfl (by kernel_rfl)) rfl ⟨by rw [HR.out]; exact ActEnd_of ⟨k, c, m, b, q, cs, rc⟩ er _ _ _ _ ((BOwn_fill7 HO1.out (by simp only [World.size_alloc]; omega) _ _ _ _ _ _ _).lower (by simp only [World.size_alloc]; omega)) ((BOwn_fill7 HO2.out (by simp only [World.size_alloc]; omega) _ _ _ _ _ _ _).lower (by simp only [World.size_alloc]; omega)), below_fill7 H1.out (by omega) _ _ _ _ _ _ _⟩
          · have q13 : ((id : Int) == 13) = false := beq_eq_false_iff_ne.2 (by omega)
            by_cases h14 : id = 14
            · subst h14
              obtain ⟨⟨⟨k, c, m, b, q, cs, rc⟩, er⟩, hr⟩ : ∃ x : A × Int, partsOf ((8 : Nat) : Int) l = x := ⟨_, rfl⟩
              have HR := Lib.hid (show actOf 14 l = (⟨k, c, m, b, q, cs, rc⟩, er) from hr)
              have HRR := Lib.hid hr
              clear hr
              have HA := Lib.hid (((Below.refl w.heap.size w).alloc (Nat.le_refl _) (.cells #[.int .u8 14, .slice a n cap] 40)).alloc (by simp) (.cells #[.int .i64 0, .int .i64 0, .int .i64 0, .bool false, .int .u8 0, .slice none 0 0, .slice none 0 0] 50))
              have HVA := Lib.hid (HVV.out.below HA.out (Nat.le_refl _))
              have HCA := Lib.hid (HC.out.below HA.out HC.out.lt)
              go_enter Tryd.func21, Tryd.ntmps21
              go_wp2_with fail
              refine (parts_any 8 (.inr (.inr rfl)) _ _ l _ HVA.out).mono ?_
              rintro e w1 ⟨⟨cv, rv, rfl, ho1, ho2⟩, h1⟩
              rw [HRR.out] at ho1 ho2
              obtain ⟨ca, cc, rfl⟩ := BOwn_form ho1
              obtain ⟨ra, rcc, rfl⟩ := BOwn_form ho2
              obtain ⟨n1, hn1⟩ : ∃ n1, n1 = (A.mk k c m b q cs rc).codes.length := ⟨_, rfl⟩
              obtain ⟨n2, hn2⟩ : ∃ n2, n2 = (A.mk k c m b q cs rc).rc.length := ⟨_, rfl⟩
              change BOwn _ w1 _ cs at ho1
              change BOwn _ w1 _ rc at ho2
              rw [← hn1] at ho1
              rw [← hn2] at ho2
              rw [HRR.out, ← hn1, ← hn2]
              simp only [aval]
              have HO1 := Lib.hid ho1
              have HO2 := Lib.hid ho2
              have H1 := Lib.hid (HA.out.trans (h1.mono (by simp only [World.size_alloc]; omega)))
              have HB1 := Lib.hid (show Bk w1 (w.heap.size + 1) 50 #[.int .i64 0, .int .i64 0, .int .i64 0, .bool false, .int .u8 0, .slice none 0 0, .slice none 0 0] from by
                have h := Bk.new (w.alloc (.cells #[.int .u8 14, .slice a n cap] 40)) 50 #[.int .i64 0, .int .i64 0, .int .i64 0, .bool false, .int .u8 0, .slice none 0 0, .slice none 0 0]
                simp only [World.size_alloc] at h
                exact h.below h1 (by simp only [World.size_alloc]; omega))
              obtain ⟨d0, d1, d2, d3, d4, d5, d6⟩ := cells7 HB1.out
              obtain ⟨f0, f1, f2, f3, f4, f5, f6⟩ := frozen7 HB1.out
              clear h1 ho1 ho2 hn1 hn2
              go_wp2
              clear d0 d1 d2 d3 d4 d5 d6 f0 f1 f2 f3 f4 f5 f6
              exact bodyPost_ret (v := .tuple #[.agg #[.int .i64 k, .int .i64 c, .int .i64 m, .bool b, .int .u8 q, .slice ca n1 cc, .slice ra n2 rcc], .int .i64 er]) (results_struct_tmp (p := 2) (q := 3) rfl _ _ (w.heap.size + 1) 50 _ _ _ rfl (Bk_fill7 HB1.out _ _ _ _ _ _ _) Tryd.underlying50 rfl (by kernel_rfl)) rfl ⟨by rw [HR.out]; exact ActEnd_of ⟨k, c, m, b, q, cs, rc⟩ er _ _ _ _ ((BOwn_fill7 HO1.out (by simp only [World.size_alloc]; omega) _ _ _ _ _ _ _).lower (by simp only [World.size_alloc]; omega)) ((BOwn_fill7 HO2.out (by simp only [World.size_alloc]; omega) _ _ _ _ _ _ _).lower (by simp only [World.size_alloc]; omega)), below_fill7 H1.out (by omega) _ _ _ _ _ _ _⟩
            · have q14 : ((id : Int) == 14) = false := beq_eq_false_iff_ne.2 (by omega)
              by_cases h64 : id = 64
              · subst h64
                obtain ⟨⟨⟨k, c, m, b, q, cs, rc⟩, er⟩, hr⟩ : ∃ x : A × Int, outsOf l = x := ⟨_, rfl⟩
                have HR := Lib.hid (show actOf 64 l = (⟨k, c, m, b, q, cs, rc⟩, er) from hr)
                have HRR := Lib.hid hr
                clear hr
                have HA := Lib.hid (((Below.refl w.heap.size w).alloc (Nat.le_refl _) (.cells #[.int .u8 64, .slice a n cap] 40)).alloc (by simp) (.cells #[.int .i64 0, .int .i64 0, .int .i64 0, .bool false, .int .u8 0, .slice none 0 0, .slice none 0 0] 50))
                have HVA := Lib.hid (HVV.out.below HA.out (Nat.le_refl _))
                have HCA := Lib.hid (HC.out.below HA.out HC.out.lt)
                go_enter Tryd.func21, Tryd.ntmps21
                go_wp2_with fail
                refine (outs_any _ _ l _ HVA.out H47.out HCA.out).mono ?_
                rintro e w1 ⟨⟨cv, rv, rfl, ho1, ho2⟩, h1⟩
                rw [HRR.out] at ho1 ho2
                obtain ⟨ca, cc, rfl⟩ := BOwn_form ho1
                obtain ⟨ra, rcc, rfl⟩ := BOwn_form ho2
                obtain ⟨n1, hn1⟩ : ∃ n1, n1 = (A.mk k c m b q cs rc).codes.length := ⟨_, rfl⟩
                obtain ⟨n2, hn2⟩ : ∃ n2, n2 = (A.mk k c m b q cs rc).rc.length := ⟨_, rfl⟩
                change BOwn _ w1 _ cs at ho1
                change BOwn _ w1 _ rc at ho2
                rw [← hn1] at ho1
                rw [← hn2] at ho2
                rw [HRR.out, ← hn1, ← hn2]
                simp only [aval]
                have HO1 := Lib.hid ho1
                have HO2 := Lib.hid ho2
                have H1 := Lib.hid (HA.out.trans (h1.mono (by simp only [World.size_alloc]; omega)))
                have HB1 := Lib.hid (show Bk w1 (w.heap.size + 1) 50 #[.int .i64 0, .int .i64 0, .int .i64 0, .bool false, .int .u8 0, .slice none 0 0, .slice none 0 0] from by
                  have h := Bk.new (w.alloc (.cells #[.int .u8 64, .slice a n cap] 40)) 50 #[.int .i64 0, .int .i64 0, .int .i64 0, .bool false, .int .u8 0, .slice none 0 0, .slice none 0 0]
                  simp only [World.size_alloc] at h
                  exact h.below h1 (by simp only [World.size_alloc]; omega))
                obtain ⟨d0, d1, d2, d3, d4, d5, d6⟩ := cells7 HB1.out
                obtain ⟨f0, f1, f2, f3, f4, f5, f6⟩ := frozen7 HB1.out
                clear h1 ho1 ho2 hn1 hn2
                go_wp2
                clear d0 d1 d2 d3 d4 d5 d6 f0 f1 f2 f3 f4 f5 f6
                exact bodyPost_ret (v := .tuple #[.agg #[.int .i64 k, .int .i64 c, .int .i64 m, .bool b, .int .u8 q, .slice ca n1 cc, .slice ra n2 rcc], .int .i64 er]) (results_struct_tmp (p := 2) (q := 3) rfl _ _ (w.heap.size + 1) 50 _ _ _ rfl (Bk_fill7 HB1.out _ _ _ _ _ _ _) Tryd.underlying50 rfl (by kernel_rfl)) rfl ⟨by rw [HR.out]; exact ActEnd_of ⟨k, c, m, b, q, cs, rc⟩ er _ _ _ _ ((BOwn_fill7 HO1.out (by simp only [World.size_alloc]; omega) _ _ _ _ _ _ _).lower (by simp only [World.size_alloc]; omega)) ((BOwn_fill7 HO2.out (by simp only [World.size_alloc]; omega) _ _ _ _ _ _ _).lower (by simp only [World.size_alloc]; omega)), below_fill7 H1.out (by omega) _ _ _ _ _ _ _⟩
              · have q64 : ((id : Int) == 64) = false := beq_eq_false_iff_ne.2 (by omega)
                have HR := Lib.hid (show actOf id l = (A0, 10) by unfold actOf; rw [if_neg h1, if_neg h3, if_neg h9, if_neg h12, if_neg h13, if_neg h14, if_neg h64])
                clear h1 h3 h9 h12 h13 h14 h64
                go_enter Tryd.func21, Tryd.ntmps21
                go_wp2
                exact bodyPost_ret (v := .tuple #[.agg #[.int .i64 0, .int .i64 0, .int .i64 0, .bool false, .int .u8 0, .slice none 0 0, .slice none 0 0], .int .i64 10]) (by simp [results, Tryd.results21, go_sem]) rfl ⟨by rw [HR.out]; exact ActEnd_of _ _ _ _ _ _ BOwn_nil BOwn_nil, ((Below.refl _ _).alloc (Nat.le_refl _) _).alloc (by simp) _⟩
end Go.Proofs.YtcibhchbgendaaaDoor.Sf
