/- The walk of query.says: what a code says. -/
import Derived.Test.YtcibhchbgendaabQyCat
import Derived.Deep.QuietTactic
import Derived.BigQuiet
import Derived.RegionTactic
import Derived.BigRegion
import Derived.Deep.DrawnRows
namespace Go.Proofs.Ytcibhchbgendaab.Qy
open Go Go.RowKit Go.Proofs.Ytcibhchbgendaab.By Go.Proofs.Ytcibhchbgendaab.Sf
attribute [local go_sem ↓] Go.wp_at_zero Go.wp_at_succ

theorem two_own (n : Nat) (hn : n ≤ 60000) (w : World) : Calls Try.prog 92 #[.int .i64 n] w fun e w' => ∃ p, e = .returned (.slice (some ⟨p, 0, none⟩) 2 2) ∧ BOwn w.heap.size w' (.slice (some ⟨p, 0, none⟩) 2 2) (two n) ∧ Below w.heap.size w w' := by
  refine (two_any n hn w).mono ?_
  rintro e w' ⟨rfl, rfl⟩
  exact ⟨_, rfl, own_lit w (two n) (by simp [two]) (by intro x hx; simp [two] at hx; omega), (Below.refl _ _).alloc (Nat.le_refl _) _⟩
/-- how a call ends that tells bytes of its own -/
def OwnB (l : List Nat) (B : Nat) (e : Ending) (w' : World) : Prop := ∃ p c, e = .returned (.slice p l.length c) ∧ BOwn B w' (.slice p l.length c) l
theorem PgP_up {w w' : World} {v : Value} {k : Nat} (h : PgP w v k) (hb : Below w.heap.size w w') : PgP w' v k := by
  rcases h with h | ⟨b, h1, h2⟩
  · exact .inl h
  · exact .inr ⟨b, h1, h2.below hb⟩
theorem row_up {B : Nat} {W W' : World} {v : Value} {l : List Nat} (h : BOwn B W v l) (hb : Below W.heap.size W W') : BRow W' v l := (h.below hb (Nat.le_refl _)).row

set_option maxHeartbeats 8000000 in
set_option maxRecDepth 100000 in
theorem says128_any (R C k : Nat) (hR : 1 ≤ R ∧ R ≤ 43) (hC : 1 ≤ C ∧ C ≤ 132) (hRC : R * C ≤ 3564) (hk : k ≤ 2000) (p : Value) (w : World) (hp : PgP w p k) :
    Calls Try.prog 85 #[.int .u8 128, .agg #[.int .i64 R, .int .i64 C], p] w fun e w' => OwnB (codes7) w.heap.size e w' ∧ Below w.heap.size w w' := by
  obtain ⟨L, hL⟩ : ∃ L, L = codes7 := ⟨_, rfl⟩
  rw [← hL]
  have HL := Lib.hid hL
  clear hL
  have HPG := Lib.hid hp
  have HSZ := Lib.hid (And.intro hR (And.intro hC hRC))
  have hR6 : R ≤ 60000 := by omega
  have hC6 : C ≤ 60000 := by omega
  have hk6 : k ≤ 60000 := by omega
  have HBX := Lib.hid (Bk.new w 147 #[.int .i64 R, .int .i64 C])
  have HB0 := Lib.hid (((Below.refl w.heap.size w).alloc (Nat.le_refl _) (.cells #[.int .i64 R, .int .i64 C] 147)).drew)
  have TOK := Lib.hid True.intro
  clear hp hR hC hRC
  go_enter Try.func85, Try.ntmps85
  go_wp2_with fail
  go_region_with (first
    | (go_at_call 92; clear TOK; refine (two_own R hR6 _).mono ?_; rintro e w1 ⟨p1, rfl, ho, hb⟩; have HO1 := Lib.hid ho; have HB1 := Lib.hid (HB0.out.trans (hb.mono (by simp))); have HX1 := Lib.hid (HBX.out.drew.below hb (by simp)); have x0 := HX1.out.cellv (i := 0) rfl; have x1 := HX1.out.cellv (i := 1) rfl; have hs1 : w.heap.size + 1 ≤ w1.heap.size := (by have := hb.size; simp at this; omega); clear ho hb)
    | (go_at_call 92; refine (two_own C hC6 _).mono ?_; rintro e w2 ⟨p2, rfl, ho, hb⟩; have HO2 := Lib.hid (ho.lower (C := w.heap.size) (by omega)); have HO12 := Lib.hid ((HO1.out.lower (C := w.heap.size) (by simp)).below hb (Nat.le_refl _)); have HB2 := Lib.hid (HB1.out.trans (hb.mono (by omega))); have HX2 := Lib.hid (HX1.out.below hb (by omega)); have hs2 := hb.size; clear x0 x1; have x0 := HX2.out.cellv (i := 0) rfl; have x1 := HX2.out.cellv (i := 1) rfl; clear ho hb)
    | fail)
  all_goals
    clear x0 x1
    go_wp2_with fail
    refine (codes_any _).mono ?_
    rintro e w3 ⟨rfl, rfl⟩
    go_wp2_with fail
    go_ret
    exact ⟨⟨_, _, by rw [HL.out]; rfl, by rw [HL.out]; exact (codes_own w2).lower (by omega)⟩, HB2.out.alloc (by omega) _⟩
set_option maxHeartbeats 8000000 in
set_option maxRecDepth 100000 in
theorem says135_any (R C k : Nat) (hR : 1 ≤ R ∧ R ≤ 43) (hC : 1 ≤ C ∧ C ≤ 132) (hRC : R * C ≤ 3564) (hk : k ≤ 2000) (p : Value) (w : World) (hp : PgP w p k) :
    Calls Try.prog 85 #[.int .u8 135, .agg #[.int .i64 R, .int .i64 C], p] w fun e w' => OwnB ([5, 0, 240, 241, 241, 242, 242, 244, 244, 248, 248]) w.heap.size e w' ∧ Below w.heap.size w w' := by
  obtain ⟨L, hL⟩ : ∃ L, L = [5, 0, 240, 241, 241, 242, 242, 244, 244, 248, 248] := ⟨_, rfl⟩
  rw [← hL]
  have HL := Lib.hid hL
  clear hL
  have HPG := Lib.hid hp
  have HSZ := Lib.hid (And.intro hR (And.intro hC hRC))
  have hR6 : R ≤ 60000 := by omega
  have hC6 : C ≤ 60000 := by omega
  have hk6 : k ≤ 60000 := by omega
  have HBX := Lib.hid (Bk.new w 147 #[.int .i64 R, .int .i64 C])
  have HB0 := Lib.hid (((Below.refl w.heap.size w).alloc (Nat.le_refl _) (.cells #[.int .i64 R, .int .i64 C] 147)).drew)
  have TOK := Lib.hid True.intro
  clear hp hR hC hRC
  go_enter Try.func85, Try.ntmps85
  go_wp2_with fail
  go_region_with (first
    | (go_at_call 92; clear TOK; refine (two_own R hR6 _).mono ?_; rintro e w1 ⟨p1, rfl, ho, hb⟩; have HO1 := Lib.hid ho; have HB1 := Lib.hid (HB0.out.trans (hb.mono (by simp))); have HX1 := Lib.hid (HBX.out.drew.below hb (by simp)); have x0 := HX1.out.cellv (i := 0) rfl; have x1 := HX1.out.cellv (i := 1) rfl; have hs1 : w.heap.size + 1 ≤ w1.heap.size := (by have := hb.size; simp at this; omega); clear ho hb)
    | (go_at_call 92; refine (two_own C hC6 _).mono ?_; rintro e w2 ⟨p2, rfl, ho, hb⟩; have HO2 := Lib.hid (ho.lower (C := w.heap.size) (by omega)); have HO12 := Lib.hid ((HO1.out.lower (C := w.heap.size) (by simp)).below hb (Nat.le_refl _)); have HB2 := Lib.hid (HB1.out.trans (hb.mono (by omega))); have HX2 := Lib.hid (HX1.out.below hb (by omega)); have hs2 := hb.size; clear x0 x1; have x0 := HX2.out.cellv (i := 0) rfl; have x1 := HX2.out.cellv (i := 1) rfl; clear ho hb)
    | fail)
  all_goals
    clear x0 x1
    go_wp2_with fail
    go_ret
    exact ⟨⟨_, _, by rw [HL.out]; rfl, by rw [HL.out]; exact (own_lit w2 [5, 0, 240, 241, 241, 242, 242, 244, 244, 248, 248] (by decide) (by decide)).lower (by omega)⟩, HB2.out.alloc (by omega) _⟩
set_option maxHeartbeats 8000000 in
set_option maxRecDepth 100000 in
theorem says136_any (R C k : Nat) (hR : 1 ≤ R ∧ R ≤ 43) (hC : 1 ≤ C ∧ C ≤ 132) (hRC : R * C ≤ 3564) (hk : k ≤ 2000) (p : Value) (w : World) (hp : PgP w p k) :
    Calls Try.prog 85 #[.int .u8 136, .agg #[.int .i64 R, .int .i64 C], p] w fun e w' => OwnB ([0, 1, 2]) w.heap.size e w' ∧ Below w.heap.size w w' := by
  obtain ⟨L, hL⟩ : ∃ L, L = [0, 1, 2] := ⟨_, rfl⟩
  rw [← hL]
  have HL := Lib.hid hL
  clear hL
  have HPG := Lib.hid hp
  have HSZ := Lib.hid (And.intro hR (And.intro hC hRC))
  have hR6 : R ≤ 60000 := by omega
  have hC6 : C ≤ 60000 := by omega
  have hk6 : k ≤ 60000 := by omega
  have HBX := Lib.hid (Bk.new w 147 #[.int .i64 R, .int .i64 C])
  have HB0 := Lib.hid (((Below.refl w.heap.size w).alloc (Nat.le_refl _) (.cells #[.int .i64 R, .int .i64 C] 147)).drew)
  have TOK := Lib.hid True.intro
  clear hp hR hC hRC
  go_enter Try.func85, Try.ntmps85
  go_wp2_with fail
  go_region_with (first
    | (go_at_call 92; clear TOK; refine (two_own R hR6 _).mono ?_; rintro e w1 ⟨p1, rfl, ho, hb⟩; have HO1 := Lib.hid ho; have HB1 := Lib.hid (HB0.out.trans (hb.mono (by simp))); have HX1 := Lib.hid (HBX.out.drew.below hb (by simp)); have x0 := HX1.out.cellv (i := 0) rfl; have x1 := HX1.out.cellv (i := 1) rfl; have hs1 : w.heap.size + 1 ≤ w1.heap.size := (by have := hb.size; simp at this; omega); clear ho hb)
    | (go_at_call 92; refine (two_own C hC6 _).mono ?_; rintro e w2 ⟨p2, rfl, ho, hb⟩; have HO2 := Lib.hid (ho.lower (C := w.heap.size) (by omega)); have HO12 := Lib.hid ((HO1.out.lower (C := w.heap.size) (by simp)).below hb (Nat.le_refl _)); have HB2 := Lib.hid (HB1.out.trans (hb.mono (by omega))); have HX2 := Lib.hid (HX1.out.below hb (by omega)); have hs2 := hb.size; clear x0 x1; have x0 := HX2.out.cellv (i := 0) rfl; have x1 := HX2.out.cellv (i := 1) rfl; clear ho hb)
    | fail)
  all_goals
    clear x0 x1
    go_wp2_with fail
    go_ret
    exact ⟨⟨_, _, by rw [HL.out]; rfl, by rw [HL.out]; exact (own_lit w2 [0, 1, 2] (by decide) (by decide)).lower (by omega)⟩, HB2.out.alloc (by omega) _⟩
set_option maxHeartbeats 8000000 in
set_option maxRecDepth 100000 in
theorem says166_any (R C k : Nat) (hR : 1 ≤ R ∧ R ≤ 43) (hC : 1 ≤ C ∧ C ≤ 132) (hRC : R * C ≤ 3564) (hk : k ≤ 2000) (p : Value) (w : World) (hp : PgP w p k) :
    Calls Try.prog 85 #[.int .u8 166, .agg #[.int .i64 R, .int .i64 C], p] w fun e w' => OwnB ([0, 0, 11, 1, 0, 0, 80, 0, 24] ++ (two C ++ two R)) w.heap.size e w' ∧ Below w.heap.size w w' := by
  obtain ⟨L, hL⟩ : ∃ L, L = [0, 0, 11, 1, 0, 0, 80, 0, 24] ++ (two C ++ two R) := ⟨_, rfl⟩
  rw [← hL]
  have HL := Lib.hid hL
  clear hL
  have HPG := Lib.hid hp
  have HSZ := Lib.hid (And.intro hR (And.intro hC hRC))
  have hR6 : R ≤ 60000 := by omega
  have hC6 : C ≤ 60000 := by omega
  have hk6 : k ≤ 60000 := by omega
  have HBX := Lib.hid (Bk.new w 147 #[.int .i64 R, .int .i64 C])
  have HB0 := Lib.hid (((Below.refl w.heap.size w).alloc (Nat.le_refl _) (.cells #[.int .i64 R, .int .i64 C] 147)).drew)
  have TOK := Lib.hid True.intro
  clear hp hR hC hRC
  go_enter Try.func85, Try.ntmps85
  go_wp2_with fail
  go_region_with (first
    | (go_at_call 92; clear TOK; refine (two_own R hR6 _).mono ?_; rintro e w1 ⟨p1, rfl, ho, hb⟩; have HO1 := Lib.hid ho; have HB1 := Lib.hid (HB0.out.trans (hb.mono (by simp))); have HX1 := Lib.hid (HBX.out.drew.below hb (by simp)); have x0 := HX1.out.cellv (i := 0) rfl; have x1 := HX1.out.cellv (i := 1) rfl; have hs1 : w.heap.size + 1 ≤ w1.heap.size := (by have := hb.size; simp at this; omega); clear ho hb)
    | (go_at_call 92; refine (two_own C hC6 _).mono ?_; rintro e w2 ⟨p2, rfl, ho, hb⟩; have HO2 := Lib.hid (ho.lower (C := w.heap.size) (by omega)); have HO12 := Lib.hid ((HO1.out.lower (C := w.heap.size) (by simp)).below hb (Nat.le_refl _)); have HB2 := Lib.hid (HB1.out.trans (hb.mono (by omega))); have HX2 := Lib.hid (HX1.out.below hb (by omega)); have hs2 := hb.size; clear x0 x1; have x0 := HX2.out.cellv (i := 0) rfl; have x1 := HX2.out.cellv (i := 1) rfl; clear ho hb)
    | fail)
  all_goals
    clear x0 x1
    obtain ⟨w3, hw3⟩ : ∃ w3, w3 = w2.alloc (.cells #[.int .u8 0, .int .u8 0, .int .u8 11, .int .u8 1, .int .u8 0, .int .u8 0, .int .u8 80, .int .u8 0, .int .u8 24] 5) := ⟨_, rfl⟩
    have hb3 : Below w2.heap.size w2 w3 := by rw [hw3]; exact (Below.refl _ _).alloc (Nat.le_refl _) _
    have HLA := Lib.hid (show BOwn w2.heap.size w3 (.slice (some ⟨w2.heap.size, 0, none⟩) 9 9) [0, 0, 11, 1, 0, 0, 80, 0, 24] by rw [hw3]; exact own_lit w2 [0, 0, 11, 1, 0, 0, 80, 0, 24] (by decide) (by decide))
    have HO2a := Lib.hid (HO2.out.below hb3 (Nat.le_refl _))
    have HO1a := Lib.hid (HO12.out.below hb3 (Nat.le_refl _))
    have HB3 := Lib.hid (HB2.out.trans (hb3.mono (by omega)))
    have hs3 := hb3.size
    have HUP := Lib.hid ((Below.refl w3.heap.size w3).alloc (Nat.le_refl _) (.cells #[.slice (some ⟨w2.heap.size, 0, none⟩) 9 9, .slice (some ⟨p2, 0, none⟩) 2 2, .slice (some ⟨p1, 0, none⟩) 2 2] 22))
    have hcat := concat_any w3.heap.size 3 [(.slice (some ⟨w2.heap.size, 0, none⟩) 9 9, [0, 0, 11, 1, 0, 0, 80, 0, 24]), (.slice (some ⟨p2, 0, none⟩) 2 2, two C), (.slice (some ⟨p1, 0, none⟩) 2 2, two R)] (w3.alloc (.cells #[.slice (some ⟨w2.heap.size, 0, none⟩) 9 9, .slice (some ⟨p2, 0, none⟩) 2 2, .slice (some ⟨p1, 0, none⟩) 2 2] 22)) (Bk.new _ _ _) rfl (by decide) (by
      intro x hx
      simp only [List.mem_cons, List.not_mem_nil, or_false] at hx
      rcases hx with rfl | rfl | rfl
      · exact row_up HLA.out HUP.out
      · exact row_up HO2a.out HUP.out
      · exact row_up HO1a.out HUP.out) (by simp [catOf, two]) (by simp [catOf, two])
    have HLST := Lib.hid (show L = catOf [(.slice (some ⟨w2.heap.size, 0, none⟩) 9 9, [0, 0, 11, 1, 0, 0, 80, 0, 24]), (.slice (some ⟨p2, 0, none⟩) 2 2, two C), (.slice (some ⟨p1, 0, none⟩) 2 2, two R)] by rw [HL.out]; simp [catOf])
    subst hw3
    simp only [World.size_alloc] at hcat
    have HCAT := Lib.hid hcat
    clear hcat
    go_wp2_with fail
    refine HCAT.out.mono ?_
    rintro e w9 ⟨⟨p9, c9, rfl, ho⟩, hb⟩
    have HO9 := Lib.hid ho
    have HB9 := Lib.hid (HB3.out.trans ((HUP.out.mono (by omega)).trans (hb.mono (by first | omega | (simp; omega)))))
    clear ho hb
    go_wp2_with fail
    go_ret
    exact ⟨⟨p9, c9, by rw [HLST.out]; rfl, by rw [HLST.out]; exact HO9.out.lower (by first | omega | (simp; omega))⟩, HB9.out⟩
set_option maxHeartbeats 8000000 in
set_option maxRecDepth 100000 in
theorem says134_any (R C k : Nat) (hR : 1 ≤ R ∧ R ≤ 43) (hC : 1 ≤ C ∧ C ≤ 132) (hRC : R * C ≤ 3564) (hk : k ≤ 2000) (p : Value) (w : World) (hp : PgP w p k) :
    Calls Try.prog 85 #[.int .u8 134, .agg #[.int .i64 R, .int .i64 C], p] w fun e w' => OwnB ([0, 8, 0, 244] ++ colorList) w.heap.size e w' ∧ Below w.heap.size w w' := by
  obtain ⟨L, hL⟩ : ∃ L, L = [0, 8, 0, 244] ++ colorList := ⟨_, rfl⟩
  rw [← hL]
  have HL := Lib.hid hL
  clear hL
  have HPG := Lib.hid hp
  have HSZ := Lib.hid (And.intro hR (And.intro hC hRC))
  have hR6 : R ≤ 60000 := by omega
  have hC6 : C ≤ 60000 := by omega
  have hk6 : k ≤ 60000 := by omega
  have HBX := Lib.hid (Bk.new w 147 #[.int .i64 R, .int .i64 C])
  have HB0 := Lib.hid (((Below.refl w.heap.size w).alloc (Nat.le_refl _) (.cells #[.int .i64 R, .int .i64 C] 147)).drew)
  have TOK := Lib.hid True.intro
  clear hp hR hC hRC
  go_enter Try.func85, Try.ntmps85
  go_wp2_with fail
  go_region_with (first
    | (go_at_call 92; clear TOK; refine (two_own R hR6 _).mono ?_; rintro e w1 ⟨p1, rfl, ho, hb⟩; have HO1 := Lib.hid ho; have HB1 := Lib.hid (HB0.out.trans (hb.mono (by simp))); have HX1 := Lib.hid (HBX.out.drew.below hb (by simp)); have x0 := HX1.out.cellv (i := 0) rfl; have x1 := HX1.out.cellv (i := 1) rfl; have hs1 : w.heap.size + 1 ≤ w1.heap.size := (by have := hb.size; simp at this; omega); clear ho hb)
    | (go_at_call 92; refine (two_own C hC6 _).mono ?_; rintro e w2 ⟨p2, rfl, ho, hb⟩; have HO2 := Lib.hid (ho.lower (C := w.heap.size) (by omega)); have HO12 := Lib.hid ((HO1.out.lower (C := w.heap.size) (by simp)).below hb (Nat.le_refl _)); have HB2 := Lib.hid (HB1.out.trans (hb.mono (by omega))); have HX2 := Lib.hid (HX1.out.below hb (by omega)); have hs2 := hb.size; clear x0 x1; have x0 := HX2.out.cellv (i := 0) rfl; have x1 := HX2.out.cellv (i := 1) rfl; clear ho hb)
    | fail)
  all_goals
    clear x0 x1
    go_wp2_with fail
    refine (colors_any _).mono ?_
    rintro e w4 ⟨p4, c4, rfl, ho4, hb4⟩
    have HLA := Lib.hid ((own_lit w2 [0, 8, 0, 244] (by decide) (by decide)).below hb4 (Nat.le_refl _))
    have HO4 := Lib.hid ho4
    have HB4 := Lib.hid ((HB2.out.alloc (by omega) _).trans (hb4.mono (by simp; omega)))
    have hs4 : w2.heap.size ≤ w4.heap.size := by have := hb4.size; simp at this; omega
    clear ho4 hb4
    have HUP := Lib.hid ((Below.refl w4.heap.size w4).alloc (Nat.le_refl _) (.cells #[.slice (some ⟨w2.heap.size, 0, none⟩) 4 4, .slice p4 14 c4] 22))
    have hcat := concat_any w4.heap.size 2 [(.slice (some ⟨w2.heap.size, 0, none⟩) 4 4, [0, 8, 0, 244]), (.slice p4 14 c4, colorList)] (w4.alloc (.cells #[.slice (some ⟨w2.heap.size, 0, none⟩) 4 4, .slice p4 14 c4] 22)) (Bk.new _ _ _) rfl (by decide) (by
      intro x hx
      simp only [List.mem_cons, List.not_mem_nil, or_false] at hx
      rcases hx with rfl | rfl
      · exact row_up HLA.out HUP.out
      · exact row_up HO4.out HUP.out) (by simp [catOf]) (by simp [catOf, colorList])
    have HLST := Lib.hid (show L = catOf [(.slice (some ⟨w2.heap.size, 0, none⟩) 4 4, [0, 8, 0, 244]), (.slice p4 14 c4, colorList)] by rw [HL.out]; simp [catOf])
    have HCAT := Lib.hid hcat
    clear hcat
    go_wp2_with fail
    refine HCAT.out.mono ?_
    rintro e w9 ⟨⟨p9, c9, rfl, ho⟩, hb⟩
    have HO9 := Lib.hid ho
    have HB9 := Lib.hid (HB4.out.trans ((HUP.out.mono (by omega)).trans (hb.mono (by first | omega | (simp; omega)))))
    clear ho hb
    go_wp2_with fail
    go_ret
    exact ⟨⟨p9, c9, by rw [HLST.out]; rfl, by rw [HLST.out]; exact HO9.out.lower (by first | omega | (simp; omega))⟩, HB9.out⟩
set_option maxHeartbeats 8000000 in
set_option maxRecDepth 100000 in
theorem says133_any (R C k : Nat) (hR : 1 ≤ R ∧ R ≤ 43) (hC : 1 ≤ C ∧ C ≤ 132) (hRC : R * C ≤ 3564) (hk : k ≤ 2000) (p : Value) (w : World) (hp : PgP w p k) :
    Calls Try.prog 85 #[.int .u8 133, .agg #[.int .i64 R, .int .i64 C], p] w fun e w' => OwnB ([130, 0, 9, 12, 0, 0, 0, 0, 7, 0, 0, 0] ++ (two k ++ [2, 241, 3, 1, 54])) w.heap.size e w' ∧ Below w.heap.size w w' := by
  obtain ⟨L, hL⟩ : ∃ L, L = [130, 0, 9, 12, 0, 0, 0, 0, 7, 0, 0, 0] ++ (two k ++ [2, 241, 3, 1, 54]) := ⟨_, rfl⟩
  rw [← hL]
  have HL := Lib.hid hL
  clear hL
  have HPG := Lib.hid hp
  have HSZ := Lib.hid (And.intro hR (And.intro hC hRC))
  have hR6 : R ≤ 60000 := by omega
  have hC6 : C ≤ 60000 := by omega
  have hk6 : k ≤ 60000 := by omega
  have HBX := Lib.hid (Bk.new w 147 #[.int .i64 R, .int .i64 C])
  have HB0 := Lib.hid (((Below.refl w.heap.size w).alloc (Nat.le_refl _) (.cells #[.int .i64 R, .int .i64 C] 147)).drew)
  have TOK := Lib.hid True.intro
  clear hp hR hC hRC
  go_enter Try.func85, Try.ntmps85
  go_wp2_with fail
  go_region_with (first
    | (go_at_call 92; clear TOK; refine (two_own R hR6 _).mono ?_; rintro e w1 ⟨p1, rfl, ho, hb⟩; have HO1 := Lib.hid ho; have HB1 := Lib.hid (HB0.out.trans (hb.mono (by simp))); have HX1 := Lib.hid (HBX.out.drew.below hb (by simp)); have x0 := HX1.out.cellv (i := 0) rfl; have x1 := HX1.out.cellv (i := 1) rfl; have hs1 : w.heap.size + 1 ≤ w1.heap.size := (by have := hb.size; simp at this; omega); clear ho hb)
    | (go_at_call 92; refine (two_own C hC6 _).mono ?_; rintro e w2 ⟨p2, rfl, ho, hb⟩; have HO2 := Lib.hid (ho.lower (C := w.heap.size) (by omega)); have HO12 := Lib.hid ((HO1.out.lower (C := w.heap.size) (by simp)).below hb (Nat.le_refl _)); have HB2 := Lib.hid (HB1.out.trans (hb.mono (by omega))); have HX2 := Lib.hid (HX1.out.below hb (by omega)); have hs2 := hb.size; clear x0 x1; have x0 := HX2.out.cellv (i := 0) rfl; have x1 := HX2.out.cellv (i := 1) rfl; clear ho hb)
    | fail)
  all_goals
    clear x0 x1
    have HBL := Lib.hid ((Below.refl w2.heap.size w2).alloc (Nat.le_refl _) (.cells #[.int .u8 130, .int .u8 0, .int .u8 9, .int .u8 12, .int .u8 0, .int .u8 0, .int .u8 0, .int .u8 0, .int .u8 7, .int .u8 0, .int .u8 0, .int .u8 0] 5))
    go_wp2_with fail
    refine (qnumber_any p k _ (PgP_up HPG.out (HB2.out.trans (HBL.out.mono (by omega))))).mono ?_
    rintro e w3 ⟨rfl, rfl⟩
    go_wp2_with fail
    refine (two_own k hk6 _).mono ?_
    rintro e w4 ⟨p4, rfl, ho4, hb4⟩
    obtain ⟨w5, hw5⟩ : ∃ w5, w5 = w4.alloc (.cells #[.int .u8 2, .int .u8 241, .int .u8 3, .int .u8 1, .int .u8 54] 5) := ⟨_, rfl⟩
    have hb5 : Below w4.heap.size w4 w5 := by rw [hw5]; exact (Below.refl _ _).alloc (Nat.le_refl _) _
    have HLA := Lib.hid (((own_lit w2 [130, 0, 9, 12, 0, 0, 0, 0, 7, 0, 0, 0] (by decide) (by decide)).below hb4 (Nat.le_refl _)).below hb5 (Nat.le_refl _))
    have HO4a := Lib.hid (ho4.below hb5 (Nat.le_refl _))
    have HLB := Lib.hid (show BOwn w4.heap.size w5 (.slice (some ⟨w4.heap.size, 0, none⟩) 5 5) [2, 241, 3, 1, 54] by rw [hw5]; exact own_lit w4 [2, 241, 3, 1, 54] (by decide) (by decide))
    have hs4 : w2.heap.size + 1 ≤ w4.heap.size := by have := hb4.size; simp at this; omega
    have HB5 := Lib.hid (((HB2.out.trans (HBL.out.mono (by omega))).trans (hb4.mono (by simp; omega))).trans (hb5.mono (by omega)))
    have hs5 := hb5.size
    clear ho4 hb4 hb5
    have HUP := Lib.hid ((Below.refl w5.heap.size w5).alloc (Nat.le_refl _) (.cells #[.slice (some ⟨w2.heap.size, 0, none⟩) 12 12, .slice (some ⟨p4, 0, none⟩) 2 2, .slice (some ⟨w4.heap.size, 0, none⟩) 5 5] 22))
    have hcat := concat_any w5.heap.size 3 [(.slice (some ⟨w2.heap.size, 0, none⟩) 12 12, [130, 0, 9, 12, 0, 0, 0, 0, 7, 0, 0, 0]), (.slice (some ⟨p4, 0, none⟩) 2 2, two k), (.slice (some ⟨w4.heap.size, 0, none⟩) 5 5, [2, 241, 3, 1, 54])] (w5.alloc (.cells #[.slice (some ⟨w2.heap.size, 0, none⟩) 12 12, .slice (some ⟨p4, 0, none⟩) 2 2, .slice (some ⟨w4.heap.size, 0, none⟩) 5 5] 22)) (Bk.new _ _ _) rfl (by decide) (by
      intro x hx
      simp only [List.mem_cons, List.not_mem_nil, or_false] at hx
      rcases hx with rfl | rfl | rfl
      · exact row_up HLA.out HUP.out
      · exact row_up HO4a.out HUP.out
      · exact row_up HLB.out HUP.out) (by simp [catOf, two]) (by simp [catOf, two])
    have HLST := Lib.hid (show L = catOf [(.slice (some ⟨w2.heap.size, 0, none⟩) 12 12, [130, 0, 9, 12, 0, 0, 0, 0, 7, 0, 0, 0]), (.slice (some ⟨p4, 0, none⟩) 2 2, two k), (.slice (some ⟨w4.heap.size, 0, none⟩) 5 5, [2, 241, 3, 1, 54])] by rw [HL.out]; simp [catOf])
    subst hw5
    simp only [World.size_alloc] at hcat
    have HCAT := Lib.hid hcat
    clear hcat
    go_wp2_with fail
    refine HCAT.out.mono ?_
    rintro e w9 ⟨⟨p9, c9, rfl, ho⟩, hb⟩
    have HO9 := Lib.hid ho
    have HB9 := Lib.hid (HB5.out.trans ((HUP.out.mono (by omega)).trans (hb.mono (by first | omega | (simp; omega)))))
    clear ho hb
    go_wp2_with fail
    go_ret
    exact ⟨⟨p9, c9, by rw [HLST.out]; rfl, by rw [HLST.out]; exact HO9.out.lower (by first | omega | (simp; omega))⟩, HB9.out⟩
set_option maxHeartbeats 8000000 in
set_option maxRecDepth 100000 in
theorem says129_any (R C k : Nat) (hR : 1 ≤ R ∧ R ≤ 43) (hC : 1 ≤ C ∧ C ≤ 132) (hRC : R * C ≤ 3564) (hk : k ≤ 2000) (p : Value) (w : World) (hp : PgP w p k) :
    Calls Try.prog 85 #[.int .u8 129, .agg #[.int .i64 R, .int .i64 C], p] w fun e w' => OwnB ([1, 0] ++ (two C ++ (two R ++ ([1, 0, 10, 2, 229, 0, 2, 0, 111, 9, 12] ++ two (R * C))))) w.heap.size e w' ∧ Below w.heap.size w w' := by
  obtain ⟨L, hL⟩ : ∃ L, L = [1, 0] ++ (two C ++ (two R ++ ([1, 0, 10, 2, 229, 0, 2, 0, 111, 9, 12] ++ two (R * C)))) := ⟨_, rfl⟩
  rw [← hL]
  have HL := Lib.hid hL
  clear hL
  have HPG := Lib.hid hp
  have HSZ := Lib.hid (And.intro hR (And.intro hC hRC))
  have hR6 : R ≤ 60000 := by omega
  have hC6 : C ≤ 60000 := by omega
  have hk6 : k ≤ 60000 := by omega
  have HBX := Lib.hid (Bk.new w 147 #[.int .i64 R, .int .i64 C])
  have HB0 := Lib.hid (((Below.refl w.heap.size w).alloc (Nat.le_refl _) (.cells #[.int .i64 R, .int .i64 C] 147)).drew)
  have TOK := Lib.hid True.intro
  clear hp hR hC hRC
  go_enter Try.func85, Try.ntmps85
  go_wp2_with fail
  go_region_with (first
    | (go_at_call 92; clear TOK; refine (two_own R hR6 _).mono ?_; rintro e w1 ⟨p1, rfl, ho, hb⟩; have HO1 := Lib.hid ho; have HB1 := Lib.hid (HB0.out.trans (hb.mono (by simp))); have HX1 := Lib.hid (HBX.out.drew.below hb (by simp)); have x0 := HX1.out.cellv (i := 0) rfl; have x1 := HX1.out.cellv (i := 1) rfl; have hs1 : w.heap.size + 1 ≤ w1.heap.size := (by have := hb.size; simp at this; omega); clear ho hb)
    | (go_at_call 92; refine (two_own C hC6 _).mono ?_; rintro e w2 ⟨p2, rfl, ho, hb⟩; have HO2 := Lib.hid (ho.lower (C := w.heap.size) (by omega)); have HO12 := Lib.hid ((HO1.out.lower (C := w.heap.size) (by simp)).below hb (Nat.le_refl _)); have HB2 := Lib.hid (HB1.out.trans (hb.mono (by omega))); have HX2 := Lib.hid (HX1.out.below hb (by omega)); have hs2 := hb.size; clear x0 x1; have x0 := HX2.out.cellv (i := 0) rfl; have x1 := HX2.out.cellv (i := 1) rfl; clear ho hb)
    | fail)
  all_goals
    clear x0 x1
    obtain ⟨w6, hw6⟩ : ∃ w6, w6 = (w2.alloc (.cells #[.int .u8 1, .int .u8 0] 5)).alloc (.cells #[.int .u8 1, .int .u8 0, .int .u8 10, .int .u8 2, .int .u8 229, .int .u8 0, .int .u8 2, .int .u8 0, .int .u8 111, .int .u8 9, .int .u8 12] 5) := ⟨_, rfl⟩
    have hb6 : Below w2.heap.size w2 w6 := by rw [hw6]; exact ((Below.refl _ _).alloc (Nat.le_refl _) _).alloc (by simp) _
    have HLA0 := Lib.hid (show BOwn w2.heap.size w6 (.slice (some ⟨w2.heap.size, 0, none⟩) 2 2) [1, 0] by
      rw [hw6]; exact (own_lit w2 [1, 0] (by decide) (by decide)).below ((Below.refl _ _).alloc (Nat.le_refl _) _) (Nat.le_refl _))
    have HLB0 := Lib.hid (show BOwn w2.heap.size w6 (.slice (some ⟨w2.heap.size + 1, 0, none⟩) 11 11) [1, 0, 10, 2, 229, 0, 2, 0, 111, 9, 12] by
      rw [hw6]
      have h := (own_lit (w2.alloc (.cells #[.int .u8 1, .int .u8 0] 5)) [1, 0, 10, 2, 229, 0, 2, 0, 111, 9, 12] (by decide) (by decide)).lower (C := w2.heap.size) (by simp)
      simp only [World.size_alloc] at h
      exact h)
    have HB6 := Lib.hid (HB2.out.trans (hb6.mono (by omega)))
    have hs6 := hb6.size
    have HO2b := Lib.hid (HO2.out.below hb6 (Nat.le_refl _))
    have HO1b := Lib.hid (HO12.out.below hb6 (Nat.le_refl _))
    have HX6 := Lib.hid (HX2.out.below hb6 (by omega))
    have hlt2 : w.heap.size < w2.heap.size := by omega
    have x0 := HX2.out.cellv (i := 0) rfl
    have x1 := HX2.out.cellv (i := 1) rfl
    clear hb6
    go_wp2_with fail
    rw [← hw6]
    refine (cells_any R C HSZ.out.1 HSZ.out.2.1 HSZ.out.2.2 _).mono ?_
    rintro e w3 ⟨rfl, hb3⟩
    have HB63 := Lib.hid hb3
    have hs3 := hb3.size
    clear hb3 x0 x1
    go_wp2_with fail
    refine (two_own (R * C) (by have := HSZ.out.2.2; omega) _).mono ?_
    rintro e w4 ⟨p4, rfl, ho4, hb4⟩
    have HLA := Lib.hid ((HLA0.out.below HB63.out (Nat.le_refl _)).below hb4 (Nat.le_refl _))
    have HLB := Lib.hid ((HLB0.out.below HB63.out (Nat.le_refl _)).below hb4 (Nat.le_refl _))
    have HO2a := Lib.hid ((HO2b.out.below HB63.out (Nat.le_refl _)).below hb4 (Nat.le_refl _))
    have HO1a := Lib.hid ((HO1b.out.below HB63.out (Nat.le_refl _)).below hb4 (Nat.le_refl _))
    have HO4 := Lib.hid ho4
    have HB4 := Lib.hid ((HB6.out.trans (HB63.out.mono (by omega))).trans (hb4.mono (by omega)))
    have hs4 := hb4.size
    clear ho4 hb4
    have HUP := Lib.hid ((Below.refl w4.heap.size w4).alloc (Nat.le_refl _) (.cells #[.slice (some ⟨w2.heap.size, 0, none⟩) 2 2, .slice (some ⟨p2, 0, none⟩) 2 2, .slice (some ⟨p1, 0, none⟩) 2 2, .slice (some ⟨w2.heap.size + 1, 0, none⟩) 11 11, .slice (some ⟨p4, 0, none⟩) 2 2] 22))
    have hcat := concat_any w4.heap.size 5 [(.slice (some ⟨w2.heap.size, 0, none⟩) 2 2, [1, 0]), (.slice (some ⟨p2, 0, none⟩) 2 2, two C), (.slice (some ⟨p1, 0, none⟩) 2 2, two R), (.slice (some ⟨w2.heap.size + 1, 0, none⟩) 11 11, [1, 0, 10, 2, 229, 0, 2, 0, 111, 9, 12]), (.slice (some ⟨p4, 0, none⟩) 2 2, two (R * C))] (w4.alloc (.cells #[.slice (some ⟨w2.heap.size, 0, none⟩) 2 2, .slice (some ⟨p2, 0, none⟩) 2 2, .slice (some ⟨p1, 0, none⟩) 2 2, .slice (some ⟨w2.heap.size + 1, 0, none⟩) 11 11, .slice (some ⟨p4, 0, none⟩) 2 2] 22)) (Bk.new _ _ _) rfl (by decide) (by
      intro x hx
      simp only [List.mem_cons, List.not_mem_nil, or_false] at hx
      rcases hx with rfl | rfl | rfl | rfl | rfl
      · exact row_up HLA.out HUP.out
      · exact row_up HO2a.out HUP.out
      · exact row_up HO1a.out HUP.out
      · exact row_up HLB.out HUP.out
      · exact row_up HO4.out HUP.out) (by simp [catOf, two]) (by simp [catOf, two])
    have HLST := Lib.hid (show L = catOf [(.slice (some ⟨w2.heap.size, 0, none⟩) 2 2, [1, 0]), (.slice (some ⟨p2, 0, none⟩) 2 2, two C), (.slice (some ⟨p1, 0, none⟩) 2 2, two R), (.slice (some ⟨w2.heap.size + 1, 0, none⟩) 11 11, [1, 0, 10, 2, 229, 0, 2, 0, 111, 9, 12]), (.slice (some ⟨p4, 0, none⟩) 2 2, two (R * C))] by rw [HL.out]; simp [catOf])
    have HCAT := Lib.hid hcat
    clear hcat
    go_wp2_with fail
    refine HCAT.out.mono ?_
    rintro e w9 ⟨⟨p9, c9, rfl, ho⟩, hb⟩
    have HO9 := Lib.hid ho
    have HB9 := Lib.hid (HB4.out.trans ((HUP.out.mono (by omega)).trans (hb.mono (by first | omega | (simp; omega)))))
    clear ho hb
    go_wp2_with fail
    go_ret
    exact ⟨⟨p9, c9, by rw [HLST.out]; rfl, by rw [HLST.out]; exact HO9.out.lower (by first | omega | (simp; omega))⟩, HB9.out⟩
end Go.Proofs.Ytcibhchbgendaab.Qy
