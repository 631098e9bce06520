/- The walk of the law QueryParses. -/
import Derived.Test.YtcibhchbgendaabQyRef
import Derived.Test.YtcibhchbgendaabQyAwake
import Derived.Test.YtcibhchbgendaabQyCodes
namespace Go.Proofs.Ytcibhchbgendaab.Qy
open Go Go.RowKit Go.Proofs.Ytcibhchbgendaab.By Go.Proofs.Ytcibhchbgendaab.Sf

theorem sizes (o : Option (List Nat)) : ∃ (ok : Bool) (r5 r3 : Nat) (a b : Int), (∀ e, SzEnd o e → e = .returned (.tuple #[.int .i64 (r5 : Int), .int .i64 (r3 : Int), .bool ok])) ∧ (∀ e, NbEnd o 5 7 e → e = .returned (.int .i64 a)) ∧ (∀ e, NbEnd o 3 7 e → e = .returned (.int .i64 b)) ∧
    ((ok = true ∧ a = r5 ∧ b = r3) ∨ (ok = false ∧ r5 = 0 ∧ r3 = 0 ∧ a = -1 ∧ b = -1)) := by
  by_cases h : ∃ d, o = some d ∧ 7 ≤ d.length
  · obtain ⟨d, rfl, hd⟩ := h
    refine ⟨true, at2 d 5, at2 d 3, at2 d 5, at2 d 3, fun e he => ?_, fun e he => ?_, fun e he => ?_, .inl ⟨rfl, rfl, rfl⟩⟩
    · rcases he with ⟨d', h1, _, h3⟩ | ⟨h1, _⟩
      · cases h1; exact h3
      · have := h1 d rfl; omega
    · rcases he with ⟨d', h1, _, h3⟩ | ⟨h1, _⟩
      · cases h1; exact h3
      · have := h1 d rfl; omega
    · rcases he with ⟨d', h1, _, h3⟩ | ⟨h1, _⟩
      · cases h1; exact h3
      · have := h1 d rfl; omega
  · refine ⟨false, 0, 0, -1, -1, fun e he => ?_, fun e he => ?_, fun e he => ?_, .inr ⟨rfl, rfl, rfl, rfl, rfl⟩⟩
    · rcases he with ⟨d', h1, h2, h3⟩ | ⟨_, h1⟩
      · exact absurd ⟨d', h1, h2⟩ h
      · exact h1
    · rcases he with ⟨d', h1, h2, h3⟩ | ⟨_, h1⟩
      · exact absurd ⟨d', h1, h2⟩ h
      · exact h1
    · rcases he with ⟨d', h1, h2, h3⟩ | ⟨_, h1⟩
      · exact absurd ⟨d', h1, h2⟩ h
      · exact h1
theorem nums (o : Option (List Nat)) : ∃ (is : Bool) (r : Nat) (c : Int), (∀ e, NmEnd o e → e = .returned (.tuple #[.int .i64 (r : Int), .bool is])) ∧ (∀ e, NbEnd o 13 15 e → e = .returned (.int .i64 c)) ∧
    ((is = true ∧ c = r) ∨ (is = false ∧ r = 0 ∧ c = -1)) := by
  by_cases h : ∃ d, o = some d ∧ 15 ≤ d.length
  · obtain ⟨d, rfl, hd⟩ := h
    refine ⟨true, at2 d 13, at2 d 13, fun e he => ?_, fun e he => ?_, .inl ⟨rfl, rfl⟩⟩
    · rcases he with ⟨d', h1, _, h3⟩ | ⟨h1, _⟩
      · cases h1; exact h3
      · have := h1 d rfl; omega
    · rcases he with ⟨d', h1, _, h3⟩ | ⟨h1, _⟩
      · cases h1; exact h3
      · have := h1 d rfl; omega
  · refine ⟨false, 0, -1, fun e he => ?_, fun e he => ?_, .inr ⟨rfl, rfl, rfl⟩⟩
    · rcases he with ⟨d', h1, h2, h3⟩ | ⟨_, h1⟩
      · exact absurd ⟨d', h1, h2⟩ h
      · exact h1
    · rcases he with ⟨d', h1, h2, h3⟩ | ⟨_, h1⟩
      · exact absurd ⟨d', h1, h2⟩ h
      · exact h1

set_option maxHeartbeats 8000000 in
set_option maxRecDepth 100000 in
theorem queryParses_walk (t : Nat) (ht : t < 256) (x : Value) (l : List Nat) (w : World) (hx : BRow w x l) :
    Calls Try.prog 7 #[x, .int .u8 t] w fun e w' => e = .returned (.bool true) ∧ Below w.heap.size w w' := by
  have HX := Lib.hid hx
  clear hx
  go_enter Try.func7, Try.ntmps7
  go_wp2_with fail
  refine (awake_any _).mono ?_
  rintro e w1 ⟨rfl, h1⟩
  have HB1 := Lib.hid h1
  have hs1 := h1.size
  clear h1
  go_wp2_with fail
  refine (cut_any x l 300 (by decide) _ (HX.out.below HB1.out (Nat.le_refl _))).mono ?_
  rintro e w2 ⟨y, rfl, hy, hyn, h2⟩
  obtain ⟨pl, hpl⟩ : ∃ pl, l.take 300 = pl := ⟨_, rfl⟩
  rw [hpl] at hy
  have hpl3 : pl.length ≤ 300 := by rw [← hpl, List.length_take]; omega
  obtain ⟨ap, cp, rfl⟩ := BOwn_form hy
  have HP := Lib.hid hy
  have HB2 := Lib.hid (HB1.out.trans (h2.mono hs1))
  have hs2 := h2.size
  clear hy hyn h2 hpl HX
  go_wp2_with fail
  refine (copy_any _ pl _ HP.out.row (by omega)).mono ?_
  rintro e w3 ⟨y, rfl, hy, hyn, h3⟩
  obtain ⟨am, cm, rfl⟩ := BOwn_form hy
  have HM := Lib.hid hy
  have HP3 := Lib.hid (HP.out.below h3 (Nat.le_refl _))
  have HB3 := Lib.hid (HB2.out.trans (h3.mono (by omega)))
  have hs3 := h3.size
  clear hy hyn h3
  go_wp2_with fail
  have hpa := parse_any _ _ pl _ HM.out (by omega)
  obtain ⟨⟨cs, er⟩, hr⟩ : ∃ r, parseOf pl = r := ⟨_, rfl⟩
  rw [hr] at hpa
  have HR := Lib.hid hr
  have HPA := Lib.hid hpa
  clear hpa hr
  refine HPA.out.mono ?_
  rintro e w4 ⟨⟨p4, c4, rfl, ho⟩, hb⟩
  obtain ⟨nc, hnc⟩ : ∃ nc, nc = cs.length := ⟨_, rfl⟩
  change BOwn _ w4 (.slice p4 cs.length c4) cs at ho
  simp only
  rw [← hnc] at ho ⊢
  have HNC := Lib.hid hnc
  have HC4 := Lib.hid ho
  have HP4 := Lib.hid (HP3.out.below hb (Nat.le_refl _))
  have HB4 := Lib.hid (HB3.out.trans (hb.mono (by omega)))
  have hs4 := hb.size
  clear ho hb hnc
  go_wp2_with fail
  have hpa := rparse_any _ _ pl _ HP4.out (by omega)
  rw [HR.out] at hpa
  have HRA := Lib.hid hpa
  clear hpa
  refine HRA.out.mono ?_
  rintro e w5 ⟨⟨p5, c5, rfl, ho⟩, hb⟩
  change BOwn _ w5 (.slice p5 cs.length c5) cs at ho
  simp only
  rw [← HNC.out] at ho ⊢
  have HD5 := Lib.hid ho
  have HC5 := Lib.hid (HC4.out.below hb (Nat.le_refl _))
  have HP5 := Lib.hid (HP4.out.below hb (Nat.le_refl _))
  have HB5 := Lib.hid (HB4.out.trans (hb.mono (by omega)))
  have hs5 := hb.size
  clear ho hb
  obtain ⟨ok, r5, r3, a, b, hsz, ha, hbb, hab⟩ := sizes (findOf pl 129)
  obtain ⟨is, r13, cc, hnm, hcn, hcc⟩ := nums (findOf pl 133)
  have HSZ := Lib.hid hsz
  have HA := Lib.hid ha
  have HBB := Lib.hid hbb
  have HNM := Lib.hid hnm
  have HCN := Lib.hid hcn
  have HAB := Lib.hid hab
  have HCC := Lib.hid hcc
  clear hsz ha hbb hnm hcn hab hcc
  go_wp2_with fail
  refine (size_any _ _ pl _ HP5.out (by omega)).mono ?_
  rintro e w6 ⟨he, hb⟩
  obtain rfl := HSZ.out e he
  have HD6 := Lib.hid (HD5.out.below hb (Nat.le_refl _))
  have HC6 := Lib.hid (HC5.out.below hb (Nat.le_refl _))
  have HP6 := Lib.hid (HP5.out.below hb (Nat.le_refl _))
  have HB6 := Lib.hid (HB5.out.trans (hb.mono (by omega)))
  have hs6 := hb.size
  clear he hb
  go_wp2_with fail
  refine (pageno_any _ _ pl _ HP6.out (by omega)).mono ?_
  rintro e w7 ⟨he, hb⟩
  obtain rfl := HNM.out e he
  have HD7 := Lib.hid (HD6.out.below hb (Nat.le_refl _))
  have HC7 := Lib.hid (HC6.out.below hb (Nat.le_refl _))
  have HP7 := Lib.hid (HP6.out.below hb (Nat.le_refl _))
  have HB7 := Lib.hid (HB6.out.trans (hb.mono (by omega)))
  have hs7 := hb.size
  clear he hb
  go_wp2_with fail
  refine (rnumber_any _ _ pl _ HP7.out (by omega) 129 5 7 (by decide) (by decide) (by decide)).mono ?_
  rintro e w8 ⟨he, hb⟩
  obtain rfl := HA.out e he
  have HD8 := Lib.hid (HD7.out.below hb (Nat.le_refl _))
  have HC8 := Lib.hid (HC7.out.below hb (Nat.le_refl _))
  have HP8 := Lib.hid (HP7.out.below hb (Nat.le_refl _))
  have HB8 := Lib.hid (HB7.out.trans (hb.mono (by omega)))
  have hs8 := hb.size
  clear he hb
  go_wp2_with fail
  refine (rnumber_any _ _ pl _ HP8.out (by omega) 129 3 7 (by decide) (by decide) (by decide)).mono ?_
  rintro e w9 ⟨he, hb⟩
  obtain rfl := HBB.out e he
  have HD9 := Lib.hid (HD8.out.below hb (Nat.le_refl _))
  have HC9 := Lib.hid (HC8.out.below hb (Nat.le_refl _))
  have HP9 := Lib.hid (HP8.out.below hb (Nat.le_refl _))
  have HB9 := Lib.hid (HB8.out.trans (hb.mono (by omega)))
  have hs9 := hb.size
  clear he hb
  go_wp2_with fail
  refine (rnumber_any _ _ pl _ HP9.out (by omega) 133 13 15 (by decide) (by decide) (by decide)).mono ?_
  rintro e w10 ⟨he, hb⟩
  obtain rfl := HCN.out e he
  have HD := Lib.hid (HD9.out.below hb (Nat.le_refl _))
  have HC := Lib.hid (HC9.out.below hb (Nat.le_refl _))
  have HB10 := Lib.hid (HB9.out.trans (hb.mono (by omega)))
  clear he hb
  have HN := Lib.hid (fun W => qname_any t W)
  have HN2 := Lib.hid (fun W => rqname_any t ht W)
  obtain ⟨nm, hnm⟩ : ∃ nm, nameQ t = nm := ⟨_, rfl⟩
  rw [hnm] at HN HN2
  clear hnm
  have hab := HAB.out
  have hcc := HCC.out
  rcases hab with ⟨rfl, rfl, rfl⟩ | ⟨rfl, rfl, rfl, rfl, rfl⟩
  all_goals rcases hcc with ⟨rfl, rfl⟩ | ⟨rfl, rfl, rfl⟩
  all_goals
    go_wp2_with fail
    refine (same_any _ _ cs cs _ HC.out.row HD.out.row).mono ?_
    rintro e w11 ⟨rfl, rfl⟩
    rw [decide_eq_true rfl]
    go_wp2_with fail
    refine (HN.out _).mono ?_
    rintro e w12 ⟨rfl, rfl⟩
    go_wp2_with fail
    refine (HN2.out _).mono ?_
    rintro e w13 ⟨rfl, hb⟩
    have HBF := Lib.hid (HB10.out.trans (hb.mono HB10.out.size))
    clear hb
    go_wp2_with fail
    go_ret
    exact ⟨rfl, HBF.out⟩

theorem byte_nat7 {x : Int} (h : (Lit.int .u8 x).wf = true) : ∃ n : Nat, n < 256 ∧ x = n := by
  simp only [Lit.wf, show IntKind.u8.min = 0 from rfl, show IntKind.u8.max = 255 from rfl] at h
  simp only [Bool.and_eq_true, decide_eq_true_eq] at h
  exact ⟨x.toNat, by omega, by omega⟩
theorem queryParses_any (a : Option Addr) (len cap : Nat) (zs : List Int) (x : Int) (w : World) (hr : IsRow .u8 w a len cap zs) (hx : (Lit.int .u8 x).wf = true) :
    Calls Try.prog 7 #[.slice a len cap, .int .u8 x] w fun e w' => e = .returned (.bool true) ∧ Below w.heap.size w w' := by
  obtain ⟨m, hm, rfl⟩ := byte_nat7 hx
  obtain ⟨l, _, hl⟩ := hr.bytes
  exact queryParses_walk m hm _ l w hl
end Go.Proofs.Ytcibhchbgendaab.Qy
