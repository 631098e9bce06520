/- The walk of (*page.Page).Text. -/
import Derived.Test.YtcibhchbgendaabBld
import Derived.Test.YtcibhchbgendaabBy
import Derived.Test.YtcibhchbgendaabClMem
import Derived.Lib.OthersKept
namespace Go.Proofs.Ytcibhchbgendaab.Cl
open Go Go.RowKit Go.Proofs.Ytcibhchbgendaab.Pg Go.Proofs.Ytcibhchbgendaab.By

/-- the text of codes, as bytes -/
def txt (k : Int) (l : List Nat) : List UInt8 := l.flatMap fun c => Lib.encodeRune (signOf k c)
theorem txt_snoc (k : Int) (l : List Nat) (c : Nat) : txt k (l ++ [c]) = txt k l ++ Lib.encodeRune (signOf k c) := by simp [txt]
theorem txt_len (k : Int) (l : List Nat) : (txt k l).length ≤ 4 * l.length := by
  induction l with
  | nil => simp [txt]
  | cons c l ih =>
    have h := (Lib.runeCells_le (signOf k c)).2
    rw [Lib.runeCells_length] at h
    simp only [txt, List.flatMap_cons, List.length_append, List.length_cons] at ih ⊢
    omega
theorem take_snoc2 (l : List Nat) (j : Nat) (hj : j < l.length) : l.take (j + 1) = l.take j ++ [l[j]] := by simp

theorem BRow_step2 {w w' : World} {x : Value} {l : List Nat} (h : BRow w x l) (ho : ∀ a n c, x = .slice (some a) n c → ∀ cs, ¬ Bk w a.block 122 cs) (s : PgStep w w') : BRow w' x l := by
  rcases h.lt with rfl | hlt
  · rcases h with h | ⟨a, cap, h1, h2, h3, _, h5⟩
    · exact .inl h
    · exact .inr ⟨a, cap, h1, h2, h3, fun i n hi => by simp at hi, h5⟩
  · exact h.keep fun a n c e => s.keep _ (hlt a n c e) (ho a n c e)
/-- a page stays one where all but a builder and its row stand -/
theorem PageAt_kept {w w' : World} {b : Nat} {k : Int} {r : Nat} (h : PageAt w b k) (hk : Lib.OthersKept 5 (some r) w w') (hr : b ≠ r) (hm : ∀ es c, w.heap[r]? ≠ some (.map es c)) : PageAt w' b k := by
  have keep : ∀ (g : Nat) (cs : Array Value), Bk w g 122 cs → g ≠ r → Bk w' g 122 cs := by
    intro g cs hb hg
    unfold Bk at hb ⊢
    exact hk g _ hb (by simpa using hg) (by rintro c fz e; injection e with _ e2; exact absurd e2 (by decide))
  refine ⟨h.1, ?_⟩
  rcases h.2 with h | ⟨m, h, es, clock, h1, h2⟩
  · exact .inl (keep _ _ h hr)
  · refine .inr ⟨m, keep _ _ h hr, es, clock, ?_, h2⟩
    exact hk m _ h1 (by simpa using fun e : m = r => hm _ _ (by rw [← e]; exact h1)) (by rintro c fz e; cases e)
theorem PgStep.below_trans {a w w' : World} (h : PgStep a w) (hb : Below a.heap.size w w') : PgStep a w' :=
  ⟨hb.os.trans h.os, hb.tape.trans h.tape, hb.output.trans h.output, Nat.le_trans h.size hb.size, fun i hi hn => (hb.block i hi).trans (h.keep i hi hn), fun i cs hc => by
    obtain ⟨cs', h'⟩ := h.page i cs hc
    exact ⟨cs', (hb.block i hc.lt).trans h'⟩⟩
/-- a builder stands while pages turn -/
theorem Builder_step {w w' : World} {B b : Nat} {bs : List Value} (h : Lib.IsBuilderF 82 5 B b bs w) (s : PgStep w w') : Lib.IsBuilderF 82 5 B b bs w' := by
  have key : ∀ p, Lib.BuilderAtF 82 5 B b p bs w → Lib.BuilderAtF 82 5 B b p bs w' := by
    rintro p ⟨hB, v, hb, hown, hne⟩
    refine ⟨hB, v, ?_, ?_, hne⟩
    · have hlt : b < w.heap.size := (Array.getElem?_eq_some_iff.1 hb).1
      exact (s.keep b hlt (fun cs hc => by unfold Bk at hc; rw [hb] at hc; injection hc with e; injection e with _ e2; exact absurd e2 (by decide))).trans hb
    · refine ⟨hown.1, ?_⟩
      rcases hown.2 with h | ⟨g, cap, cur, fz, hv, hbg, hg, rest⟩
      · exact .inl h
      · refine .inr ⟨g, cap, cur, fz, hv, hbg, ?_, rest⟩
        have hlt : g < w.heap.size := (Array.getElem?_eq_some_iff.1 hg).1
        exact (s.keep g hlt (fun cs hc => by unfold Bk at hc; rw [hg] at hc; injection hc with e; injection e with _ e2; exact absurd e2 (by decide))).trans hg
  exact h.elim (fun x => .inl (key _ x)) (fun x => .inr (key _ x))
theorem IsBuilderF_heap {w : World} {B b : Nat} {bs : List Value} (h : Lib.IsBuilderF 82 5 B b bs w) : ∃ cs, Bk w b 82 cs := by
  rcases h with ⟨_, v, hb, _⟩ | ⟨_, v, hb, _⟩ <;> exact ⟨_, hb⟩
theorem PgV_kept {B : Nat} {w w' : World} {v : Value} {k : Int} {b : Nat} (h : PgV B w v k) (hk : Lib.OthersKept 5 (some b) w w') (hb : ∃ cs, Bk w b 82 cs) : PgV B w' v k := by
  rcases h with h | ⟨p, h1, h2, h3⟩
  · exact .inl h
  · obtain ⟨cs, hb⟩ := hb
    refine .inr ⟨p, h1, h2, PageAt_kept h3 hk ?_ ?_⟩
    · rintro rfl
      obtain ⟨cs', h'⟩ := h3.bk
      unfold Bk at h' hb
      rw [h'] at hb
      injection hb with e
      injection e with _ e2
      exact absurd e2 (by decide)
    · intro es c e
      unfold Bk at hb
      rw [hb] at e
      cases e

set_option maxHeartbeats 4000000 in
set_option maxRecDepth 100000 in
theorem text_any (B b : Nat) (k : Int) (x : Value) (l : List Nat) (w : World) (hB : B ≤ w.heap.size) (hBb : B ≤ b) (hp : PageAt w b k) (hx : BRow w x l) (hl : l.length ≤ 1000000) (ho : ∀ a n c, x = .slice (some a) n c → ∀ cs, ¬ Bk w a.block 122 cs) :
    Calls Try.prog 25 #[.pointer (some ⟨b, 0, none⟩), x] w fun e w' => e = .returned (.string ⟨(txt k l).toArray⟩) ∧ PgV B w' (.pointer (some ⟨b, 0, none⟩)) k ∧ PgStep w w' ∧ Below B w w' := by
  have hn : ∀ w : World, (binOp .eql 24 (.pointer (some ⟨b, 0, none⟩)) (.pointer none)).run Try.prog w = .ok (.bool false) w := fun w => by kernel_rfl
  obtain ⟨a, cap, rfl⟩ : ∃ a cap, x = .slice a l.length cap := by
    rcases hx with ⟨rfl, rfl⟩ | ⟨a, cap, h, _⟩
    · exact ⟨_, _, rfl⟩
    · exact ⟨_, _, h⟩
  have HX := Lib.hid hx
  have HP := Lib.hid (show PgV B w (.pointer (some ⟨b, 0, none⟩)) k from .inr ⟨b, rfl, hBb, hp⟩)
  have HO := Lib.hid ho
  clear hx hp ho
  go_enter Try.func25, Try.ntmps25
  go_wp2_with fail
  go_loopw [12] (fun i wr => ∃ j : Nat, j ≤ l.length ∧ i = .int .i64 j ∧ PgV B wr (.pointer (some ⟨b, 0, none⟩)) k ∧ PgStep w wr ∧ Below B w wr ∧ Lib.IsBuilderF 82 5 w.heap.size w.heap.size (Lib.byteCells (txt k (l.take j))) wr) (fun i _ => l.length - (intOf i).toNat)
  case atStart =>
    have hA := (Below.refl B w).alloc hB (.cells #[.pointer none, .slice none 0 0] 82)
    have hA' := (Below.refl w.heap.size w).alloc (Nat.le_refl _) (.cells #[.pointer none, .slice none 0 0] 82)
    exact ⟨0, Nat.zero_le _, rfl, HP.out.below hA', PgStep.below hA', hA, Lib.IsBuilderF.of (Lib.fresh_isBuilder 82 5 w)⟩
  case round =>
    obtain ⟨j, hj1, rfl, hp1, hs1, hw1, hb1⟩ := hrel
    have HP1 := Lib.hid hp1
    have HS1 := Lib.hid hs1
    have HW1 := Lib.hid hw1
    have HB1 := Lib.hid hb1
    have hx1 := BRow_step2 HX.out HO.out hs1
    clear hp1 hs1 hw1 hb1
    by_cases hlt : j < l.length
    · obtain ⟨c, hcl⟩ : ∃ c, l[j]? = some c := ⟨l[j], List.getElem?_eq_getElem hlt⟩
      have hc256 : c < 256 := hx1.bound c (List.mem_of_getElem? hcl)
      obtain ⟨ad, rfl, hcell⟩ : ∃ ad, a = some ad ∧ wr.cell? (ad.add j) = some (.int .u8 c) := by
        rcases hx1 with ⟨h, rfl⟩ | ⟨ad, cap', h, _, _, h4, _⟩
        · simp at hlt
        · injection h with h
          exact ⟨ad, h, h4 j c hcl⟩
      have HCL := Lib.hid hcl
      clear hx1 hcl
      go_wp2_with fail
      obtain ⟨hb2, hpa⟩ : B ≤ b ∧ PageAt wr b k := by
        rcases HP1.out with ⟨h, _⟩ | ⟨b', h, h2, h3⟩
        · cases h
        · injection h with h; injection h with h; injection h with h; subst h; exact ⟨h2, h3⟩
      refine (sign_any b k c hc256 _ hpa).mono ?_
      rintro e w2 ⟨rfl, h1, h2⟩
      have HG := Lib.hid h1
      have HS2 := Lib.hid (PgStep.of h1 hpa h2)
      have HB2 := Lib.hid (Builder_step HB1.out HS2.out)
      have HP2 := Lib.hid (show PgV B w2 (.pointer (some ⟨b, 0, none⟩)) k from .inr ⟨b, rfl, hBb, h2⟩)
      have HW2 := Lib.hid (below_gb HW1.out h1 hB hBb)
      have hsg : -2147483648 ≤ signOf k c ∧ signOf k c ≤ 2147483647 := by have := signOf_range k c; omega
      have htl := txt_len k (l.take j)
      rw [List.length_take] at htl
      clear h1 h2 hcell hpa hb2
      go_wp2_with fail
      refine (Bl.rune_k w.heap.size w.heap.size _ (signOf k c) hsg.1 hsg.2 _ HB2.out (by rw [Lib.byteCells_length]; omega) (Nat.le_trans HS1.out.size HS2.out.size)).mono ?_
      rintro e w3 ⟨rfl, h1, h2, h3⟩
      have HB3 := Lib.hid h1
      have HL3 := Lib.hid h2
      have HK3 := Lib.hid h3
      clear h1 h2 h3
      go_wp2_with fail
      go_roundw
      case rel =>
        refine ⟨j + 1, by omega, by go_num, PgV_kept HP2.out HK3.out (IsBuilderF_heap HB2.out), (HS1.out.trans HS2.out).below_trans HL3.out, HW2.out.trans (HL3.out.mono hB), .inr ?_⟩
        rw [take_snoc2 l j hlt, txt_snoc, (List.getElem?_eq_some_iff.1 HCL.out).2, Lib.byteCells_append, Lib.byteCells_encodeRune]
        exact HB3.out
      case measure => simp [intOf]; omega
    · have hej : l.take j = l := List.take_of_length_le (by omega)
      rw [hej] at HB1
      clear hx1
      go_wp2_with fail
      refine (Try.Builder_String_any_k w.heap.size w.heap.size (txt k l) _ HB1.out HS1.out.size).mono ?_
      rintro e w3 ⟨rfl, h1, h2, h3⟩
      have HB3 := Lib.hid h1
      have HL3 := Lib.hid h2
      have HK3 := Lib.hid h3
      clear h1 h2 h3
      go_wp2_with fail
      go_ret
      exact ⟨rfl, PgV_kept HP1.out HK3.out (IsBuilderF_heap HB1.out), HS1.out.below_trans HL3.out, HW1.out.trans (HL3.out.mono hB)⟩
end Go.Proofs.Ytcibhchbgendaab.Cl
