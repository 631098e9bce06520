/- The walk of page.small; what a great letter comes to. -/
import Derived.Test.YtcibhchbgendaabPgPure2
import Derived.Test.YtcibhchbgendaabPgCore
import Derived.Deep.QuietTactic
import Derived.BigQuiet
namespace Go.Proofs.Ytcibhchbgendaab.Rf
open Go Go.RowKit Go.Proofs.Ytcibhchbgendaab.Pg

/-- page.small -/
theorem small_any (s : Int) (w : World) : Calls Try.prog 70 #[.int .i32 s] w fun e w' => e = .returned (.bool (smallB s)) ∧ w' = w := by
  by_cases h5 : s = 247
  · subst h5
    go_enter Try.func70, Try.ntmps70
    go_wp2
    go_ret
    exact ⟨rfl, rfl⟩
  · have h5b : (s != 247) = true := by rw [bne_iff_ne]; exact h5
    have H5 := Lib.hid h5
    clear h5
    by_cases h1 : 97 ≤ s <;> by_cases h2 : s ≤ 122 <;> by_cases h3 : 224 ≤ s <;> by_cases h4 : s ≤ 254
    all_goals
      first
      | omega
      | (go_enter Try.func70, Try.ntmps70
         go_wp2
         go_ret
         refine ⟨?_, rfl⟩
         have h5 := H5.out
         first
         | (have e : smallB s = true := by (simp [smallB]; omega)
            rw [e]; rfl)
         | (have e : smallB s = false := by (simp [smallB]; omega)
            rw [e]; rfl))

theorem upper_not {k s : Int} {c : Nat} (hs : s = signOf k c) (h : smallB s = false) : upperOf k c = c := by
  unfold upperOf
  rw [← hs, h]
  rfl
theorem upper_none {k s : Int} {c : Nat} (hs : s = signOf k c) (h : smallB s = true) (hd : codeOf k (s - 32) = none) : upperOf k c = c := by
  unfold upperOf
  rw [← hs, h, hd]
  rfl
theorem upper_some {k s : Int} {c d : Nat} (hs : s = signOf k c) (h : smallB s = true) (hd : codeOf k (s - 32) = some d) : upperOf k c = d := by
  unfold upperOf
  rw [← hs, h, hd]
  rfl

end Go.Proofs.Ytcibhchbgendaab.Rf
