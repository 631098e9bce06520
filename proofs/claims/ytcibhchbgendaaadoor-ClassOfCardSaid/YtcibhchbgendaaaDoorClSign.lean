/- The walks of package class. -/
import Derived.Test.YtcibhchbgendaaaDoorClMem
import Derived.Test.YtcibhchbgendaaaDoorClPure
namespace Go.Proofs.YtcibhchbgendaaaDoor.Cl
open Go Go.RowKit Go.Proofs.YtcibhchbgendaaaDoor.Pg

set_option maxHeartbeats 1600000 in
set_option maxRecDepth 100000 in
theorem csign_any (B : Nat) (v : Value) (k : Int) (c : Nat) (hc : c < 256) (w : World) (hB : B ≤ w.heap.size) (hp : PgV B w v k) :
    Calls Tryd.prog 53 #[v, .int .u8 c] w fun e w' => e = .returned (.int .i32 (signOf k c)) ∧ PgV B w' v k ∧ PgStep w w' ∧ Below B w w' := by
  rcases hp with ⟨rfl, rfl⟩ | ⟨b, rfl, hb, hp⟩
  · have hn : ∀ w : World, (binOp .eql 71 (.pointer none) (.pointer none)).run Tryd.prog w = .ok (.bool true) w := fun w => by kernel_rfl
    go_enter Tryd.func53, Tryd.ntmps53
    go_wp2_with fail
    refine (new_any 37 (.inl rfl) _).mono ?_
    rintro e w1 ⟨b, rfl, hb, hp, hw⟩
    have HB := Lib.hid hb
    have HP := Lib.hid hp
    have HW := Lib.hid hw
    clear hb hp hw
    go_wp2_with fail
    refine (sign_any b 37 c hc _ HP.out).mono ?_
    rintro e w2 ⟨rfl, h1, h2⟩
    have H1 := Lib.hid (below_gb HW.out h1 (Nat.le_refl _) HB.out)
    clear h1 h2
    go_wp2_with fail
    go_ret
    exact ⟨rfl, .inl ⟨rfl, rfl⟩, PgStep.below H1.out, H1.out.mono hB⟩
  · have hn : ∀ w : World, (binOp .eql 71 (.pointer (some ⟨b, 0, none⟩)) (.pointer none)).run Tryd.prog w = .ok (.bool false) w := fun w => by kernel_rfl
    have HP := Lib.hid hp
    have HB := Lib.hid hb
    have HBW := Lib.hid hB
    clear hp hb hB
    go_enter Tryd.func53, Tryd.ntmps53
    go_wp2_with fail
    refine (sign_any b k c hc _ HP.out).mono ?_
    rintro e w2 ⟨rfl, h1, h2⟩
    have H1 := Lib.hid h1
    have H2 := Lib.hid h2
    clear h1 h2
    go_wp2_with fail
    go_ret
    exact ⟨rfl, .inr ⟨b, rfl, HB.out, H2.out⟩, PgStep.of H1.out HP.out H2.out, below_gb (Below.refl _ _) H1.out HBW.out HB.out⟩

set_option maxRecDepth 100000 in
theorem data_any (c : Nat) (hc : c < 256) (w : World) : Calls Tryd.prog 64 #[.int .u8 c] w fun e w' => e = .returned (.bool (dataB c)) ∧ w' = w := by
  by_cases h1 : 64 ≤ (c : Int) <;> by_cases h2 : (c : Int) < 255
  all_goals
    have e : dataB c = (decide (64 ≤ (c : Int)) && decide ((c : Int) < 255)) := by
      unfold dataB
      congr 1 <;> (apply decide_eq_decide.2; omega)
    first | have b1 := decide_eq_false h1 | have b1 := decide_eq_true h1
    first | have b2 := decide_eq_false h2 | have b2 := decide_eq_true h2
    rw [b1, b2] at e
    have HE := Lib.hid e
    clear e h1 h2
    go_enter Tryd.func64, Tryd.ntmps64
    go_wp2
    go_ret
    exact ⟨by rw [HE.out]; rfl, rfl⟩

set_option maxHeartbeats 1600000 in
set_option maxRecDepth 100000 in
theorem hidden_any (s : Int) (w : World) : Calls Tryd.prog 65 #[.int .i32 s] w fun e w' => e = .returned (.bool (hiddenB s)) ∧ w' = w := by
  by_cases h1 : s < 32 <;> by_cases h2 : 127 ≤ s <;> by_cases h3 : s ≤ 159 <;> by_cases h4 : s = 173
  all_goals
    first
    | omega
    | (have HE := Lib.hid (show hiddenB s = (decide (s < 32) || (decide (127 ≤ s) && decide (s ≤ 159)) || s == 173) from rfl)
       first | have b1 := decide_eq_false h1 | have b1 := decide_eq_true h1
       first | have b2 := decide_eq_false h2 | have b2 := decide_eq_true h2
       first | have b3 := decide_eq_false h3 | have b3 := decide_eq_true h3
       first | have b4 := beq_eq_false_iff_ne.2 h4 | have b4 := beq_iff_eq.2 h4
       have HF := Lib.hid HE.out
       have e := HE.out
       rw [b1, b2, b3, b4] at e
       have HG := Lib.hid e
       clear e h1 h2 h3 h4 HE HF
       go_enter Tryd.func65, Tryd.ntmps65
       go_wp2
       go_ret
       exact ⟨by rw [HG.out]; rfl, rfl⟩)
end Go.Proofs.YtcibhchbgendaaaDoor.Cl
