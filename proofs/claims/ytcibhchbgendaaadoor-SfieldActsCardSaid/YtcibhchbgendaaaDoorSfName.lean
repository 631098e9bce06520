/- The walks of sfield.Name and vitrineref21.Name. -/
import Derived.Test.YtcibhchbgendaaaDoorSfMem
namespace Go.Proofs.YtcibhchbgendaaaDoor.Sf
open Go Go.RowKit Go.Proofs.YtcibhchbgendaaaDoor.By

def kn0 : ByteArray := ⟨#[]⟩
def kn1 : ByteArray := ⟨#[81, 117, 101, 114, 121]⟩
def kn2 : ByteArray := ⟨#[81, 117, 101, 114, 121, 76, 105, 115, 116]⟩
def kn3 : ByteArray := ⟨#[82, 101, 97, 100]⟩
def kn4 : ByteArray := ⟨#[69, 114, 97, 115, 101]⟩
def kn5 : ByteArray := ⟨#[77, 111, 100, 101]⟩
def kn6 : ByteArray := ⟨#[67, 114, 101, 97, 116, 101]⟩
def kn7 : ByteArray := ⟨#[68, 101, 115, 116, 114, 111, 121]⟩
def kn8 : ByteArray := ⟨#[65, 99, 116, 105, 118, 97, 116, 101]⟩
def kn9 : ByteArray := ⟨#[79, 117, 116, 98, 111, 117, 110, 100]⟩
def kindNames : List ByteArray := [kn0, kn1, kn2, kn3, kn4, kn5, kn6, kn7, kn8, kn9]
/-- the name of a kind -/
def kindOf (c : Int) : ByteArray := if c < 1 then ⟨#[]⟩ else if 9 < c then ⟨#[]⟩ else kindNames.getD c.toNat ⟨#[]⟩
/-- the table of names, as the package lays it -/
def Kinds (w : World) : Prop := ∀ (i : Nat) (s : ByteArray), kindNames[i]? = some s → w.cell? ⟨0, i, none⟩ = some (.string s)
theorem Kinds.below {B : Nat} {w w' : World} (h : Kinds w) (hb : Below B w w') (hB : 0 < B) : Kinds w' := fun i s hi => by
  have e : w'.cell? ⟨0, i, none⟩ = w.cell? ⟨0, i, none⟩ := by
    unfold World.cell?
    rw [hb.block 0 hB]
  exact e.trans (h i s hi)
theorem Kinds.lt {w : World} (h : Kinds w) : 0 < w.heap.size := cell_lt (p := ⟨0, 0, none⟩) (h 0 kn0 rfl)

set_option maxHeartbeats 4000000 in
set_option maxRecDepth 100000 in
theorem mkind_any (c : Int) (w : World) (hn : Kinds w) : Calls Tryd.prog 29 #[.int .i64 c] w fun e w' => e = .returned (.string (kindOf c)) ∧ w' = w := by
  by_cases h0 : c < 0
  · have e : kindOf c = ⟨#[]⟩ := by unfold kindOf; rw [if_pos (by omega)]
    rw [e]
    clear hn
    go_enter Tryd.func29, Tryd.ntmps29
    go_wp2
    go_ret
    exact ⟨rfl, rfl⟩
  · by_cases h9 : 9 < c
    · have e : kindOf c = ⟨#[]⟩ := by unfold kindOf; rw [if_neg (by omega), if_pos h9]
      rw [e]
      clear hn
      go_enter Tryd.func29, Tryd.ntmps29
      go_wp2
      go_ret
      exact ⟨rfl, rfl⟩
    · have key : ∀ (i : Nat) (s : ByteArray), kindNames[i]? = some s → c = i → i < 10 → Calls Tryd.prog 29 #[.int .i64 c] w fun e w' => e = .returned (.string s) ∧ w' = w := by
        intro i s hi hc hlt
        have hcell := hn i s hi
        subst hc
        clear hn
        go_enter Tryd.func29, Tryd.ntmps29
        go_wp2
        go_ret
        exact ⟨rfl, rfl⟩
      have hc : c = 0 ∨ c = 1 ∨ c = 2 ∨ c = 3 ∨ c = 4 ∨ c = 5 ∨ c = 6 ∨ c = 7 ∨ c = 8 ∨ c = 9 := by omega
      rcases hc with rfl | rfl | rfl | rfl | rfl | rfl | rfl | rfl | rfl | rfl
      · exact key 0 kn0 rfl rfl (by decide)
      · exact key 1 kn1 rfl rfl (by decide)
      · exact key 2 kn2 rfl rfl (by decide)
      · exact key 3 kn3 rfl rfl (by decide)
      · exact key 4 kn4 rfl rfl (by decide)
      · exact key 5 kn5 rfl rfl (by decide)
      · exact key 6 kn6 rfl rfl (by decide)
      · exact key 7 kn7 rfl rfl (by decide)
      · exact key 8 kn8 rfl rfl (by decide)
      · exact key 9 kn9 rfl rfl (by decide)

set_option maxHeartbeats 4000000 in
set_option maxRecDepth 100000 in
theorem rkind_any (c : Int) (w : World) : Calls Tryd.prog 30 #[.int .i64 c] w fun e w' => e = .returned (.string (kindOf c)) ∧ Below w.heap.size w w' := by
  by_cases h0 : c < 1
  · have e : kindOf c = ⟨#[]⟩ := if_pos h0
    rw [e]
    go_enter Tryd.func30, Tryd.ntmps30
    go_wp2
    go_ret
    exact ⟨rfl, Below.refl _ _⟩
  · by_cases h9 : 9 < c
    · have e : kindOf c = ⟨#[]⟩ := by unfold kindOf; rw [if_neg h0, if_pos h9]
      rw [e]
      go_enter Tryd.func30, Tryd.ntmps30
      go_wp2
      go_ret
      exact ⟨rfl, Below.refl _ _⟩
    · have hc : c = 1 ∨ c = 2 ∨ c = 3 ∨ c = 4 ∨ c = 5 ∨ c = 6 ∨ c = 7 ∨ c = 8 ∨ c = 9 := by omega
      rcases hc with rfl | rfl | rfl | rfl | rfl | rfl | rfl | rfl | rfl
      all_goals
        go_enter Tryd.func30, Tryd.ntmps30
        go_wp2
        go_ret
        exact ⟨rfl, (Below.refl _ _).alloc (Nat.le_refl _) _⟩
end Go.Proofs.YtcibhchbgendaaaDoor.Sf
