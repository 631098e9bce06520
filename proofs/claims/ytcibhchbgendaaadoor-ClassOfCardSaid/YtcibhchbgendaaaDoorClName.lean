/- The walks of class.Class.Name and vitrineref02.Name. -/
import Derived.Test.YtcibhchbgendaaaDoorClUse
namespace Go.Proofs.YtcibhchbgendaaaDoor.Cl
open Go Go.RowKit Go.Proofs.YtcibhchbgendaaaDoor.Pg

def nm0 : ByteArray := ⟨#[110, 117, 108, 108]⟩
def nm1 : ByteArray := ⟨#[102, 111, 114, 109, 97, 116]⟩
def nm2 : ByteArray := ⟨#[111, 110, 101, 115]⟩
def nm3 : ByteArray := ⟨#[99, 111, 110, 116, 114, 111, 108]⟩
def nm4 : ByteArray := ⟨#[98, 108, 97, 110, 107]⟩
def nm5 : ByteArray := ⟨#[100, 105, 103, 105, 116]⟩
def nm6 : ByteArray := ⟨#[108, 101, 116, 116, 101, 114]⟩
def nm7 : ByteArray := ⟨#[109, 97, 114, 107]⟩
def classNames : List ByteArray := [nm0, nm1, nm2, nm3, nm4, nm5, nm6, nm7]
def nameOf (c : Int) : ByteArray := if c < 0 then ⟨#[]⟩ else classNames.getD c.toNat ⟨#[]⟩
/-- the table of names, as the package lays it -/
def Names (w : World) : Prop := ∀ (i : Nat) (s : ByteArray), classNames[i]? = some s → w.cell? ⟨1, i, none⟩ = some (.string s)
theorem Names.below {B : Nat} {w w' : World} (h : Names w) (hb : Below B w w') (hB : 1 < B) : Names w' := fun i s hi => by
  have e : w'.cell? ⟨1, i, none⟩ = w.cell? ⟨1, i, none⟩ := by
    unfold World.cell?
    rw [hb.block 1 hB]
  exact e.trans (h i s hi)

set_option maxHeartbeats 4000000 in
set_option maxRecDepth 100000 in
theorem cname_any (c : Int) (w : World) (hn : Names w) : Calls Tryd.prog 37 #[.int .i64 c] w fun e w' => e = .returned (.string (nameOf c)) ∧ w' = w := by
  by_cases h0 : c < 0
  · have e : nameOf c = ⟨#[]⟩ := if_pos h0
    rw [e]
    clear hn
    go_enter Tryd.func37, Tryd.ntmps37
    go_wp2
    go_ret
    exact ⟨rfl, rfl⟩
  · by_cases h7 : 7 < c
    · have e : nameOf c = ⟨#[]⟩ := by
        unfold nameOf
        rw [if_neg h0, List.getD_eq_getElem?_getD, List.getElem?_eq_none (by simp [classNames]; omega)]
        rfl
      rw [e]
      clear hn
      go_enter Tryd.func37, Tryd.ntmps37
      go_wp2
      go_ret
      exact ⟨rfl, rfl⟩
    · have key : ∀ (i : Nat) (s : ByteArray), classNames[i]? = some s → c = i → i < 8 → Calls Tryd.prog 37 #[.int .i64 c] w fun e w' => e = .returned (.string s) ∧ w' = w := by
        intro i s hi hc hlt
        have hcell := hn i s hi
        subst hc
        clear hn
        go_enter Tryd.func37, Tryd.ntmps37
        go_wp2
        go_ret
        exact ⟨rfl, rfl⟩
      have hc : c = 0 ∨ c = 1 ∨ c = 2 ∨ c = 3 ∨ c = 4 ∨ c = 5 ∨ c = 6 ∨ c = 7 := by omega
      rcases hc with rfl | rfl | rfl | rfl | rfl | rfl | rfl | rfl
      · exact key 0 nm0 rfl rfl (by decide)
      · exact key 1 nm1 rfl rfl (by decide)
      · exact key 2 nm2 rfl rfl (by decide)
      · exact key 3 nm3 rfl rfl (by decide)
      · exact key 4 nm4 rfl rfl (by decide)
      · exact key 5 nm5 rfl rfl (by decide)
      · exact key 6 nm6 rfl rfl (by decide)
      · exact key 7 nm7 rfl rfl (by decide)

set_option maxHeartbeats 4000000 in
set_option maxRecDepth 100000 in
theorem rname_any (c : Int) (w : World) : Calls Tryd.prog 38 #[.int .i64 c] w fun e w' => e = .returned (.string (nameOf c)) ∧ Below w.heap.size w w' := by
  by_cases h0 : c < 0
  · have e : nameOf c = ⟨#[]⟩ := if_pos h0
    rw [e]
    go_enter Tryd.func38, Tryd.ntmps38
    go_wp2
    go_ret
    exact ⟨rfl, (Below.refl _ _).alloc (Nat.le_refl _) _⟩
  · by_cases h7 : 7 < c
    · have e : nameOf c = ⟨#[]⟩ := by
        unfold nameOf
        rw [if_neg h0, List.getD_eq_getElem?_getD, List.getElem?_eq_none (by simp [classNames]; omega)]
        rfl
      rw [e]
      go_enter Tryd.func38, Tryd.ntmps38
      go_wp2
      go_ret
      exact ⟨rfl, (Below.refl _ _).alloc (Nat.le_refl _) _⟩
    · have hc : c = 0 ∨ c = 1 ∨ c = 2 ∨ c = 3 ∨ c = 4 ∨ c = 5 ∨ c = 6 ∨ c = 7 := by omega
      rcases hc with rfl | rfl | rfl | rfl | rfl | rfl | rfl | rfl
      all_goals
        go_enter Tryd.func38, Tryd.ntmps38
        go_wp2
        go_ret
        exact ⟨rfl, (Below.refl _ _).alloc (Nat.le_refl _) _⟩
end Go.Proofs.YtcibhchbgendaaaDoor.Cl
