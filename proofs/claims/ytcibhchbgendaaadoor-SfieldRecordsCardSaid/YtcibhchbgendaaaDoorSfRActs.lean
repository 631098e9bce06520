/- The walk of vitrineref21.Acts: the acts of all fields up to the first error. -/
import Derived.Test.YtcibhchbgendaaaDoorSfRAll
import Derived.Test.YtcibhchbgendaaaDoorSfOf2
import Derived.Test.YtcibhchbgendaaaDoorSfAwake
import Derived.Test.YtcibhchbgendaaaDoorSfActs
namespace Go.Proofs.YtcibhchbgendaaaDoor.Sf
open Go Go.RowKit Go.Proofs.YtcibhchbgendaaaDoor.By

/-- one more act at the end of acts of one's own -/
theorem ARow_append {t : TypeId} {B : Nat} {W w1 : World} {v v' : Value} {pre : List AEl} {x : AEl} {tmp : Obj} (h : ARow t B W v pre) (hx : x.G B W) (ht : t ≠ 5) (hB : B ≤ W.heap.size)
    (hown : w1.ownsRow B t 7 v' (pre.length + 1) (pre.flatMap AEl.cells ++ x.cells)) (hgrow : (W.alloc tmp).grownBy w1 v.ownBlock) : ARow t B w1 v' (pre ++ [x]) ∧ Below B W w1 ∧ ∀ C u l, BOwn C W u l → BOwn C w1 u l := by
  have hs : (∀ C, Safe C (W.alloc tmp) v.ownBlock) ∧ ∀ j, v.ownBlock = some j → B ≤ j := by
    rcases h.1.2 with ⟨h1, _⟩ | ⟨g, cap, cur, h1, hg, hh, _⟩
    · subst h1
      exact ⟨fun C r hr => (by cases hr), fun r hr => (by cases hr)⟩
    · subst h1
      refine ⟨fun C r hr => ?_, fun r hr => ?_⟩
      · injection hr with hr
        subst hr
        exact .inr (.inr ⟨_, _, _, (Below.heap_alloc W tmp g (Array.getElem?_eq_some_iff.1 hh).1).trans hh, ht⟩)
      · injection hr with hr
        subst hr
        exact hg
  have hb := (Below.refl W.heap.size W).alloc (Nat.le_refl _) tmp
  have ha : W.grownBy (W.alloc tmp) none := ⟨hb.os, hb.tape, hb.output, hb.size, fun i hi _ => hb.block i hi⟩
  have hk : ∀ C u l, BOwn C W u l → BOwn C w1 u l := fun C u l hu => BOwn_safe (BOwn_safe hu ha (Safe.none _ _)) hgrow (hs.1 C)
  refine ⟨⟨by rw [List.length_append, List.flatMap_append]; simpa using hown, fun y hy => ?_⟩, ((Below.refl B W).alloc hB tmp).grown hgrow (by simp; omega) hs.2, hk⟩
  rcases List.mem_append.1 hy with hy | hy
  · exact ⟨hk _ _ _ (h.2 y hy).1, hk _ _ _ (h.2 y hy).2⟩
  · simp at hy
    subst hy
    exact ⟨hk _ _ _ hx.1, hk _ _ _ hx.2⟩
end Go.Proofs.YtcibhchbgendaaaDoor.Sf
