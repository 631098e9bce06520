/- A page that may be none; a world in which pages alone have turned. -/
import Derived.Test.YtcibhchbgendaabDoorPgCore
namespace Go.Proofs.YtcibhchbgendaabDoor.Cl
open Go Go.RowKit Go.Proofs.YtcibhchbgendaabDoor.Pg

/-- blocks that are no pages lie as they lay; pages stay pages -/
structure PgStep (w w' : World) : Prop where
  os : w'.os = w.os
  tape : w'.tape = w.tape
  output : w'.output = w.output
  size : w.heap.size ≤ w'.heap.size
  keep : ∀ k, k < w.heap.size → (∀ cs, ¬ Bk w k 63 cs) → w'.heap[k]? = w.heap[k]?
  page : ∀ k cs, Bk w k 63 cs → ∃ cs', Bk w' k 63 cs'
theorem PgStep.refl (w : World) : PgStep w w := ⟨rfl, rfl, rfl, Nat.le_refl _, fun _ _ _ => rfl, fun _ cs h => ⟨cs, h⟩⟩
theorem PgStep.trans {a b c : World} (h : PgStep a b) (g : PgStep b c) : PgStep a c :=
  ⟨g.os.trans h.os, g.tape.trans h.tape, g.output.trans h.output, Nat.le_trans h.size g.size, fun k hk hn => by
    have e := h.keep k hk hn
    refine (g.keep k (Nat.lt_of_lt_of_le hk h.size) (fun cs hc => ?_)).trans e
    unfold Bk at hc
    rw [e] at hc
    exact hn cs hc, fun k cs hc => by
    obtain ⟨cs1, h1⟩ := h.page k cs hc
    exact g.page k cs1 h1⟩
theorem PgStep.below {w w' : World} (h : Below w.heap.size w w') : PgStep w w' :=
  ⟨h.os, h.tape, h.output, h.size, fun k hk _ => h.block k hk, fun _ cs hc => ⟨cs, hc.below h hc.lt⟩⟩
theorem PgStep.of {w w' : World} {b : Nat} {k : Int} (hg : w.grownBy w' (some b)) (h : PageAt w b k) (h' : PageAt w' b k) : PgStep w w' :=
  ⟨hg.os, hg.tape, hg.output, hg.size, fun i hi hn => hg.block i hi (fun e => by
    injection e with e
    subst e
    obtain ⟨cs, hc⟩ := h.bk
    exact hn cs hc), fun i cs hc => by
    by_cases e : i = b
    · subst e; exact h'.bk
    · exact ⟨cs, hc.grown hg (by simpa using e)⟩⟩
theorem PgStep.bk {w w' : World} (h : PgStep w w') {g : Nat} {t : TypeId} {cs : Array Value} (hb : Bk w g t cs) (ht : t ≠ 63) : Bk w' g t cs :=
  (h.keep g hb.lt (fun cs' hc => by unfold Bk at hb hc; rw [hb] at hc; injection hc with hc; injection hc with _ e; exact ht e)).trans hb

/-- a page's pointer, or none, which does as page 37; pages from block B on -/
def PgV (B : Nat) (w : World) (v : Value) (k : Int) : Prop := (v = .pointer none ∧ k = 37) ∨ ∃ b, v = .pointer (some ⟨b, 0, none⟩) ∧ B ≤ b ∧ PageAt w b k
theorem PgV.num {B : Nat} {w : World} {v : Value} {k : Int} (h : PgV B w v k) : IsNum k := by
  rcases h with ⟨_, rfl⟩ | ⟨b, _, _, h⟩
  · exact .inl rfl
  · exact h.1
theorem PgV.below {B : Nat} {w w' : World} {v : Value} {k : Int} (h : PgV B w v k) (hb : Below w.heap.size w w') : PgV B w' v k := by
  rcases h with h | ⟨b, h1, h2, h3⟩
  · exact .inl h
  · exact .inr ⟨b, h1, h2, h3.below hb⟩
end Go.Proofs.YtcibhchbgendaabDoor.Cl
