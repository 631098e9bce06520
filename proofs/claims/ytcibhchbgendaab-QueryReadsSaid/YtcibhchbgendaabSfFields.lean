/- The walk of vitrinelaw21.fields: the first fields of bytes. -/
import Derived.Test.YtcibhchbgendaabSfIter
namespace Go.Proofs.Ytcibhchbgendaab.Sf
open Go Go.RowKit Go.Shelf Go.Proofs.Ytcibhchbgendaab.By Go.Proofs.Ytcibhchbgendaab.Rg
attribute [local go_sem] Oper.semAt_some

/-- a slice of fields of one's own -/
def FRow (t : TypeId) (B : Nat) (W : World) (v : Value) (xs : List El) : Prop := W.ownsRow B t 2 v xs.length (xs.flatMap El.cells) ∧ ∀ x ∈ xs, x.G B W
/-- how a call ends that tells fields and an error -/
def FEnd (t : TypeId) (fs : List (Nat × List Nat)) (er : Int) (B : Nat) (e : Ending) (w' : World) : Prop := ∃ v xs, e = .returned (.tuple #[v, .int .i64 er]) ∧ FRow t B w' v xs ∧ xs.map El.fd = fs

/-- the error of the first fields -/
def cutErr (most : Nat) (l : List Nat) : Int := if most ≤ (fieldsOf l).length then 0 else endOf l
theorem seq_any (a : Option Addr) (n c : Nat) (w : World) : Calls Try.prog 77 #[.slice a n c] w fun e w' => e = .returned (.func (.func 87) #[] #[.pointer (some ⟨w.heap.size, 0, none⟩)]) ∧ w' = w.alloc (.cells #[.slice a n c] 22) := by
  go_enter Try.func77, Try.ntmps77
  go_wp2
  go_ret
  exact ⟨rfl, rfl⟩

theorem field_info : (Try.prog.info? 140).map (fun i => (i.zero, i.size, i.bytes)) = some (some (.agg #[.int .u8 0, .slice none 0 0]), 2, 32) := by kernel_rfl

end Go.Proofs.Ytcibhchbgendaab.Sf
