/- The walk of (*Page).Upper. -/
import Derived.Test.YtcibhchbgendaabDoorPgSmall
namespace Go.Proofs.YtcibhchbgendaabDoor.Pg
open Go Go.RowKit Go.Proofs.YtcibhchbgendaabDoor.Rf

theorem wf32 {s : Int} (h1 : -100000 ≤ s) (h2 : s ≤ 100000) : (Lit.int .i32 s).wf = true := by
  simp only [Lit.wf, show IntKind.i32.min = -2147483648 from rfl, show IntKind.i32.max = 2147483647 from rfl]
  simp only [Bool.and_eq_true, decide_eq_true_eq]
  omega

end Go.Proofs.YtcibhchbgendaabDoor.Pg
