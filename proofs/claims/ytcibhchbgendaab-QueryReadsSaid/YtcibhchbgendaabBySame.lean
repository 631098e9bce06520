/- The walk of vitrineref01.Same: are bytes alike. -/
import Derived.Test.YtcibhchbgendaabBy
import Derived.Laws.BytesString
import Derived.Laws.BytesArg
namespace Go.Proofs.Ytcibhchbgendaab.By
open Go Go.RowKit

/-- bytes as a string -/
def bstr (l : List Nat) : ByteArray := ⟨(l.map UInt8.ofNat).toArray⟩
theorem bstr_inj {a b : List Nat} (ha : ∀ n ∈ a, n < 256) (hb : ∀ n ∈ b, n < 256) (h : bstr a = bstr b) : a = b := by
  have h1 : a.map UInt8.ofNat = b.map UInt8.ofNat := by
    have := congrArg (fun s : ByteArray => s.data.toList) h
    simpa [bstr] using this
  have back : ∀ l : List Nat, (∀ n ∈ l, n < 256) → (l.map UInt8.ofNat).map UInt8.toNat = l := by
    intro l hl
    rw [List.map_map]
    conv => rhs; rw [← List.map_id l]
    apply List.map_congr_left
    intro n hn
    have := hl n hn
    simp [Function.comp]
    omega
  rw [← back a ha, ← back b hb, h1]
theorem conv_bytes {w : World} {v : Value} {l : List Nat} (h : BRow w v l) : (convert 22 9 v).run Try.prog w = .ok (.string (bstr l)) w := by
  rcases h with ⟨rfl, rfl⟩ | ⟨a, cap, rfl, h2, h3, h4, h5⟩
  · rw [run_convert_bytes_string w 22 9 5 _ 0 0 Try.underlying22 Try.underlying5 Try.underlying9]
    simp [Conv.bytesToString]
    rfl
  · have hl : (loadCells a l.length).run Try.prog w = .ok ((l.map Int.ofNat).map (Value.int .u8)).toArray w := by
      have := run_loadCells_list (P := Try.prog) w a ((l.map Int.ofNat).map (Value.int .u8)) (fun j v hj => by
        rw [List.map_map, List.getElem?_map] at hj
        cases e : l[j]? with
        | none => rw [e] at hj; cases hj
        | some n =>
          rw [e] at hj
          cases hj
          exact h4 j n e)
      simpa using this
    rw [run_convert_bytes_string w 22 9 5 _ l.length cap Try.underlying22 Try.underlying5 Try.underlying9, run_bytesToString w a l.length cap _ hl, foldl_push_bytes]
    simp [bstr, ByteArray.empty, ByteArray.emptyWithCapacity]
    rfl
theorem bstr_beq {a b : List Nat} (ha : ∀ n ∈ a, n < 256) (hb : ∀ n ∈ b, n < 256) : ((bstr a).toList == (bstr b).toList) = decide (a = b) := by
  by_cases h : a = b
  · subst h; simp
  · have : ¬ (bstr a).toList = (bstr b).toList := fun e => h (bstr_inj ha hb (by
      rw [ByteArray.toList_eq, ByteArray.toList_eq] at e
      have e2 : (bstr a).data = (bstr b).data := Array.ext' e
      cases ha : bstr a; cases hb : bstr b; simp_all))
    simp [h, this]

set_option maxHeartbeats 4000000 in
set_option maxRecDepth 100000 in
theorem same_any (v1 v2 : Value) (l1 l2 : List Nat) (w : World) (h1 : BRow w v1 l1) (h2 : BRow w v2 l2) :
    Calls Try.prog 28 #[v1, v2] w fun e w' => e = .returned (.bool (decide (l1 = l2))) ∧ w' = w := by
  have c1 := conv_bytes h1
  have c2 := conv_bytes h2
  have hb1 := h1.bound
  have hb2 := h2.bound
  clear h1 h2
  go_enter Try.func28, Try.ntmps28
  go_wp2_with fail
  go_ret
  exact ⟨by rw [bstr_beq hb1 hb2]; rfl, rfl⟩
end Go.Proofs.Ytcibhchbgendaab.By
