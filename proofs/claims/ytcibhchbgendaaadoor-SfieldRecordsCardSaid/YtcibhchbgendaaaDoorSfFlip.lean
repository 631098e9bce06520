/- The walk of vitrineref01.Flip: all bits are turned. -/
import Derived.Test.YtcibhchbgendaaaDoorSfMem
namespace Go.Proofs.YtcibhchbgendaaaDoor.Sf
open Go Go.RowKit Go.Proofs.YtcibhchbgendaaaDoor.By

theorem xor_all : (List.range 256).all (fun x => decide (bits .xor .u8 (x : Int) 255 = ((255 - x : Nat) : Int))) = true := by decide +kernel
theorem xor_byte (x : Nat) (h : x < 256) : bits .xor .u8 (x : Int) 255 = ((255 - x : Nat) : Int) := by
  have := List.all_eq_true.1 xor_all x (by simp [h])
  simpa using this

set_option maxHeartbeats 4000000 in
set_option maxRecDepth 100000 in
theorem flip_any (B g n cap : Nat) (l : List Nat) (w : World) (hv : BOwn B w (.slice (some ⟨g, 0, none⟩) n cap) l) :
    Calls Tryd.prog 26 #[.slice (some ⟨g, 0, none⟩) n cap] w fun e w' => (∃ v, e = .returned v) ∧ w.grownBy w' (some g) := by
  have hmax : l.length ≤ 9223372036854775807 := hv.row.len
  have hnl : n = l.length := by
    obtain ⟨a, c, e⟩ := BOwn_form hv
    injection e
  have hn : n ≤ 9223372036854775807 := by omega
  have HV := Lib.hid hv
  clear hv hnl hmax
  go_enter Tryd.func26, Tryd.ntmps26
  go_wp2_with fail
  go_loopw [5] (fun i wr => ∃ (k : Nat) (l' : List Nat), k ≤ n ∧ i = .int .i64 k ∧ w.grownBy wr (some g) ∧ BOwn B wr (.slice (some ⟨g, 0, none⟩) n cap) l') (fun i _ => n - (intOf i).toNat)
  case atStart => exact ⟨0, l, Nat.zero_le _, rfl, gb_refl _ _, HV.out⟩
  case round =>
    obtain ⟨k, l', hk, rfl, hg, ho⟩ := hrel
    have hnl : n = l'.length := by
      obtain ⟨a, c, e⟩ := BOwn_form ho
      injection e
    subst hnl
    have HG := Lib.hid hg
    have HO := Lib.hid ho
    by_cases hlt : k < l'.length
    · obtain ⟨x, hx⟩ : ∃ x, l'[k]? = some x := ⟨l'[k]'(by omega), List.getElem?_eq_getElem _⟩
      have hc := BOwn_cell ho hx
      have hx256 : x < 256 := ho.1 x (List.mem_of_getElem? hx)
      have hxor := xor_byte x hx256
      have hf : wr.frozen? ⟨g, k, none⟩ = false := ho.2.frozenAt k
      clear hg ho hx
      go_wp2_with fail
      go_roundw
      case rel =>
        refine ⟨k + 1, l'.set k (255 - x), by omega, by go_num, gb_set HG.out (.inl rfl) _, ?_, ?_⟩
        · intro y hy
          rcases List.mem_or_eq_of_mem_set hy with h | h
          · exact HO.out.1 y h
          · omega
        · have h := HO.out.2.stored k (bv (255 - x))
          rw [List.length_set, List.map_set]
          exact h.1
      case measure => simp [intOf]; omega
    · clear hg ho
      go_wp2_with fail
      go_end0
      exact ⟨⟨_, rfl⟩, HG.out⟩
end Go.Proofs.YtcibhchbgendaaaDoor.Sf
