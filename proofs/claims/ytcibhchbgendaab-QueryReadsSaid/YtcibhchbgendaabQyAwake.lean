/- The walks of vitrinelaw22's awake and pick, and of query.List. -/
import Derived.Test.YtcibhchbgendaabQyAll
import Derived.Test.YtcibhchbgendaabQyFind
import Derived.Test.YtcibhchbgendaabSfRAll
import Derived.Test.YtcibhchbgendaabBySame
import Derived.Test.YtcibhchbgendaabShelf
namespace Go.Proofs.Ytcibhchbgendaab.Qy
open Go Go.RowKit Go.Proofs.Ytcibhchbgendaab.By Go.Proofs.Ytcibhchbgendaab.Sf Go.Proofs.Ytcibhchbgendaab.Pg

theorem isnum37 : IsNum 37 := .inl rfl
theorem all_len (m k : Nat) : (allOf m k).length ≤ 400 ∧ 13 ≤ (allOf m k).length := by
  have h := catR_len codes7 m k (fun c h => h)
  have e : allOf m k = catR codes7 m k := rfl
  rw [e]
  have h2 : (catR codes7 m k).length ≤ 50 * 7 + 1 := h.2
  refine ⟨by omega, ?_⟩
  have h3 : (replyOf 128 m k).length = 11 := rfl
  have h4 := reply_len 129 m k (by decide)
  have h5 : (catR codes7 m k) = 136 :: (replyOf 128 m k ++ (replyOf 129 m k ++ [133, 134, 135, 136, 166].flatMap fun c => replyOf c m k)) := rfl
  rw [h5, List.length_cons, List.length_append, List.length_append]
  omega
theorem all_head (m k : Nat) : (allOf m k).take 12 = [136, 0, 11, 129, 128, 128, 129, 133, 134, 135, 136, 166] := by
  have e : allOf m k = 136 :: (replyOf 128 m k ++ [129, 133, 134, 135, 136, 166].flatMap fun c => replyOf c m k) := rfl
  have e2 : replyOf 128 m k = [0, 11, 129, 128, 128, 129, 133, 134, 135, 136, 166] := by simp [replyOf, bytesOf, saysOf, codes7]
  rw [e, e2]
  rfl

set_option maxHeartbeats 4000000 in
set_option maxRecDepth 100000 in
theorem awake_any (w : World) : Calls Try.prog 29 #[] w fun e w' => e = .returned (.bool true) ∧ Below w.heap.size w w' := by
  obtain ⟨hl1, hl2⟩ := all_len 5 37
  have HH := Lib.hid (all_head 5 37)
  have HQ := Lib.hid (fun (p : Value) (W : World) (h : PgP W p 37) => qall_any 5 37 (.inr (.inr (.inr rfl))) (by decide) p W h)
  obtain ⟨L, hL⟩ : ∃ L, allOf 5 37 = L := ⟨_, rfl⟩
  rw [hL] at hl1 hl2 HH HQ
  clear hL
  go_enter Try.func29, Try.ntmps29
  go_wp2_with fail
  refine (new_any 37 isnum37 _).mono ?_
  rintro e w1 ⟨b, rfl, hb, hp, hw⟩
  have HP := Lib.hid (show PgP w1 (.pointer (some ⟨b, 0, none⟩)) 37 from .inr ⟨b, rfl, hp⟩)
  have HB1 := Lib.hid hw
  clear hb hp hw
  go_wp2_with fail
  refine (HQ.out _ _ HP.out).mono ?_
  rintro e w2 ⟨⟨p, c, rfl, ho⟩, hb⟩
  obtain ⟨n, hn⟩ : ∃ n, n = L.length := ⟨_, rfl⟩
  rw [← hn] at ho hl1 hl2 ⊢
  have HO := Lib.hid ho
  have HB2 := Lib.hid (HB1.out.trans (hb.mono HB1.out.size))
  have HN := Lib.hid hn
  obtain ⟨g, rfl⟩ : ∃ g, p = some ⟨g, 0, none⟩ := by
    rcases ho.lt with h | ⟨g, m, c, h, _⟩
    · injection h with _ h _; omega
    · injection h with h; exact ⟨g, h⟩
  have hcap := BOwn_cap ho
  have hd : decide ((12 : Int) < (n : Int)) = true := decide_eq_true (by omega)
  have hc12 : (12 : Int) ≤ (c : Int) := by omega
  have hrow : ∀ W : World, Below w2.heap.size w2 W → BRow W (.slice (some ⟨g, 0, none⟩) 12 c) (L.take 12) := by
    intro W hW
    have h12 : (L.take 12).length = 12 := by rw [List.length_take]; omega
    rcases ho.row.below hW (Nat.le_refl _) with ⟨h, _⟩ | ⟨a, c', h, h2, h3, h4, h5⟩
    · cases h
    · injection h with h1 h6 h7
      injection h1 with h1
      subst h1 h7
      exact .inr ⟨_, c, by rw [h12], by omega, h3, fun i x hi => h4 i x (by
        rw [List.getElem?_take] at hi
        split at hi
        · exact hi
        · cases hi), fun x hx => h5 x (List.mem_of_mem_take hx)⟩
  have HROW := Lib.hid hrow
  clear ho hb hn hcap hrow
  go_wp2_with fail
  have hrow2 := HROW.out _ ((Below.refl w2.heap.size w2).alloc (Nat.le_refl _) (.cells ([136, 0, 11, 129, 128, 128, 129, 133, 134, 135, 136, 166].map bv).toArray 5))
  rw [HH.out] at hrow2
  refine (same_any _ _ [136, 0, 11, 129, 128, 128, 129, 133, 134, 135, 136, 166] [136, 0, 11, 129, 128, 128, 129, 133, 134, 135, 136, 166] _ hrow2 (own_lit w2 [136, 0, 11, 129, 128, 128, 129, 133, 134, 135, 136, 166] (by decide) (by decide)).row).mono ?_
  rintro e w3 ⟨rfl, rfl⟩
  rw [decide_eq_true rfl]
  go_wp2_with fail
  go_ret
  exact ⟨rfl, HB2.out.alloc HB2.out.size _⟩
end Go.Proofs.Ytcibhchbgendaab.Qy
