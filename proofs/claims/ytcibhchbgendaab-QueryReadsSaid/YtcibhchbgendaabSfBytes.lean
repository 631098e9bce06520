/- The walks of (sfield.Field).Bytes and vitrineref21.Bytes: a field's bytes. -/
import Derived.Test.YtcibhchbgendaabSfMem
import Derived.Laws.AppendOwnNone
namespace Go.Proofs.Ytcibhchbgendaab.Sf
open Go Go.RowKit Go.Proofs.Ytcibhchbgendaab.By

/-- how a call ends that tells bytes, or an error -/
def BEnd (l : List Nat) (er : Int) (B : Nat) (e : Ending) (w' : World) : Prop := ∃ v, e = .returned (.tuple #[v, .int .i64 er]) ∧ BOwn B w' v l
/-- a literal of three bytes -/
theorem own_lit3 (w : World) (a b c : Nat) (ha : a < 256) (hb : b < 256) (hc : c < 256) : BOwn w.heap.size (w.alloc (.cells #[.int .u8 a, .int .u8 b, .int .u8 c] 5)) (.slice (some ⟨w.heap.size, 0, none⟩) 3 3) [a, b, c] :=
  ⟨by intro n hn; simp at hn; omega, rfl, .inr ⟨w.heap.size, 3, _, rfl, Nat.le_refl _, heap_alloc_new w _, Nat.le_refl _, by simp [maxLen], rfl, rfl⟩⟩
set_option maxHeartbeats 4000000 in
set_option maxRecDepth 100000 in
theorem mbytes_any (id : Nat) (hid : id < 256) (B : Nat) (v : Value) (l : List Nat) (w : World) (hv : BOwn B w v l) (h47 : l.length ≤ 1000000) :
    Calls Try.prog 86 #[.agg #[.int .u8 (id : Int), v]] w fun e w' => BEnd (if 8192 < 3 + l.length then [] else bytesOf (id, l)) (if 8192 < 3 + l.length then 3 else 0) w.heap.size e w' ∧ Below w.heap.size w w' := by
  obtain ⟨i0, hi, hz0, hz1, hz2⟩ := info_parts u8_info
  have HVV := Lib.hid hv
  obtain ⟨a, cap, rfl⟩ := BOwn_form hv
  obtain ⟨n, hn⟩ : ∃ n, n = l.length := ⟨_, rfl⟩
  rw [← hn] at HVV h47 ⊢
  have HN := Lib.hid hn
  clear hv hn
  by_cases hl : 8192 < 3 + n
  · rw [if_pos hl, if_pos hl]
    have hd : decide ((8192 : Int) < 3 + (n : Int)) = true := decide_eq_true (by omega)
    clear hl
    go_enter Try.func86, Try.ntmps86
    go_wp2
    go_ret2
    exact ⟨⟨_, rfl, BOwn_nil⟩, (Below.refl _ _).alloc (Nat.le_refl _) _⟩
  · rw [if_neg hl, if_neg hl]
    have hd : decide ((8192 : Int) < 3 + (n : Int)) = false := decide_eq_false (by omega)
    have hn2 : n ≤ 8189 := by omega
    obtain ⟨x, hx⟩ : ∃ x, x = (3 + n) / 256 := ⟨_, rfl⟩
    obtain ⟨y, hy⟩ : ∃ y, y = (3 + n) % 256 := ⟨_, rfl⟩
    have hx256 : x < 256 := by omega
    have hy256 : y < 256 := by omega
    have hsh : (3 + (n : Int)) / 256 = (x : Int) := by omega
    have hsl : (3 + (n : Int)) % 256 = (y : Int) := by omega
    have HB := Lib.hid (show bytesOf (id, l) = [x, y, id] ++ l by
      have h1 : x % 256 = x := Nat.mod_eq_of_lt hx256
      unfold bytesOf
      show [(3 + l.length) / 256 % 256, (3 + l.length) % 256, id] ++ l = _
      rw [← HN.out, ← hx, ← hy, h1])
    clear hl hx hy
    rcases HVV.out.row with ⟨h1, rfl⟩ | ⟨ad, cap', h1, h2, h3, h4, h5⟩
    · injection h1 with h1 h2 h3
      subst h1 h2 h3
      obtain rfl : x = 0 := by omega
      obtain rfl : y = 3 := by omega
      have HO := Lib.hid (own_lit3 (w.alloc (.cells #[.int .u8 (id : Int), .slice none 0 0] 135)) 0 3 id (by decide) (by decide) hid)
      go_enter Try.func86, Try.ntmps86
      go_wp2_with fail
      go_ret2
      refine ⟨⟨_, rfl, ?_⟩, ((Below.refl _ _).alloc (Nat.le_refl _) _).alloc (by simp) _⟩
      rw [HB.out, List.append_nil]
      have h := HO.out.lower (C := w.heap.size) (by simp)
      simp only [World.size_alloc] at h
      exact h
    · injection h1 with h1 h2' h3'
      subst h1 h3'
      obtain ⟨W, hW⟩ : ∃ W, W = (w.alloc (.cells #[.int .u8 (id : Int), .slice (some ad) n cap] 135)).alloc (.cells #[.int .u8 (x : Int), .int .u8 (y : Int), .int .u8 (id : Int)] 5) := ⟨_, rfl⟩
      have hWb : Below w.heap.size w W := by rw [hW]; exact ((Below.refl _ _).alloc (Nat.le_refl _) _).alloc (by simp) _
      have HO := Lib.hid (show BOwn w.heap.size W (.slice (some ⟨w.heap.size + 1, 0, none⟩) 3 3) [x, y, id] by
        have h := own_lit3 (w.alloc (.cells #[.int .u8 (id : Int), .slice (some ad) n cap] 135)) x y id hx256 hy256 hid
        rw [hW]
        simpa using h.lower (C := w.heap.size) (by simp))
      have H4 := Lib.hid (show ∀ i k, l[i]? = some k → W.cell? (ad.add i) = some (bv k) from fun i k hk => by
        have hlt := (BRow.below (.inr ⟨ad, cap, rfl, h2, h3, h4, h5⟩) hWb (Nat.le_refl _) : BRow W (.slice (some ad) l.length cap) l)
        rcases hlt with ⟨e, _⟩ | ⟨ad', c', e, _, _, h, _⟩
        · cases e
        · injection e with e
          injection e with e
          subst e
          exact h i k hk)
      have hWs : w.heap.size ≤ W.heap.size := hWb.size
      have HWB := Lib.hid hWb
      clear h2 h3 h4 h5 h2' hWb
      go_enter Try.func86, Try.ntmps86
      go_wp2_with (first | (at_builtin; rw [← hW]; refine wpList_append_own _ rfl _ _ 22 rfl w.heap.size 5 i0 (.int .u8 0) 1 1 Try.underlying22 hi hz0 hz1 hz2 rfl (by decide) (.slice (some ⟨w.heap.size + 1, 0, none⟩) 3 3) 3 [bv x, bv y, bv id] rfl HO.out.2 ad n cap (l.map bv) rfl (by simp [HN.out]) (bv_cells H4.out) (fun u hu => bv_cell u l hu) (by unfold maxLen; omega) (by omega) hWs ?_; intro v' w2 hown hgrow hnil))
      go_ret2
      have hlen : ([x, y, id] ++ l).length = 3 + n := by simp [HN.out]; omega
      refine ⟨⟨_, rfl, ?_⟩, HWB.out.grown hgrow hWs (fun j hj => by simp [Value.ownBlock] at hj; omega)⟩
      rw [HB.out]
      refine ⟨?_, by rw [hlen, List.map_append]; exact hown⟩
      intro k hk
      rcases List.mem_append.1 hk with hk | hk
      · simp at hk; omega
      · exact HVV.out.1 k hk
end Go.Proofs.Ytcibhchbgendaab.Sf
