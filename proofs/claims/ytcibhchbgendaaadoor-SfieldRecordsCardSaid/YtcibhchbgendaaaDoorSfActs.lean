/- The walk of sfield.Acts: what all fields ask for. -/
import Derived.Test.YtcibhchbgendaaaDoorSfFields
import Derived.Test.YtcibhchbgendaaaDoorSfFact
namespace Go.Proofs.YtcibhchbgendaaaDoor.Sf
open Go Go.RowKit Go.Shelf Go.Proofs.YtcibhchbgendaaaDoor.By Go.Proofs.YtcibhchbgendaaaDoor.Rg
attribute [local go_sem] Oper.semAt_some

/-- an act in memory: with its two slices -/
structure AEl where
  a : A
  cv : Value
  rv : Value
def AEl.cells (x : AEl) : List Value := [.int .i64 x.a.kind, .int .i64 x.a.command, .int .i64 x.a.mode, .bool x.a.alt, .int .u8 (x.a.req : Int), x.cv, x.rv]
def AEl.G (N : Nat) (x : AEl) (W : World) : Prop := BOwn N W x.cv x.a.codes ∧ BOwn N W x.rv x.a.rc
theorem AEl.sound (N : Nat) : Sound N (AEl.G N) := fun _ _ _ _ h hg hs => ⟨BOwn_safe h.1 hg hs, BOwn_safe h.2 hg hs⟩
theorem AEl.G_lower {N M : Nat} {W : World} {x : AEl} (h : x.G N W) (hM : M ≤ N) : x.G M W := ⟨h.1.lower hM, h.2.lower hM⟩
/-- a slice of acts of one's own -/
def ARow (t : TypeId) (B : Nat) (W : World) (v : Value) (xs : List AEl) : Prop := W.ownsRow B t 7 v xs.length (xs.flatMap AEl.cells) ∧ ∀ x ∈ xs, x.G B W
/-- how a call ends that tells acts and an error -/
def AsEnd (t : TypeId) (r : List A × Int) (B : Nat) (e : Ending) (w' : World) : Prop := ∃ v xs, e = .returned (.tuple #[v, .int .i64 r.2]) ∧ ARow t B w' v xs ∧ xs.map AEl.a = r.1

/-- what a field that came asks for -/
def El.act (x : El) : A × Int := actOf x.id x.l
theorem acts_ok : ∀ (fs : List (Nat × List Nat)) (e : Int) (al : List A), fs.map (fun f => actOf f.1 f.2) = al.map (fun a => (a, 0)) → actsOf fs e = (al, e)
  | [], e, [], _ => rfl
  | [], _, _ :: _, h => by simp at h
  | _ :: _, _, [], h => by simp at h
  | f :: fs, e, a :: al, h => by
    simp only [List.map_cons, List.cons.injEq] at h
    unfold actsOf
    rw [h.1, acts_ok fs e al h.2]
    simp
theorem acts_err : ∀ (fs : List (Nat × List Nat)) (x : Nat × List Nat) (rest : List (Nat × List Nat)) (e : Int) (al : List A), fs.map (fun f => actOf f.1 f.2) = al.map (fun a => (a, 0)) → (actOf x.1 x.2).2 ≠ 0 → actsOf (fs ++ x :: rest) e = (al, (actOf x.1 x.2).2)
  | [], x, rest, e, [], _, hx => by
    show actsOf (x :: rest) e = _
    unfold actsOf
    rw [if_neg hx]
  | [], _, _, _, _ :: _, h, _ => by simp at h
  | _ :: _, _, _, _, [], h, _ => by simp at h
  | f :: fs, x, rest, e, a :: al, h, hx => by
    simp only [List.map_cons, List.cons.injEq] at h
    show actsOf (f :: (fs ++ x :: rest)) e = _
    unfold actsOf
    rw [h.1, acts_err fs x rest e al h.2 hx]
    simp
theorem els_mem : ∀ (f : Nat) (l : List Nat) (y : Nat × List Nat × Int), y ∈ els f l → y.2.1.length ≤ l.length
  | 0, _, y, h => by simp [els] at h
  | f + 1, l, y, h => by
    unfold els at h
    by_cases h1 : l = []
    · simp [h1] at h
    · by_cases hb : bad l
      · simp [h1, hb] at h
        subst h
        simp
      · simp only [if_neg h1, if_neg hb, List.mem_cons] at h
        rcases h with rfl | h
        · simp
          omega
        · have := els_mem f _ y h
          rw [List.length_drop] at this
          omega

/-- what the loop holds between two rounds -/
def AI (w : World) (pre : List El) (W : World) : Prop := ∃ acts : List AEl, CI 50 7 AEl.cells (AEl.G (w.heap.size + 4)) (w.heap.size + 4) (w.heap.size + 1 + 1) (w.heap.size) (w.heap.size + 1) 56 37 w acts W ∧ (∀ x ∈ pre, x.e = 0) ∧ pre.map El.act = acts.map (fun y => (y.a, 0))
/-- what it holds when it is left -/
def AX (w : World) (c : Code) (pre : List El) (W : World) : Prop := c = .ret ∧ ∃ good x acts er, pre = good ++ [x] ∧ (∀ y ∈ good, y.e = 0) ∧ good.map El.act = acts.map (fun y => (y.a, 0)) ∧ ((x.e ≠ 0 ∧ er = x.e) ∨ (x.e = 0 ∧ x.act.2 ≠ 0 ∧ er = x.act.2)) ∧ CX 50 7 AEl.cells (AEl.G (w.heap.size + 4)) (w.heap.size + 4) (w.heap.size) (w.heap.size + 1) 56 37 w er acts W
theorem act_info : (Tryd.prog.info? 50).map (fun i => (i.zero, i.size, i.bytes)) = some (some (.agg #[.int .i64 0, .int .i64 0, .int .i64 0, .bool false, .int .u8 0, .slice none 0 0, .slice none 0 0]), 7, 80) := by kernel_rfl
set_option maxRecDepth 100000 in
set_option maxHeartbeats 8000000 in
theorem macts_any (b off cap : Nat) (l : List Nat) (w : World) (hw : Win w b off cap l) (h47 : l.length ≤ 1000000) (hb : b < w.heap.size) (hcm : Cmds w) :
    Calls Tryd.prog 24 #[.slice (some ⟨b, off, none⟩) l.length cap] w fun e w' =>
      AsEnd 50 (actsOf (fieldsOf l) (endOf l)) w.heap.size e w' ∧ Below w.heap.size w w' := by
  obtain ⟨i0, hi, hz0, hz1, hz2⟩ := info_parts act_info
  have HW := Lib.hid hw
  have HCM := Lib.hid hcm
  clear hw hcm
  refine callsIn_wide.1 (callsIn_of_wp_marks (n := 5) Tryd.func24 rfl trivial ?_ rfl)
  simp only [Tryd.ntmps24, List.size_toArray, List.length_cons, List.length_nil, Nat.reduceAdd, Nat.reduceSub, Array.replicate_succ, Array.replicate_zero, List.push_toArray, List.append_toArray, List.nil_append, List.cons_append]
  refine wpIn_wide.2 ?_
  go_wp2_with fail
  refine (seq_any _ _ _ _).mono ?_
  rintro e w1 ⟨rfl, hw1⟩
  obtain ⟨w1', h0, hr1, hr2, hqo, hq, hsz, hbel⟩ := allocs4 w (.cells #[.slice none 0 0] 56) (.cells #[.int .i64 0] 37) (.cells #[.slice none 0 0] 56) (.cells #[.slice (some ⟨b, off, none⟩) l.length cap] 23)
  rw [← h0] at hw1
  subst hw1
  have HW1 := Lib.hid (HW.out.keep (W' := w1) (hbel.block b hb))
  have HBEL := Lib.hid hbel
  have HR1 := Lib.hid (show Boxed w1 (w.heap.size) 56 (.slice none 0 0) from hr1)
  have HR2 := Lib.hid (show Boxed w1 (w.heap.size + 1) 37 (.int .i64 0) from hr2)
  have HQO := Lib.hid (show Boxed w1 (w.heap.size + 1 + 1) 56 (.slice none 0 0) from hqo)
  have HQ := Lib.hid (show Boxed w1 (w.heap.size + 1 + 1 + 1) 23 (.slice (some ⟨b, off, none⟩) l.length cap) from hq)
  clear h0 hr1 hr2 hqo hq hbel
  go_wp2_with fail
  refine (wpIn_wide (n := 5)).1 ?_
  have hseq := fields_iter (w.heap.size + 1 + 1 + 1) b off cap l w1 HQ.out HW1.out (by omega) (by omega) (by omega)
  rw [hsz] at hseq
  have HSZ := Lib.hid hsz
  have hszl : w.heap.size + 4 ≤ w1.heap.size := by omega
  have hszg : w1.heap.size ≤ w.heap.size + 4 := by omega
  clear hsz
  refine wpIn_rangeBox (n := 5) (w0 := w1) rfl (by omega) (gf := 55) (lb := #[.pointer (some ⟨w.heap.size + 1 + 1 + 1, 0, none⟩)]) rfl trivial (enters_of Tryd.func55 (by kernel_rfl) rfl)
    (encs := El.encs) (q := w.heap.size + 1 + 1 + 1) (L := [w.heap.size + 1 + 1 + 1, b]) (G := El.G (w.heap.size + 4))
    hseq (fun x W l o o' h hl hc => El.G_safe h (grownBy_putObj' W l o') (fun r e => by injection e with e; subst e; exact .inl ⟨o, hl, hc⟩))
    ⟨_, _, _, HQ.out⟩ (by intro i hi; simp at hi; omega) (Below.refl _ _) (fun _ => rfl)
    (AI w)
    (AX w)
    ?hI ?hIx ?hIq ?hIxq ?h0 (fun x a' W => ∃ Bx, Bk W Bx 40 #[.int .u8 (x.id : Int), x.v] ∧ a' = { tmps := #[.slice (some ⟨b, off, none⟩) l.length cap, undef, .pointer (some ⟨w.heap.size, 0, none⟩), .pointer (some ⟨w.heap.size + 1, 0, none⟩), .pointer (some ⟨w.heap.size + 1 + 1, 0, none⟩), .pointer (some ⟨Bx, 0, none⟩), .int .i64 x.e, undef, undef, .slice (some ⟨b, off, none⟩) l.length cap, .func (.func 55) #[] #[.pointer (some ⟨w.heap.size + 1 + 1 + 1, 0, none⟩)], .agg #[.int .u8 x.id, x.v], .int .i64 x.e, undef, undef, undef, undef, undef, undef, undef, undef, undef, undef, undef, undef, undef, undef, undef, undef, undef, undef], defers := [] }) ?hAx ?assign ?body ?done ?stop
  case hI =>
    rintro pre W W' row ⟨acts, h1, h3⟩ hg hr
    have ht : Turns (w.heap.size + 4) (w.heap.size + 1 + 1 + 1) W row := fun r e => .inl ⟨by have := (hr r e).1; omega, (hr r e).2⟩
    exact ⟨acts, h1.turn (AEl.sound _) hg ht ⟨by omega, by omega⟩ ⟨by omega, by omega, by omega⟩, h3⟩
  case hIx =>
    rintro c pre W W' row ⟨rfl, good, x, acts, er, h1, h2, h3, h5, h4⟩ hg hr
    have ht : Turns (w.heap.size + 4) (w.heap.size + 1 + 1 + 1) W row := fun r e => .inl ⟨by have := (hr r e).1; omega, (hr r e).2⟩
    exact ⟨rfl, good, x, acts, er, h1, h2, h3, h5, h4.turn (AEl.sound _) hg ht ⟨by omega, by omega⟩ ⟨by omega, by omega⟩⟩
  case hIq =>
    rintro pre W W' row ⟨acts, h1, h3⟩ hg hr
    have ht : Turns (w.heap.size + 4) (w.heap.size + 1 + 1 + 1) W row := fun r e => .inr (by rcases hr with h | h <;> rw [h] at e <;> cases e; rfl)
    exact ⟨acts, h1.turn (AEl.sound _) hg ht ⟨by omega, by omega⟩ ⟨by omega, by omega, by omega⟩, h3⟩
  case hIxq =>
    rintro c pre W W' row ⟨rfl, good, x, acts, er, h1, h2, h3, h5, h4⟩ hg hr
    have ht : Turns (w.heap.size + 4) (w.heap.size + 1 + 1 + 1) W row := fun r e => .inr (by rcases hr with h | h <;> rw [h] at e <;> cases e; rfl)
    exact ⟨rfl, good, x, acts, er, h1, h2, h3, h5, h4.turn (AEl.sound _) hg ht ⟨by omega, by omega⟩ ⟨by omega, by omega⟩⟩
  case h0 => exact ⟨[], ⟨LS.start HQO.out, HR1.out, HR2.out, HBEL.out, hszl⟩, by simp, rfl⟩
  case hAx =>
    rintro x a' W lr o o' ⟨Bx, h1, h2⟩ hl hc
    exact ⟨Bx, Bk_putObj o' h1 hl hc, h2⟩
  case assign =>
    rintro lr pre ⟨id, v, dl, er⟩ W K ⟨acts, hci, hp⟩ hg hK
    obtain ⟨av, cv, hv⟩ := BOwn_form hg.2
    change v = .slice av dl.length cv at hv
    subst hv
    have HCI := Lib.hid hci
    have HG := Lib.hid hg
    have HP := Lib.hid hp
    have hsz9 := hci.2.2.2.2
    clear hci hp hg
    simp only [El.encs]
    gi_wp2
    have ht : ∀ V, Turns (w.heap.size + 4) (w.heap.size + 1 + 1 + 1) V none := fun _ r e => by cases e
    refine hK _ _ (KeepsOthers.alloc _ _) ⟨fun i hi => Below.heap_alloc _ _ _ ?_, by simp⟩ ⟨acts, HCI.out.turn (AEl.sound _) (World.grownBy_alloc _ _ none) (ht _) ⟨by omega, by omega⟩ ⟨by omega, by omega, by omega⟩, HP.out⟩ (El.G_safe HG.out (World.grownBy_alloc _ _ none) (Safe.none _ _)) ⟨_, Bk.new _ _ _, rfl⟩
    simp at hi
    omega
  case body =>
    rintro lr pre ⟨id, v, dl, er⟩ a' W ⟨acts, ⟨⟨vo, hv, hrow, hall⟩, hb1, hb2, hB, hN⟩, hp, hac⟩ hg hsp ⟨Bx, hbx, rfl⟩
    have hlen : acts.length + 1 ≤ 1000001 := by
      have h1 := hsp.length_le
      have h2 := fieldsOf_len l
      have h3 : (elsOf l).length ≤ (fieldsOf l).length + 1 := by
        rw [(elsOf_split l).1]
        split <;> simp
      have h4 := congrArg List.length hac
      simp at h1 h4
      omega
    have hdl : dl.length ≤ 140737488351232 := by
      have h1 := els_mem l.length l (El.gh ⟨id, v, dl, er⟩) (hsp.subset (by simp))
      change dl.length ≤ _ at h1
      omega
    have HCW := Lib.hid (HCM.out.below hB HCM.out.lt)
    have HAC := Lib.hid hac
    clear hsp hac
    obtain ⟨av, cv, hvv⟩ := BOwn_form hg.2
    change v = .slice av dl.length cv at hvv
    subst hvv
    obtain ⟨ao, co, rfl⟩ := row_form hrow
    have hc := hv.cell
    have hx0 := hbx.cellv (i := 0) rfl
    have hx1 := hbx.cellv (i := 1) rfl
    by_cases her : er = 0
    · subst her
      obtain ⟨⟨⟨k, c, m, bb, q, cs, rc⟩, ae⟩, hae⟩ : ∃ x : A × Int, actOf id dl = x := ⟨_, rfl⟩
      have HAE := Lib.hid hae
      have HG := Lib.hid hg
      have HALL := Lib.hid hall
      clear hae hg hall
      have HPRE := Lib.hid hp
      by_cases hae0 : ae = 0
      · subst hae0
        gi_wp2_with (first | (refine ⟨trivial, ?_⟩; gi_at_call 21; refine (CallsIn.inRound lr (callsIn_wide.2 (fact_any _ id _ dl _ HG.out.2 hdl HCW.out))).mono ?_; rintro e w2 ⟨⟨c5, r5, rfl, ho1, ho2⟩, hb2'⟩; rw [HAE.out] at ho1 ho2; rw [HAE.out]; obtain ⟨ca, cc, rfl⟩ := BOwn_form ho1; obtain ⟨ra, rcc, rfl⟩ := BOwn_form ho2; simp only [aval]; have HO1 := Lib.hid (show BOwn (w.heap.size + 4) w2 (.slice ca cs.length cc) cs from ho1.lower hN); have HO2 := Lib.hid (show BOwn (w.heap.size + 4) w2 (.slice ra rc.length rcc) rc from ho2.lower hN); have HBW := Lib.hid hb2'; have hsz2 := hb2'.size; have hgn : World.grownBy W w2 none := ⟨hb2'.os, hb2'.tape, hb2'.output, hb2'.size, fun i hi _ => hb2'.block i hi⟩; have hv2 := hv.kept hgn (by simp); have hrow2 := row_kept hrow hgn (fun r e => by cases e); have HALL2 := Lib.hid (fun y (hy : y ∈ acts) => AEl.sound _ y _ _ _ (HALL.out y hy) hgn (Safe.none _ _)); have hb12 := hb1.kept hgn (by simp); have hb22 := hb2.kept hgn (by simp); have hq2 := hv2.cell; have hs0 : w.heap.size < w2.heap.size := (by omega); have hs1 : w.heap.size + 1 < w2.heap.size := (by omega); have hs2 : w.heap.size + 1 + 1 < w2.heap.size := (by omega); have k1 := hb12.cell; have k2 := hb22.cell; have k3 := hb12.frozen; have k4 := hb22.frozen; clear ho1 ho2 hb2') | (gi_at_builtin; refine wpListIn_append_own _ rfl _ _ 56 rfl (w.heap.size + 4) 50 i0 (.agg #[.int .i64 0, .int .i64 0, .int .i64 0, .bool false, .int .u8 0, .slice none 0 0, .slice none 0 0]) 7 80 Tryd.underlying56 hi hz0 hz1 hz2 rfl (by decide) _ _ _ rfl ((hrow2.alloc _).alloc _) ⟨w2.heap.size + 1, 0, none⟩ 1 1 [.int .i64 k, .int .i64 c, .int .i64 m, .bool bb, .int .u8 (q : Int), .slice ca cs.length cc, .slice ra rc.length rcc] rfl rfl (by have h := cells_lit (w2.alloc (.cells #[.int .i64 k, .int .i64 c, .int .i64 m, .bool bb, .int .u8 (q : Int), .slice ca cs.length cc, .slice ra rc.length rcc] 50)) [.int .i64 k, .int .i64 c, .int .i64 m, .bool bb, .int .u8 (q : Int), .slice ca cs.length cc, .slice ra rc.length rcc] 50; simp only [World.size_alloc] at h; exact h) (by intro u hu; simp at hu; rcases hu with rfl | rfl | rfl | rfl | rfl | rfl | rfl <;> rfl) (by unfold maxLen; omega) (by omega) (by simp; omega) ?_; intro v' w3 hown' hgrow _; obtain ⟨g', cap', rfl⟩ := ownsRow_succ hown'; obtain ⟨hv1, hls, hko, hold, hbe, hsz3⟩ := LS.appended (x := (⟨⟨k, c, m, bb, q, cs, rc⟩, .slice ca cs.length cc, .slice ra rc.length rcc⟩ : AEl)) (hv2.alloc (.cells #[.int .i64 k, .int .i64 c, .int .i64 m, .bool bb, .int .u8 (q : Int), .slice ca cs.length cc, .slice ra rc.length rcc] 50)) (hrow2.alloc _) (fun y hy => AEl.sound _ y _ _ _ (HALL2.out y hy) (World.grownBy_alloc _ _ none) (Safe.none _ _)) (AEl.sound _ _ _ _ _ ⟨HO1.out, HO2.out⟩ (World.grownBy_alloc _ _ none) (Safe.none _ _)) (AEl.sound _) (by decide) (by decide) (by decide) (by simp; omega) hown' hgrow; have hc1 := hv1.cell; have hf1 := hv1.frozen; have HLS := Lib.hid hls; have HKO := Lib.hid hko; have HOLD := Lib.hid hold; have HBE := Lib.hid hbe; clear hls hko hold hbe hv1 hgrow hown'))
        have hold : ∀ i, i < w.heap.size + 4 → i ≠ w.heap.size + 1 + 1 → _ = W.heap[i]? := fun i h1 h2 => (HOLD.out i h1 h2).trans ((Below.heap_alloc _ _ i (by omega)).trans (HBW.out.block i (by omega)))
        refine ⟨((KeepsOthers_of_below HBW.out).trans (KeepsOthers.alloc _ _)).trans HKO.out, ⟨fun i hi => hold i (by simp at hi; omega) (by simp at hi; omega), by simp only [World.size_alloc] at hsz3; omega⟩, acts ++ [⟨⟨k, c, m, bb, q, cs, rc⟩, .slice ca cs.length cc, .slice ra rc.length rcc⟩], ⟨HLS.out, (hold (w.heap.size) (by omega) (by omega)).trans hb1, (hold (w.heap.size + 1) (by omega) (by omega)).trans hb2, hB.trans (((HBW.out.mono (by omega)).trans ((Below.refl _ w2).alloc (by omega) _)).trans (HBE.out _ (by omega) (by omega))), by simp only [World.size_alloc] at hsz3; omega⟩, fun x hx => ?_, ?_⟩
        · rcases List.mem_append.1 hx with hx | hx
          · exact HPRE.out x hx
          · simp at hx; subst hx; rfl
        · simp only [List.map_append, HAC.out, List.map_cons, List.map_nil, El.act, HAE.out]
      · have hne2 : ((ae : Int) != 0) = true := bne_iff_ne.2 hae0
        have HAE0 := Lib.hid hae0
        clear hae0
        gi_wp2_with (refine ⟨trivial, ?_⟩; gi_at_call 21; refine (CallsIn.inRound lr (callsIn_wide.2 (fact_any _ id _ dl _ HG.out.2 hdl HCW.out))).mono ?_; rintro e w2 ⟨⟨c5, r5, rfl, ho1, ho2⟩, hb2'⟩; rw [HAE.out] at ho1 ho2; rw [HAE.out]; obtain ⟨ca, cc, rfl⟩ := BOwn_form ho1; obtain ⟨ra, rcc, rfl⟩ := BOwn_form ho2; simp only [aval]; have HO1 := Lib.hid (show BOwn (w.heap.size + 4) w2 (.slice ca cs.length cc) cs from ho1.lower hN); have HO2 := Lib.hid (show BOwn (w.heap.size + 4) w2 (.slice ra rc.length rcc) rc from ho2.lower hN); have HBW := Lib.hid hb2'; have hsz2 := hb2'.size; have hgn : World.grownBy W w2 none := ⟨hb2'.os, hb2'.tape, hb2'.output, hb2'.size, fun i hi _ => hb2'.block i hi⟩; have hv2 := hv.kept hgn (by simp); have hrow2 := row_kept hrow hgn (fun r e => by cases e); have HALL2 := Lib.hid (fun y (hy : y ∈ acts) => AEl.sound _ y _ _ _ (HALL.out y hy) hgn (Safe.none _ _)); have hb12 := hb1.kept hgn (by simp); have hb22 := hb2.kept hgn (by simp); have hq2 := hv2.cell; have hs0 : w.heap.size < w2.heap.size := (by omega); have hs1 : w.heap.size + 1 < w2.heap.size := (by omega); have hs2 : w.heap.size + 1 + 1 < w2.heap.size := (by omega); have k1 := hb12.cell; have k2 := hb22.cell; have k3 := hb12.frozen; have k4 := hb22.frozen; clear ho1 ho2 hb2')
        refine ⟨(((KeepsOthers_of_below HBW.out).trans (KeepsOthers.setCell _ _ _)).trans (KeepsOthers.setCell _ _ _)).trans (KeepsOthers.alloc _ _), rfl, pre, ⟨id, .slice av dl.length cv, dl, 0⟩, acts, ae, rfl, HPRE.out, HAC.out, .inr ⟨rfl, by simp only [El.act, HAE.out]; exact HAE0.out, by simp only [El.act, HAE.out]⟩, ?_⟩
        have hm1 := LS.moved hrow2 HALL2.out (AEl.sound _) hb12 (by decide) (by decide)
        refine ⟨(hm1.grown (AEl.sound _) (grownBy_setCell' _ (w.heap.size + 1) _) (fun r e => by injection e with e; exact .inr ⟨by omega, by omega⟩)).alloc (AEl.sound _) _, ((Boxed.kept hb22 (grownBy_setCell' _ (w.heap.size) _) (by simp)).set _).alloc _, ((Below.setCell (hB.trans (HBW.out.mono (by omega))) (p := ⟨w.heap.size, 0, none⟩) (Nat.le_refl _) _).setCell (p := ⟨w.heap.size + 1, 0, none⟩) (by show _ ≤ w.heap.size + 1; omega) _).alloc (by simp [World.setCell]; omega) _⟩
    · have hne : ((er : Int) != 0) = true := bne_iff_ne.2 her
      have hc1 := hb1.cell
      have hf1 := hb1.frozen
      have hc2 := hb2.cell
      have hf2 := hb2.frozen
      have HX := Lib.hid her
      clear her
      gi_wp2
      refine ⟨(KeepsOthers.setCell _ _ _).trans (KeepsOthers.setCell _ _ _), rfl, pre, ⟨id, .slice av dl.length cv, dl, er⟩, acts, er, rfl, hp, HAC.out, .inl ⟨HX.out, rfl⟩, ?_⟩
      have hm1 := LS.moved hrow hall (AEl.sound _) hb1 (by decide) (by decide)
      refine ⟨hm1.grown (AEl.sound _) (grownBy_setCell' _ (w.heap.size + 1) _) (fun r e => by injection e with e; exact .inr ⟨by omega, by omega⟩), ((Boxed.kept hb2 (grownBy_setCell' _ (w.heap.size) _) (by simp)).set _), (Below.setCell hB (p := ⟨w.heap.size, 0, none⟩) (Nat.le_refl _) _).setCell (p := ⟨w.heap.size + 1, 0, none⟩) (by show _ ≤ w.heap.size + 1; omega) _⟩
  case done =>
    rintro D xs W hD hS ⟨acts, ⟨⟨v, hv, hrow, hall⟩, hb1, hb2, hB, hN⟩, hp, hac⟩ hK
    obtain ⟨ao, co, rfl⟩ := row_form hrow
    have hS' : (xs.map El.fd).map okEl = elsOf l := by rw [← El.gh_ok hp]; exact hS
    have ht := told_all hS'
    have HR := Lib.hid (show actsOf (fieldsOf l) (endOf l) = (acts.map AEl.a, 0) by
      rw [ht.1, ht.2]
      refine acts_ok _ _ _ ?_
      rw [List.map_map, List.map_map]
      exact hac)
    clear hS hS' ht hp hN hac
    have hc := hv.cell
    have hc1 := hb1.cell
    have hf1 := hb1.frozen
    have hc2 := hb2.cell
    have hf2 := hb2.frozen
    have hm1 := LS.moved hrow hall (AEl.sound _) hb1 (by decide) (by decide)
    have HLS := Lib.hid (hm1.grown (AEl.sound _) (grownBy_setCell' _ (w.heap.size + 1) (.int .i64 0)) (fun r e => by injection e with e; exact .inr ⟨by omega, by omega⟩))
    have HB2 := Lib.hid ((hb2.kept (grownBy_setCell' W (w.heap.size) (.slice ao acts.length co)) (by simp)).set (.int .i64 0))
    have HBB := Lib.hid ((hB.setCell (p := ⟨w.heap.size, 0, none⟩) (Nat.le_refl _) (.slice ao acts.length co)).setCell (p := ⟨w.heap.size + 1, 0, none⟩) (by show _ ≤ w.heap.size + 1; omega) (.int .i64 0))
    have HKD : ((W.setCell ⟨w.heap.size, 0, none⟩ (.slice ao acts.length co)).setCell ⟨w.heap.size + 1, 0, none⟩ (.int .i64 0)).heap[D]? = some (.deferred (some [])) := ((KeepsOthers.setCell _ _ _).trans (KeepsOthers.setCell _ _ _)).same D _ hK rfl
    have HDD := Lib.hid hD
    clear hv hrow hall hb1 hb2 hB hm1 hK hD
    go_wp2_with fail
    refine ⟨by simp, .inl ⟨_, _, rfl, run_takeDeferred HKD, ?_⟩⟩
    have hLL := HLS.out.grown (AEl.sound _) (grownBy_putObj' _ D (.deferred none)) (fun r e => by injection e with e; subst e; exact .inl ⟨_, HKD, rfl⟩)
    obtain ⟨vv, hvv, hrw, hal⟩ := hLL
    refine ⟨_, results_boxes2 rfl _ _ ⟨w.heap.size, 0, none⟩ ⟨w.heap.size + 1, 0, none⟩ _ _ rfl rfl (by kernel_rfl) (by kernel_rfl) hvv.cell (Boxed.cell (Bk_putObj _ HB2.out HKD rfl)), ⟨vv, acts, by rw [HR.out], ⟨row_lower hrw (by omega), fun x hx => AEl.G_lower (hal x hx) (by omega)⟩, by rw [HR.out]⟩, HBB.out.trans (belowK_b (w := w) (Nat.le_refl _) _ D _ _ (by have := HDD.out; omega) HKD rfl rfl)⟩
  case stop =>
    rintro D c pre W hD hSp hx hK
    obtain ⟨rfl, good, x, acts, er, rfl, hp, hac, hwhy, hls, hb2, hB⟩ := hx
    have hac' : (good.map El.fd).map (fun f => actOf f.1 f.2) = (acts.map AEl.a).map (fun a => (a, 0)) := by
      rw [List.map_map, List.map_map]
      exact hac
    have HR := Lib.hid (show actsOf (fieldsOf l) (endOf l) = (acts.map AEl.a, er) by
      rcases hwhy with ⟨hne, rfl⟩ | ⟨h0, hne, rfl⟩
      · rw [List.map_append, El.gh_ok hp] at hSp
        have ht := told_err (x := x.gh) hne hSp
        have he : x.e = 2 := congrArg (fun y : Nat × List Nat × Int => y.2.2) ht.2.2
        rw [ht.1, ht.2.1, he]
        exact acts_ok _ _ _ hac'
      · rw [El.gh_ok (by
          intro y hy
          rcases List.mem_append.1 hy with hy | hy
          · exact hp y hy
          · simp at hy; subst hy; exact h0)] at hSp
        have ht := told_some hSp
        obtain ⟨rest, e⟩ : ∃ rest, fieldsOf l = good.map El.fd ++ x.fd :: rest := by
          have h := (List.take_append_drop ((good ++ [x]).map El.fd).length (fieldsOf l)).symm
          rw [← ht.1, List.map_append, List.append_assoc] at h
          exact ⟨_, h⟩
        rw [e]
        exact acts_err _ x.fd _ _ _ hac' hne)
    have HLS := Lib.hid hls
    have HB2 := Lib.hid hb2
    have HBB := Lib.hid hB
    have HDD := Lib.hid hD
    have HKD := hK
    clear hSp hp hac hac' hwhy hls hb2 hB hD hK
    gi_wp2
    refine ⟨by simp, .inl ⟨_, _, rfl, run_takeDeferred HKD, ?_⟩⟩
    have hLL := HLS.out.grown (AEl.sound _) (grownBy_putObj' _ D (.deferred none)) (fun r e => by injection e with e; subst e; exact .inl ⟨_, HKD, rfl⟩)
    obtain ⟨vv, hvv, hrw, hal⟩ := hLL
    refine ⟨_, results_boxes2 rfl _ _ ⟨w.heap.size, 0, none⟩ ⟨w.heap.size + 1, 0, none⟩ _ _ rfl rfl (by kernel_rfl) (by kernel_rfl) hvv.cell (Boxed.cell (Bk_putObj _ HB2.out HKD rfl)), ⟨vv, acts, by rw [HR.out], ⟨row_lower hrw (by omega), fun x hx => AEl.G_lower (hal x hx) (by omega)⟩, by rw [HR.out]⟩, HBB.out.trans (belowK_b (w := w) (Nat.le_refl _) _ D _ _ (by have := HDD.out; omega) HKD rfl rfl)⟩
end Go.Proofs.YtcibhchbgendaaaDoor.Sf
