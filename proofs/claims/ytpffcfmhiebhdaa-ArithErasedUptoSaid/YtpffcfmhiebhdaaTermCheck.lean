/- term.Check: what the call answers. -/
import Derived.Test.YtpffcfmhiebhdaaTermAlone
namespace Go.Proofs.Ytpffcfmhiebhdaa
open Go.RowKit Go.Shelf

attribute [local go_sem] Oper.semAt_some

theorem frm_others {A B : World} (h : Frm [] A B) : KeepsOthers A B := ⟨h.size, fun k _ hk _ => (h.below.block k (Array.getElem?_eq_some_iff.1 hk).1).trans hk⟩
theorem boxed_keep {X Y : World} {row : Option Nat} {B : Nat} {b : Nat} {t : TypeId} {v : Value} (h : Boxed X b t v) (hg : X.grownBy Y row) (hr : ∀ r, row = some r → B ≤ r ∧ ∃ o : Obj, X.heap[r]? = some o ∧ o.isCells = false) : Boxed Y b t v := by
  refine h.kept hg (fun e => ?_)
  obtain ⟨_, o, ho, hc⟩ := hr b e.symm
  rw [show X.heap[b]? = _ from h] at ho; cases ho; cases hc

set_option maxRecDepth 100000 in
set_option maxHeartbeats 4000000 in
theorem term_Check_in (n : Nat) (hn : 3 ≤ n) (T : Term) (v : Value) (levels : Int) (w : World) (hv : TermV [] w T v) (hs : T.size ≤ 1048576) (hlv : I64 levels) :
    CallsIn Fence.wide n Try.prog 20 #[v, .int .i64 levels] w fun e w' => e = .returned (.int .i64 (T.check levels)) ∧ Below w.heap.size w w' := by
  have h1 : 1 ≤ n := by omega
  have hdl := Term.deep_le T
  obtain ⟨A, cap, rfl⟩ := hv.form
  by_cases c1 : 1000 < T.size
  · refine callsIn_of_wp_marks Try.func20 rfl trivial ?_ rfl
    simp only [Try.ntmps20, List.size_toArray, List.length_cons, List.length_nil, Nat.reduceAdd, Nat.reduceSub, Array.replicate_succ, Array.replicate_zero, List.push_toArray, List.append_toArray, List.nil_append, List.cons_append]
    gi_wp2_with (first
      | (refine ⟨trivial, ?_⟩; gi_at_call 33; refine (callsIn_wide.2 (term_Size [] T _ _ (hv.keep (by repeat (first | (with_reducible refine Frm.alloc ?_ _) | (with_reducible refine Frm.drewN ?_ _) | (with_reducible refine Frm.drew ?_) | ((with_reducible refine Frm.setCell ?_ ?_ _); rotate_left; (focus (first | (left; simp; done) | (right; simp; done) | (right; simp; omega)))) | with_reducible assumption | with_reducible exact Frm.refl _ _ | (with_reducible refine Frm.trans0 ?_ ‹_›)))) hs)).mono ?_; rintro e w1 ⟨rfl, F1⟩; have bT1 := F1.at0 ((((Frm.refl [] _).alloc _).alloc _).at0 (alloc_heap_new w _)); have bR1 := F1.at0 (box_at (k := w.heap.size + 1 + 1) _ _ _ (by simp)); have bL1 := F1.at0 (((Frm.refl [] _).alloc _).at0 (box_at _ _ _ (heap_size_alloc w _).symm)); obtain ⟨z0, z1, z2, z3, z4, z5⟩ := blk4 bT1; have hc1 := Boxed.cell bR1; have hf1 := Boxed.frozen bR1)
      | (refine ⟨trivial, ?_⟩; gi_at_call 34; refine (callsIn_wide.2 (term_deep T [] _ _ (hv.keep (by repeat (first | (with_reducible refine Frm.alloc ?_ _) | (with_reducible refine Frm.drewN ?_ _) | (with_reducible refine Frm.drew ?_) | ((with_reducible refine Frm.setCell ?_ ?_ _); rotate_left; (focus (first | (left; simp; done) | (right; simp; done) | (right; simp; omega)))) | with_reducible assumption | with_reducible exact Frm.refl _ _ | (with_reducible refine Frm.trans0 ?_ ‹_›)))) hs)).mono ?_; rintro e w2 ⟨rfl, F2⟩; have bT2 := F2.at0 bT1; obtain ⟨z0, z1, z2, z3, z4, z5⟩ := blk4 bT2; have bR2 := F2.at0 bR1; have hc2 := Boxed.cell bR2; have hf2 := Boxed.frozen bR2)
      | (refine ⟨trivial, ?_⟩; gi_at_call 35; refine (term_parts Fence.wide (n - 1) trivial rfl T _ w _ hv).mono ?_; rintro e w3 ⟨rfl, rfl⟩))
    have hck : T.check levels = 3 := by unfold Term.check; rw [if_pos c1]
    have hc5 := (Boxed.set (.int .i64 3) bR1).cell
    refine ⟨.int .i64 3, ?_, by rw [hck], (Frm.below (w := w) (by repeat (first | (with_reducible refine Frm.alloc ?_ _) | (with_reducible refine Frm.drewN ?_ _) | (with_reducible refine Frm.drew ?_) | ((with_reducible refine Frm.setCell ?_ ?_ _); rotate_left; (focus (first | (left; simp; done) | (right; simp; done) | (right; simp; omega)))) | with_reducible assumption | with_reducible exact Frm.refl _ _ | (with_reducible refine Frm.trans0 ?_ ‹_›))) : Below w.heap.size w w1).setCell (p := ⟨w.heap.size + 1 + 1, 0, none⟩) (by simp; omega) _⟩
    simp [results, Try.f20, go_sem, hc5]
  by_cases c2 : 60 < T.deep
  · refine callsIn_of_wp_marks Try.func20 rfl trivial ?_ rfl
    simp only [Try.ntmps20, List.size_toArray, List.length_cons, List.length_nil, Nat.reduceAdd, Nat.reduceSub, Array.replicate_succ, Array.replicate_zero, List.push_toArray, List.append_toArray, List.nil_append, List.cons_append]
    gi_wp2_with (first
      | (refine ⟨trivial, ?_⟩; gi_at_call 33; refine (callsIn_wide.2 (term_Size [] T _ _ (hv.keep (by repeat (first | (with_reducible refine Frm.alloc ?_ _) | (with_reducible refine Frm.drewN ?_ _) | (with_reducible refine Frm.drew ?_) | ((with_reducible refine Frm.setCell ?_ ?_ _); rotate_left; (focus (first | (left; simp; done) | (right; simp; done) | (right; simp; omega)))) | with_reducible assumption | with_reducible exact Frm.refl _ _ | (with_reducible refine Frm.trans0 ?_ ‹_›)))) hs)).mono ?_; rintro e w1 ⟨rfl, F1⟩; have bT1 := F1.at0 ((((Frm.refl [] _).alloc _).alloc _).at0 (alloc_heap_new w _)); have bR1 := F1.at0 (box_at (k := w.heap.size + 1 + 1) _ _ _ (by simp)); have bL1 := F1.at0 (((Frm.refl [] _).alloc _).at0 (box_at _ _ _ (heap_size_alloc w _).symm)); obtain ⟨z0, z1, z2, z3, z4, z5⟩ := blk4 bT1; have hc1 := Boxed.cell bR1; have hf1 := Boxed.frozen bR1)
      | (refine ⟨trivial, ?_⟩; gi_at_call 34; refine (callsIn_wide.2 (term_deep T [] _ _ (hv.keep (by repeat (first | (with_reducible refine Frm.alloc ?_ _) | (with_reducible refine Frm.drewN ?_ _) | (with_reducible refine Frm.drew ?_) | ((with_reducible refine Frm.setCell ?_ ?_ _); rotate_left; (focus (first | (left; simp; done) | (right; simp; done) | (right; simp; omega)))) | with_reducible assumption | with_reducible exact Frm.refl _ _ | (with_reducible refine Frm.trans0 ?_ ‹_›)))) hs)).mono ?_; rintro e w2 ⟨rfl, F2⟩; have bT2 := F2.at0 bT1; obtain ⟨z0, z1, z2, z3, z4, z5⟩ := blk4 bT2; have bR2 := F2.at0 bR1; have hc2 := Boxed.cell bR2; have hf2 := Boxed.frozen bR2)
      | (refine ⟨trivial, ?_⟩; gi_at_call 35; refine (term_parts Fence.wide (n - 1) trivial rfl T _ w _ hv).mono ?_; rintro e w3 ⟨rfl, rfl⟩))
    have hck : T.check levels = 7 := by unfold Term.check; rw [if_neg c1, if_pos c2]
    have hc5 := (Boxed.set (.int .i64 7) bR2).cell
    refine ⟨.int .i64 7, ?_, by rw [hck], (Frm.below (w := w) (by repeat (first | (with_reducible refine Frm.alloc ?_ _) | (with_reducible refine Frm.drewN ?_ _) | (with_reducible refine Frm.drew ?_) | ((with_reducible refine Frm.setCell ?_ ?_ _); rotate_left; (focus (first | (left; simp; done) | (right; simp; done) | (right; simp; omega)))) | with_reducible assumption | with_reducible exact Frm.refl _ _ | (with_reducible refine Frm.trans0 ?_ ‹_›))) : Below w.heap.size w w2).setCell (p := ⟨w.heap.size + 1 + 1, 0, none⟩) (by simp; omega) _⟩
    simp [results, Try.f20, go_sem, hc5]
  refine callsIn_of_wp_marks Try.func20 rfl trivial ?_ rfl
  simp only [Try.ntmps20, List.size_toArray, List.length_cons, List.length_nil, Nat.reduceAdd, Nat.reduceSub, Array.replicate_succ, Array.replicate_zero, List.push_toArray, List.append_toArray, List.nil_append, List.cons_append]
  gi_wp2_with (first
    | (refine ⟨trivial, ?_⟩; gi_at_call 33; refine (callsIn_wide.2 (term_Size [] T _ _ (hv.keep (by repeat (first | (with_reducible refine Frm.alloc ?_ _) | (with_reducible refine Frm.drewN ?_ _) | (with_reducible refine Frm.drew ?_) | ((with_reducible refine Frm.setCell ?_ ?_ _); rotate_left; (focus (first | (left; simp; done) | (right; simp; done) | (right; simp; omega)))) | with_reducible assumption | with_reducible exact Frm.refl _ _ | (with_reducible refine Frm.trans0 ?_ ‹_›)))) hs)).mono ?_; rintro e w1 ⟨rfl, F1⟩; have bT1 := F1.at0 ((((Frm.refl [] _).alloc _).alloc _).at0 (alloc_heap_new w _)); have bR1 := F1.at0 (box_at (k := w.heap.size + 1 + 1) _ _ _ (by simp)); have bL1 := F1.at0 (((Frm.refl [] _).alloc _).at0 (box_at _ _ _ (heap_size_alloc w _).symm)); obtain ⟨z0, z1, z2, z3, z4, z5⟩ := blk4 bT1)
    | (refine ⟨trivial, ?_⟩; gi_at_call 34; refine (callsIn_wide.2 (term_deep T [] _ _ (hv.keep (by repeat (first | (with_reducible refine Frm.alloc ?_ _) | (with_reducible refine Frm.drewN ?_ _) | (with_reducible refine Frm.drew ?_) | ((with_reducible refine Frm.setCell ?_ ?_ _); rotate_left; (focus (first | (left; simp; done) | (right; simp; done) | (right; simp; omega)))) | with_reducible assumption | with_reducible exact Frm.refl _ _ | (with_reducible refine Frm.trans0 ?_ ‹_›)))) hs)).mono ?_; rintro e w2 ⟨rfl, F2⟩; have bT2 := F2.at0 bT1; obtain ⟨z0, z1, z2, z3, z4, z5⟩ := blk4 bT2)
    | (refine ⟨trivial, ?_⟩; gi_at_call 35; refine (term_parts Fence.wide (n - 1) trivial rfl T _ w _ hv).mono ?_; rintro e w3 ⟨rfl, rfl⟩))
  have bL2 := F2.at0 bL1
  have bR2 := F2.at0 bR1
  have hB2 : Below w.heap.size w w2 := (Frm.below (w := w) (by repeat (first | (with_reducible refine Frm.alloc ?_ _) | (with_reducible refine Frm.drewN ?_ _) | (with_reducible refine Frm.drew ?_) | ((with_reducible refine Frm.setCell ?_ ?_ _); rotate_left; (focus (first | (left; simp; done) | (right; simp; done) | (right; simp; omega)))) | with_reducible assumption | with_reducible exact Frm.refl _ _ | (with_reducible refine Frm.trans0 ?_ ‹_›))))
  have hsz2 : w.heap.size + 3 ≤ w2.heap.size := by have := (Array.getElem?_eq_some_iff.1 bR2).1; omega
  obtain ⟨W0, hW0⟩ : ∃ W0, w2.alloc (.cells #[.int .i64 T.kind, .int .i64 T.n, .string T.s, .slice A T.kids.length cap] 35) = W0 := ⟨_, rfl⟩
  have hbt : W0.heap[w2.heap.size]? = some (.cells #[.int .i64 T.kind, .int .i64 T.n, .string T.s, .slice A T.kids.length cap] 35 (0, 0)) := by rw [← hW0]; exact alloc_heap_new _ _
  have hbl : Boxed W0 (w.heap.size + 1) 3 (.int .i64 levels) := by rw [← hW0]; exact Boxed.alloc bL2 _
  have hbr : Boxed W0 (w.heap.size + 1 + 1) 23 (.int .i64 0) := by rw [← hW0]; exact Boxed.alloc bR2 _
  have hB0 : Below w.heap.size w W0 := by rw [← hW0]; exact hB2.alloc (by omega) _
  have hsz : w.heap.size + 3 ≤ W0.heap.size := by rw [← hW0]; simp; omega
  rw [hW0]
  clear hW0
  refine wpIn_rangeFunc_ownH (w0 := W0) rfl h1 (gf := 45) (lb := #[.pointer (some ⟨w2.heap.size, 0, none⟩)]) rfl trivial (enters_of Try.func45 (by kernel_rfl) rfl)
    (parts_stops Fence.wide rfl (n - 1) trivial trivial rfl w2.heap.size w W0 T _ hv hs hB0 hbt) Kept.trans (Kept.put (by omega)) (Below.refl _ _) (fun _ => rfl)
    (fun pre W => (Boxed W (w.heap.size + 1) 3 (.int .i64 levels) ∧ Boxed W (w.heap.size + 1 + 1) 23 (.int .i64 0) ∧ (pre.map TV.tm).all (Term.alone levels) = true) ∧ Below w.heap.size w W)
    (fun c pre W => (c = .ret ∧ Boxed W (w.heap.size + 1 + 1) 23 (.int .i64 4) ∧ (pre.map TV.tm).all (Term.alone levels) = false) ∧ Below w.heap.size w W)
    (OwnFrom.and (fun s X Y row hs hg hr => ⟨boxed_keep hs.1 hg hr, boxed_keep hs.2.1 hg hr, hs.2.2⟩) (ownFrom_below (Nat.le_refl _) (by omega)))
    (fun c => OwnFrom.and (fun s X Y row hs hg hr => ⟨hs.1, boxed_keep hs.2.1 hg hr, hs.2.2⟩) (ownFrom_below (Nat.le_refl _) (by omega)))
    ⟨⟨hbl, hbr, rfl⟩, hB0⟩
    (fun x a' W => ∃ Bx, w.heap.size + 1 + 1 < Bx ∧ W.heap[Bx]? = some (.cells #[.int .i64 x.tm.kind, .int .i64 x.tm.n, .string x.tm.s, x.1.2.cells.toList.getD 3 default] 35 (0, 0)) ∧ a' = { tmps := #[.agg #[.int .i64 T.kind, .int .i64 T.n, .string T.s, .slice A T.kids.length cap], .int .i64 levels, .pointer (some ⟨w.heap.size, 0, none⟩), .pointer (some ⟨w.heap.size + 1, 0, none⟩), .pointer (some ⟨w.heap.size + 1 + 1, 0, none⟩), .pointer (some ⟨Bx, 0, none⟩), .bool (decide (1000 < (T.size : Int))), .agg #[.int .i64 T.kind, .int .i64 T.n, .string T.s, .slice A T.kids.length cap], .int .i64 T.size, .bool (decide (1000 < (T.size : Int))), .bool (decide (60 < (T.deep : Int))),
      .agg #[.int .i64 T.kind, .int .i64 T.n, .string T.s, .slice A T.kids.length cap], .int .i64 T.deep, .bool (decide (60 < (T.deep : Int))), .agg #[.int .i64 T.kind, .int .i64 T.n, .string T.s, .slice A T.kids.length cap], .func (.func 45) #[] #[.pointer (some ⟨w2.heap.size, 0, none⟩)], x.1.2, undef, undef, undef, undef], defers := [] })
    (fun x a' _ X Y row hs hg hr => by
      obtain ⟨Bx, h1, h2, h3⟩ := hs
      refine ⟨Bx, h1, (hg.block Bx (Array.getElem?_eq_some_iff.1 h2).1 (fun e => ?_)).trans h2, h3⟩
      obtain ⟨_, o, ho, hc⟩ := hr Bx e.symm
      rw [h2] at ho; cases ho; cases hc)
    ?assign ?body ?done ?stop
  case assign =>
    rintro l pre x W K ⟨⟨hb1, hb2, hall⟩, hB1⟩ hK
    obtain ⟨⟨X, xv⟩, hx⟩ := x
    have hx' : TermV [] w X xv := hx.1
    obtain ⟨A', cap', hxv⟩ := hx'.form
    subst hxv
    clear hx'
    simp only [tvEnc, List.zip_toArray, List.zip_cons_cons, List.zip_nil_right, List.size_toArray, List.length_cons, List.length_nil, List.foldl_toArray', List.foldl_cons, List.foldl_nil, List.setIfInBounds_toArray, List.set_cons_succ, List.set_cons_zero]
    gi_wp2
    exact hK _ _ ((KeepsOthers.alloc _ _).from _) ((Kept.refl _ _ W).alloc hB1.size _) ⟨⟨hb1.alloc _, hb2.alloc _, hall⟩, hB1.alloc hB1.size _⟩ ⟨W.heap.size, hb2.lt, World.alloc_heap_new W _, rfl⟩
  case body =>
    rintro l pre x a' W hl ⟨r, hr⟩ ⟨⟨hb1, hb2, hall⟩, hB1⟩ ⟨Bx, hBx, hbX, rfl⟩ hlt
    obtain ⟨⟨X, xv⟩, hx⟩ := x
    have hx' : TermV [] w X xv := hx.1
    obtain ⟨A', cap', hxv⟩ := hx'.form
    subst hxv
    simp only [TV.tm, Value.cells, List.getD_cons_succ, List.getD_cons_zero] at hbX
    obtain ⟨z0, z1, z2, z3, z4, z5⟩ := blk4 hbX
    have hcl := hb1.cell
    have h1' : 1 ≤ n - 1 - 1 := by omega
    have hal : ((pre ++ [(⟨(X, _), hx⟩ : TV w)]).map TV.tm).all (Term.alone levels) = Term.alone levels X := by
      rw [List.map_append, List.all_append, hall]; simp [TV.tm]
    have hxs : X.size ≤ 1048576 := hx.2
    cases ha : Term.alone levels X
    · rw [ha] at hal
      gi_wp2_with (refine ⟨trivial, ?_⟩; gi_at_call 36; refine (CallsIn.inRound l (callsIn_wide.2 (term_alone [] X _ levels W (hx'.below hB1) hxs hlv))).mono ?_; rw [ha]; rintro e w3 ⟨rfl, F3⟩; have hb2' : Boxed w3 (w.heap.size + 1 + 1) 23 (.int .i64 0) := (F3.at0 hb2); have hc2 := hb2'.cell; have hf2 := hb2'.frozen)
      have hk3 : Kept w.heap.size W0.heap.size W w3 := (Kept.refl _ _ W).frm hB1.size F3
      exact ⟨((frm_others F3).trans (KeepsOthers.setCell _ _ _)).from _, ⟨rfl, hb2'.set _, hal⟩, (hB1.trans hk3.1).setCell (p := ⟨w.heap.size + 1 + 1, 0, none⟩) (by simp; omega) _⟩
    · rw [ha] at hal
      gi_wp2_with (refine ⟨trivial, ?_⟩; gi_at_call 36; refine (CallsIn.inRound l (callsIn_wide.2 (term_alone [] X _ levels W (hx'.below hB1) hxs hlv))).mono ?_; rw [ha]; rintro e w3 ⟨rfl, F3⟩)
      have hk3 : Kept w.heap.size W0.heap.size W w3 := (Kept.refl _ _ W).frm hB1.size F3
      exact ⟨(frm_others F3).from _, hk3, ⟨F3.at0 hb1, F3.at0 hb2, hal⟩, hB1.trans hk3.1⟩
  case done =>
    rintro D ys W hD hS ⟨⟨hb1, hb2, hall⟩, hB⟩ hK
    rw [hS] at hall
    have hck : T.check levels = 0 := by unfold Term.check; rw [if_neg c1, if_neg c2, if_pos hall]
    have hcr := hb2.cell
    have hfr := hb2.frozen
    gi_wp2
    have hK' := (KeepsOthers.setCell W ⟨w.heap.size + 1 + 1, 0, none⟩ (.int .i64 0)).same D _ hK rfl
    refine ⟨by simp, .inl ⟨_, _, rfl, run_takeDeferred hK', ?_⟩⟩
    have hc5 := cell_kept (hb2.set (.int .i64 0)).cell (grownBy_putObj' _ D (.deferred none)) (fun r e => by cases e; exact ⟨_, hK', rfl⟩)
    refine ⟨.int .i64 0, ?_, by rw [hck], (hB.setCell (p := ⟨w.heap.size + 1 + 1, 0, none⟩) (by simp; omega) _).trans (belowK_b (w := w) (Nat.le_refl _) _ D _ _ (by omega) hK' rfl rfl)⟩
    simp [results, Try.f20, go_sem, hc5]
  case stop =>
    rintro D c pre W hD hS ⟨⟨rfl, hb2, hall⟩, hB⟩ hK
    have hck : T.check levels = 4 := by
      unfold Term.check
      rw [if_neg c1, if_neg c2, if_neg]
      intro h
      obtain ⟨r, hr⟩ := hS
      rw [← hr, List.all_append, hall] at h
      cases h
    gi_wp2
    refine ⟨by simp, .inl ⟨_, _, rfl, run_takeDeferred hK, ?_⟩⟩
    have hc5 := cell_kept hb2.cell (grownBy_putObj' _ D (.deferred none)) (fun r e => by cases e; exact ⟨_, hK, rfl⟩)
    refine ⟨.int .i64 4, ?_, by rw [hck], hB.trans (belowK_b (w := w) (Nat.le_refl _) W D _ _ (by omega) hK rfl rfl)⟩
    simp [results, Try.f20, go_sem, hc5]

theorem term_Check (F : List Nat) (T : Term) (v : Value) (levels : Int) (w : World) (hv : TermV F w T v) (hs : T.size ≤ 1048576) (hl : I64 levels) :
    Calls Try.prog 20 #[v, .int .i64 levels] w fun e w' => e = .returned (.int .i64 (T.check levels)) ∧ Frm [] w w' :=
  (callsIn_wide.1 (term_Check_in 3 (by omega) T v levels w (hv.away (by simp)) hs hl)).mono fun e w' h => ⟨h.1, Frm.of_below h.2⟩
end Go.Proofs.Ytpffcfmhiebhdaa
