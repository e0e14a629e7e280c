/- term.Vars: what the call answers. -/
import Derived.Test.YtpffcfmhiebhdaaTermSize
import Derived.Test.YtpffcfmhiebhdaaShelf
namespace Go.Proofs.Ytpffcfmhiebhdaa
open Go.RowKit Go.Shelf

attribute [local go_sem] Oper.semAt_some

theorem Try.infoInt : (Try.prog.info? 3).map (fun i => (i.zero, i.size, i.bytes)) = some (some (.int .i64 0), 1, 8) := by kernel_rfl

theorem cellOfHeap {w : World} {b : Nat} {cs : Array Value} {e : TypeId} {z : Nat × Nat} (h : w.heap[b]? = some (.cells cs e z)) (i : Nat) : w.cell? ⟨b, i, none⟩ = cs[i]? := by simp [World.cell?, h]

/-- Ints in a row of one's own: what slices.Contains tells. -/
theorem row_contains (zs : List Int) (x : Int) (v : Value) (base : Nat) (w : World) (hr : w.ownsRow base 3 1 v zs.length (zs.map (Value.int .i64))) (hl : zs.length ≤ 9223372036854775807) :
    Calls Try.prog 54 #[v, .int .i64 x] w fun e w' => e = .returned (.bool (zs.contains x)) ∧ w = w' := by
  obtain ⟨h1, ⟨rfl, h2⟩ | ⟨g, cap, cur, rfl, hb, hg, h3, h4, h5, h6⟩⟩ := hr
  · obtain rfl : zs = [] := List.length_eq_zero_iff.1 h2
    exact (Try.slices_Contains_int_empty none 0 x w).mono fun e w' h => ⟨h.1, h.2.symm⟩
  · refine (Try.slices_Contains_int g 0 zs.length cap zs x w (Nat.le_refl _) hl (fun j hj => ?_)).mono fun e w' h => ⟨by rw [h.1, List.take_length], h.2.symm⟩
    rw [Nat.zero_add, cellOfHeap hg]
    have h7 : cur.toList[j]? = some (.int .i64 (zs.getD j 0)) := by
      have h8 : (cur.toList.take (zs.length * 1))[j]? = (zs.map (Value.int .i64))[j]? := by rw [h6]
      rw [List.getElem?_take_of_lt (by omega), List.getElem?_map, List.getElem?_eq_getElem hj] at h8
      rw [h8]; simp [hj]
    rwa [Array.getElem?_toList] at h7

theorem Kept.appended {n₀ m₀ e k : Nat} {W w1 : World} {v : Value} {xs : List Value} {tmp : Obj} (hrow : W.ownsRow n₀ e 1 v k xs) (he : e ≠ 35) (hn : n₀ ≤ W.heap.size) (hg : (W.alloc tmp).grownBy w1 v.ownBlock) : Kept n₀ m₀ W w1 := by
  refine ((Kept.refl n₀ m₀ W).alloc hn tmp).grown (by simp; omega) hg (fun r hr => ?_)
  rcases (hrow.alloc tmp).2 with ⟨rfl, _⟩ | ⟨g, cap, cur, rfl, hb, hgb, _⟩
  · simp [Value.ownBlock] at hr
  · obtain rfl : g = r := by simpa [Value.ownBlock] using hr
    refine ⟨hb, .inr fun cs z h => ?_⟩
    rw [hgb] at h
    simp only [Option.some.injEq, Obj.cells.injEq] at h
    exact he h.2.1

def varsOf {w0 : World} (xs : List (TV w0)) : List Int := (xs.map TV.tm).foldl Term.addVar []
theorem varsOf_snoc {w0 : World} (xs : List (TV w0)) (x : TV w0) : varsOf (xs ++ [x]) = Term.addVar (varsOf xs) x.tm := by simp [varsOf]
theorem addVar_new {l : List Int} {p : Term} (h1 : p.kind = 1) (h2 : (!decide (p.n ∈ l)) = true) : Term.addVar l p = l ++ [p.n] := by
  unfold Term.addVar; rw [if_pos (by simp [h1] at h2 ⊢; exact h2)]
theorem addVar_old {l : List Int} {p : Term} (h : ¬ p.kind = 1 ∨ (!decide (p.n ∈ l)) = false) : Term.addVar l p = l := by
  unfold Term.addVar
  rw [if_neg]
  rcases h with h | h
  · simp [h]
  · simp at h; simp [h]
theorem addVar_length (l : List Int) (p : Term) : (Term.addVar l p).length ≤ l.length + 1 := by
  unfold Term.addVar; split <;> simp
theorem varsOf_length {w0 : World} (xs : List (TV w0)) : (varsOf xs).length ≤ xs.length := by
  unfold varsOf
  generalize hl : ([] : List Int) = l
  have : ∀ (ys : List Term) (l : List Int), (ys.foldl Term.addVar l).length ≤ l.length + ys.length := by
    intro ys
    induction ys with
    | nil => simp
    | cons y ys ih => intro l; have := ih (Term.addVar l y); have := addVar_length l y; simp only [List.foldl_cons, List.length_cons]; omega
  have := this (xs.map TV.tm) l
  subst hl
  simpa using this

set_option maxRecDepth 100000 in
set_option maxHeartbeats 4000000 in
theorem term_Vars_in (n : Nat) (hn : 3 ≤ n) (T : Term) (v : Value) (w : World) (hv : TermV [] w T v) (hs : T.size ≤ 1048576) :
    CallsIn Fence.wide n Try.prog 47 #[v] w fun e w' => ∃ r, e = .returned r ∧ w'.ownsRow w.heap.size 3 1 r T.vars.length (T.vars.map (Value.int .i64)) ∧ Below w.heap.size w w' := by
  have h1 : 1 ≤ n := by omega
  obtain ⟨A, cap, rfl⟩ := hv.form
  obtain ⟨i0, hi, hz0, hz1, hz2⟩ := info_parts Try.infoInt
  refine callsIn_of_wp_marks Try.func47 rfl trivial ?_ rfl
  simp only [Try.ntmps47, List.size_toArray, List.length_cons, List.length_nil, Nat.reduceAdd, Nat.reduceSub, Array.replicate_succ, Array.replicate_zero, List.push_toArray, List.append_toArray, List.nil_append, List.cons_append]
  gi_wp2_with (refine ⟨trivial, ?_⟩; gi_at_call 35; refine (term_parts Fence.wide (n - 1) trivial rfl T _ w _ hv).mono ?_; rintro e w' ⟨rfl, rfl⟩)
  obtain ⟨W0, hW0⟩ : ∃ W0, ((w.alloc (.cells #[.int .i64 T.kind, .int .i64 T.n, .string T.s, .slice A T.kids.length cap] 35)).alloc (.cells #[.slice none 0 0] 61)).alloc (.cells #[.int .i64 T.kind, .int .i64 T.n, .string T.s, .slice A T.kids.length cap] 35) = W0 := ⟨_, rfl⟩
  have hbt : W0.heap[w.heap.size + 1 + 1]? = some (.cells #[.int .i64 T.kind, .int .i64 T.n, .string T.s, .slice A T.kids.length cap] 35 (0, 0)) := by
    rw [← hW0]; have := World.alloc_heap_new ((w.alloc (.cells #[.int .i64 T.kind, .int .i64 T.n, .string T.s, .slice A T.kids.length cap] 35)).alloc (.cells #[.slice none 0 0] 61)) (.cells #[.int .i64 T.kind, .int .i64 T.n, .string T.s, .slice A T.kids.length cap] 35); simpa using this
  have hbn : Boxed W0 (w.heap.size + 1) 61 (.slice none 0 0) := by
    rw [← hW0]; have := (Boxed.new (w.alloc (.cells #[.int .i64 T.kind, .int .i64 T.n, .string T.s, .slice A T.kids.length cap] 35)) 61 (.slice none 0 0)).alloc (.cells #[.int .i64 T.kind, .int .i64 T.n, .string T.s, .slice A T.kids.length cap] 35); simpa using this
  have hB0 : Below w.heap.size w W0 := by rw [← hW0]; exact (((Below.refl _ w).alloc (Nat.le_refl _) _).alloc (by simp) _).alloc (by simp; omega) _
  have hsz : W0.heap.size = w.heap.size + 3 := by rw [← hW0]; simp
  rw [hW0]
  clear hW0
  refine wpIn_rangeFunc_ownH (w0 := W0) rfl h1 (gf := 45) (lb := #[.pointer (some ⟨w.heap.size + 1 + 1, 0, none⟩)]) rfl trivial (enters_of Try.func45 (by kernel_rfl) rfl)
    (parts_stops Fence.wide rfl (n - 1) trivial trivial rfl (w.heap.size + 1 + 1) w W0 T _ hv hs hB0 hbt) Kept.trans (Kept.put (by omega)) (Below.refl _ _) (fun _ => rfl)
    (fun pre W => (∃ sv, Boxed W (w.heap.size + 1) 61 sv ∧ W.ownsRow w.heap.size 3 1 sv (varsOf pre).length ((varsOf pre).map (Value.int .i64)) ∧ True) ∧ Below w.heap.size w W)
    (fun _ _ _ => False)
    (OwnFrom.and (Own.from (holdsRow_own w.heap.size (w.heap.size + 1) 61 3 1 (fun pre => (varsOf pre).length) (fun pre => (varsOf pre).map (Value.int .i64)) (fun _ _ => True)) _) (ownFrom_below (Nat.le_refl _) (by omega)))
    (fun _ _ _ _ _ hs _ _ => hs)
    ⟨⟨_, hbn, World.ownsRow_nil _ _ _ _, trivial⟩, hB0⟩
    (fun x a' W => ∃ Bx, w.heap.size + 1 < Bx ∧ W.heap[Bx]? = some (.cells #[.int .i64 x.tm.kind, .int .i64 x.tm.n, .string x.tm.s, x.1.2.cells.toList.getD 3 default] 35 (0, 0)) ∧ a' = { tmps := #[.agg #[.int .i64 T.kind, .int .i64 T.n, .string T.s, .slice A T.kids.length cap], .pointer (some ⟨w.heap.size, 0, none⟩), .slice none 0 0, .pointer (some ⟨w.heap.size + 1, 0, none⟩), .pointer (some ⟨Bx, 0, none⟩), .agg #[.int .i64 T.kind, .int .i64 T.n, .string T.s, .slice A T.kids.length cap],
      .func (.func 45) #[] #[.pointer (some ⟨w.heap.size + 1 + 1, 0, none⟩)], x.1.2, undef, undef, undef, undef, undef, undef, undef, undef, undef, undef, undef, undef, undef, undef, undef, undef], defers := [] })
    (fun x a' _ X Y row hs hg hr => by
      obtain ⟨Bx, h1, h2, h3⟩ := hs
      refine ⟨Bx, h1, (hg.block Bx (Array.getElem?_eq_some_iff.1 h2).1 (fun e => ?_)).trans h2, h3⟩
      obtain ⟨_, o, ho, hc⟩ := hr Bx e.symm
      rw [h2] at ho; cases ho; cases hc)
    ?assign ?body ?done ?stop
  case assign =>
    rintro l pre x W K ⟨⟨sv, hb1, hr1, -⟩, hB1⟩ hK
    obtain ⟨⟨X, xv⟩, hx⟩ := x
    have hx' : TermV [] w X xv := hx.1
    obtain ⟨A', cap', hxv⟩ := hx'.form
    subst hxv
    clear hx'
    simp only [tvEnc, List.zip_toArray, List.zip_cons_cons, List.zip_nil_right, List.size_toArray, List.length_cons, List.length_nil, List.foldl_toArray', List.foldl_cons, List.foldl_nil, List.setIfInBounds_toArray, List.set_cons_succ, List.set_cons_zero]
    gi_wp2
    refine hK _ _ ((KeepsOthers.alloc _ _).from _) ((Kept.refl _ _ W).alloc hB1.size _) ⟨⟨sv, hb1.alloc _, ?_, trivial⟩, hB1.alloc hB1.size _⟩ ⟨W.heap.size, hb1.lt, World.alloc_heap_new W _, rfl⟩
    exact hr1.alloc _
  case body =>
    rintro l pre x a' W hl ⟨r, hr⟩ ⟨⟨sv, hb1, hr1, -⟩, hB1⟩ ⟨Bx, hBx, hbX, rfl⟩ hlt
    obtain ⟨⟨X, xv⟩, hx⟩ := x
    have hx' : TermV [] w X xv := hx.1
    obtain ⟨A', cap', hxv⟩ := hx'.form
    subst hxv
    clear hx'
    simp only [TV.tm, Value.cells, List.getD_cons_succ, List.getD_cons_zero] at hbX
    obtain ⟨z0, z1, z2, z3, z4, z5⟩ := blk4 hbX
    have hc := hb1.cell
    have hvl := varsOf_length pre
    have h1' : 1 ≤ n - 1 - 1 := by omega
    gi_wp2_with (first
      | (refine ⟨trivial, ?_⟩; gi_at_call 54; refine (CallsIn.inRound l (callsIn_wide.2 (row_contains _ _ sv w.heap.size _ hr1 (by omega)))).mono ?_; rintro e w2 ⟨rfl, rfl⟩)
      | (gi_at_builtin; refine wpListIn_append_own _ rfl _ _ 61 rfl w.heap.size 3 i0 (.int .i64 0) 1 8 Try.underlying61 hi hz0 hz1 hz2 rfl (by decide) _ _ _ rfl (hr1.alloc _) ⟨W.heap.size, 0, none⟩ 1 1 [.int .i64 X.n] rfl rfl (cells_new _ _ _) (by simp [Value.oneCell']) (by unfold maxLen; omega) (by omega) (by have := hB1.size; simp; omega) ?_; intro v' w1 hown' hgrow _; have hkp := Kept.appended (m₀ := W0.heap.size) hr1 (by decide) hB1.size hgrow; obtain ⟨g', cap'', rfl⟩ := ownsRow_succ hown'; obtain ⟨hv1, hv2, hr2, hk2, hb2⟩ := hb1.appended (by decide) hr1 hB1.size (Nat.le_succ _) hown' hgrow; have hc1 := hv1.cell; have hf1 := hv1.frozen))
    · have hx1 : X.kind = 1 := by assumption
      have hx2 : (!decide (X.n ∈ varsOf pre)) = true := by assumption
      have hvo : varsOf (pre ++ [(⟨(X, _), hx⟩ : TV w)]) = varsOf pre ++ [X.n] := (varsOf_snoc _ _).trans (addVar_new hx1 hx2)
      refine ⟨hk2.from _, hkp.setCell (Nat.le_trans hB1.size (hkp.1.size)) _ _ (Nat.le_succ _) (by omega), ⟨_, hv2, ?_, trivial⟩, hB1.trans hb2⟩
      rw [hvo]; simpa using hr2
    · have hx2 : (!decide (X.n ∈ varsOf pre)) = false := by assumption
      have hvo : varsOf (pre ++ [(⟨(X, _), hx⟩ : TV w)]) = varsOf pre := (varsOf_snoc _ _).trans (addVar_old (.inr hx2))
      exact ⟨KeepsFrom.refl _ _, Kept.refl _ _ _, ⟨sv, hb1, by rw [hvo]; exact hr1, trivial⟩, hB1⟩
    · have hx1 : ¬ X.kind = 1 := by assumption
      have hxb : (X.kind == 1) = false := by simpa using hx1
      refine ⟨trivial, ?_⟩
      gi_wp2
      have hvo : varsOf (pre ++ [(⟨(X, _), hx⟩ : TV w)]) = varsOf pre := (varsOf_snoc _ _).trans (addVar_old (.inl hx1))
      exact ⟨KeepsFrom.refl _ _, Kept.refl _ _ _, ⟨sv, hb1, by rw [hvo]; exact hr1, trivial⟩, hB1⟩
  case done =>
    rintro D ys W hD hS ⟨⟨sv, hb1, hr1, -⟩, hB⟩ hK
    have hl : varsOf ys = T.vars := by unfold varsOf; rw [hS]; rfl
    rw [hl] at hr1
    have hc := hb1.cell
    gi_wp2
    refine ⟨by simp, .inl ⟨_, _, rfl, run_takeDeferred hK, ?_⟩⟩
    exact ⟨_, results_tmp rfl _ _ _, sv, rfl, ownsRow_putObj hr1 _ hK rfl, hB.trans (belowK_b (w := w) (Nat.le_refl _) W D _ _ (by omega) hK rfl rfl)⟩
  case stop =>
    rintro D c pre W _ _ h _
    exact h.elim

theorem term_Vars (F : List Nat) (T : Term) (v : Value) (w : World) (hv : TermV F w T v) (hs : T.size ≤ 1048576) :
    Calls Try.prog 47 #[v] w fun e w' => (∃ r, e = .returned r ∧ w'.ownsRow w.heap.size 3 1 r T.vars.length (T.vars.map (Value.int .i64))) ∧ Frm [] w w' :=
  (callsIn_wide.1 (term_Vars_in 3 (by omega) T v w (hv.away (by simp)) hs)).mono fun e w' ⟨r, h1, h2, h3⟩ => ⟨⟨r, h1, h2⟩, Frm.of_below h3⟩
end Go.Proofs.Ytpffcfmhiebhdaa
