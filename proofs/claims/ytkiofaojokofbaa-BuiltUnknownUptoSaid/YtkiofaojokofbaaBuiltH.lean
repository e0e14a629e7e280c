/- Contracts and plain laws: TermVars Copyt Copyt2 Copyt3 Copyt4. -/
import Derived.Test.YtkiofaojokofbaaBuiltG
import Derived.Test.YtkiofaojokofbaaShelf
import Derived.Test.YtkiofaojokofbaaBuiltB
import Derived.Test.YtkiofaojokofbaaBuiltC
import Derived.WalkSpells
import Derived.WalkLawsBesides
import Derived.Deep.QuietTactic
import Derived.BigQuiet
import Derived.Deep.DeepCutAuto
import Derived.Deep.RegionHeld3
import Derived.Lib.Hide
import Derived.Handy
import Derived.Test.YtkiofaojokofbaaBuiltD
import Derived.Test.YtkiofaojokofbaaBuiltE
namespace Go.Proofs.Ytkiofaojokofbaa
open Go.RowKit Go.Shelf

attribute [local go_sem] Oper.semAt_some

theorem Try.infoInt : (Try.prog.info? 3).map (fun i => (i.zero, i.size, i.bytes)) = some (some (.int .i64 0), 1, 8) := by kernel_rfl

theorem cellOfHeap {w : World} {b : Nat} {cs : Array Value} {e : TypeId} {z : Nat × Nat} (h : w.heap[b]? = some (.cells cs e z)) (i : Nat) : w.cell? ⟨b, i, none⟩ = cs[i]? := by simp [World.cell?, h]

/-- Ints in a row of one's own: what slices.Contains tells. -/
theorem row_contains (zs : List Int) (x : Int) (v : Value) (base : Nat) (w : World) (hr : w.ownsRow base 3 1 v zs.length (zs.map (Value.int .i64))) (hl : zs.length ≤ 9223372036854775807) :
    Calls Try.prog 94 #[v, .int .i64 x] w fun e w' => e = .returned (.bool (zs.contains x)) ∧ w = w' := by
  obtain ⟨h1, ⟨rfl, h2⟩ | ⟨g, cap, cur, rfl, hb, hg, h3, h4, h5, h6⟩⟩ := hr
  · obtain rfl : zs = [] := List.length_eq_zero_iff.1 h2
    exact (Try.slices_Contains_int_empty none 0 x w).mono fun e w' h => ⟨h.1, h.2.symm⟩
  · refine (Try.slices_Contains_int g 0 zs.length cap zs x w (Nat.le_refl _) hl (fun j hj => ?_)).mono fun e w' h => ⟨by rw [h.1, List.take_length], h.2.symm⟩
    rw [Nat.zero_add, cellOfHeap hg]
    have h7 : cur.toList[j]? = some (.int .i64 (zs.getD j 0)) := by
      have h8 : (cur.toList.take (zs.length * 1))[j]? = (zs.map (Value.int .i64))[j]? := by rw [h6]
      rw [List.getElem?_take_of_lt (by omega), List.getElem?_map, List.getElem?_eq_getElem hj] at h8
      rw [h8]; simp [hj]
    rwa [Array.getElem?_toList] at h7

theorem Kept.appended {n₀ m₀ e k : Nat} {W w1 : World} {v : Value} {xs : List Value} {tmp : Obj} (hrow : W.ownsRow n₀ e 1 v k xs) (he : e ≠ 26) (hn : n₀ ≤ W.heap.size) (hg : (W.alloc tmp).grownBy w1 v.ownBlock) : Kept n₀ m₀ W w1 := by
  refine ((Kept.refl n₀ m₀ W).alloc hn tmp).grown (by simp; omega) hg (fun r hr => ?_)
  rcases (hrow.alloc tmp).2 with ⟨rfl, _⟩ | ⟨g, cap, cur, rfl, hb, hgb, _⟩
  · simp [Value.ownBlock] at hr
  · obtain rfl : g = r := by simpa [Value.ownBlock] using hr
    refine ⟨hb, .inr fun cs z h => ?_⟩
    rw [hgb] at h
    simp only [Option.some.injEq, Obj.cells.injEq] at h
    exact he h.2.1

def varsOf {w0 : World} (xs : List (TV w0)) : List Int := (xs.map TV.tm).foldl Term.addVar []
theorem varsOf_snoc {w0 : World} (xs : List (TV w0)) (x : TV w0) : varsOf (xs ++ [x]) = Term.addVar (varsOf xs) x.tm := by simp [varsOf]
theorem addVar_new {l : List Int} {p : Term} (h1 : p.kind = 1) (h2 : (!decide (p.n ∈ l)) = true) : Term.addVar l p = l ++ [p.n] := by
  unfold Term.addVar; rw [if_pos (by simp [h1] at h2 ⊢; exact h2)]
theorem addVar_old {l : List Int} {p : Term} (h : ¬ p.kind = 1 ∨ (!decide (p.n ∈ l)) = false) : Term.addVar l p = l := by
  unfold Term.addVar
  rw [if_neg]
  rcases h with h | h
  · simp [h]
  · simp at h; simp [h]
theorem addVar_length (l : List Int) (p : Term) : (Term.addVar l p).length ≤ l.length + 1 := by
  unfold Term.addVar; split <;> simp
theorem varsOf_length {w0 : World} (xs : List (TV w0)) : (varsOf xs).length ≤ xs.length := by
  unfold varsOf
  generalize hl : ([] : List Int) = l
  have : ∀ (ys : List Term) (l : List Int), (ys.foldl Term.addVar l).length ≤ l.length + ys.length := by
    intro ys
    induction ys with
    | nil => simp
    | cons y ys ih => intro l; have := ih (Term.addVar l y); have := addVar_length l y; simp only [List.foldl_cons, List.length_cons]; omega
  have := this (xs.map TV.tm) l
  subst hl
  simpa using this

set_option maxRecDepth 100000 in
set_option maxHeartbeats 4000000 in
theorem term_Vars_in (n : Nat) (hn : 3 ≤ n) (T : Term) (v : Value) (w : World) (hv : TermV [] w T v) (hs : T.size ≤ 1048576) :
    CallsIn Fence.wide n Try.prog 82 #[v] w fun e w' => ∃ r, e = .returned r ∧ w'.ownsRow w.heap.size 3 1 r T.vars.length (T.vars.map (Value.int .i64)) ∧ Below w.heap.size w w' := by
  have h1 : 1 ≤ n := by omega
  obtain ⟨A, cap, rfl⟩ := hv.form
  obtain ⟨i0, hi, hz0, hz1, hz2⟩ := info_parts Try.infoInt
  refine callsIn_of_wp_marks Try.func82 rfl trivial ?_ rfl
  simp only [Try.ntmps82, List.size_toArray, List.length_cons, List.length_nil, Nat.reduceAdd, Nat.reduceSub, Array.replicate_succ, Array.replicate_zero, List.push_toArray, List.append_toArray, List.nil_append, List.cons_append]
  gi_wp2_with (refine ⟨trivial, ?_⟩; gi_at_call 93; refine (term_parts Fence.wide (n - 1) trivial rfl T _ w _ hv).mono ?_; rintro e w' ⟨rfl, rfl⟩)
  obtain ⟨W0, hW0⟩ : ∃ W0, ((w.alloc (.cells #[.int .i64 T.kind, .int .i64 T.n, .string T.s, .slice A T.kids.length cap] 26)).alloc (.cells #[.slice none 0 0] 65)).alloc (.cells #[.int .i64 T.kind, .int .i64 T.n, .string T.s, .slice A T.kids.length cap] 26) = W0 := ⟨_, rfl⟩
  have hbt : W0.heap[w.heap.size + 1 + 1]? = some (.cells #[.int .i64 T.kind, .int .i64 T.n, .string T.s, .slice A T.kids.length cap] 26 (0, 0)) := by
    rw [← hW0]; have := World.alloc_heap_new ((w.alloc (.cells #[.int .i64 T.kind, .int .i64 T.n, .string T.s, .slice A T.kids.length cap] 26)).alloc (.cells #[.slice none 0 0] 65)) (.cells #[.int .i64 T.kind, .int .i64 T.n, .string T.s, .slice A T.kids.length cap] 26); simpa using this
  have hbn : Boxed W0 (w.heap.size + 1) 65 (.slice none 0 0) := by
    rw [← hW0]; have := (Boxed.new (w.alloc (.cells #[.int .i64 T.kind, .int .i64 T.n, .string T.s, .slice A T.kids.length cap] 26)) 65 (.slice none 0 0)).alloc (.cells #[.int .i64 T.kind, .int .i64 T.n, .string T.s, .slice A T.kids.length cap] 26); simpa using this
  have hB0 : Below w.heap.size w W0 := by rw [← hW0]; exact (((Below.refl _ w).alloc (Nat.le_refl _) _).alloc (by simp) _).alloc (by simp; omega) _
  have hsz : W0.heap.size = w.heap.size + 3 := by rw [← hW0]; simp
  rw [hW0]
  clear hW0
  refine wpIn_rangeFunc_ownH (w0 := W0) rfl h1 (gf := 99) (lb := #[.pointer (some ⟨w.heap.size + 1 + 1, 0, none⟩)]) rfl trivial (enters_of Try.func99 (by kernel_rfl) rfl)
    (parts_stops Fence.wide rfl (n - 1) trivial trivial rfl (w.heap.size + 1 + 1) w W0 T _ hv hs hB0 hbt) Kept.trans (Kept.put (by omega)) (Below.refl _ _) (fun _ => rfl)
    (fun pre W => (∃ sv, Boxed W (w.heap.size + 1) 65 sv ∧ W.ownsRow w.heap.size 3 1 sv (varsOf pre).length ((varsOf pre).map (Value.int .i64)) ∧ True) ∧ Below w.heap.size w W)
    (fun _ _ _ => False)
    (OwnFrom.and (Own.from (holdsRow_own w.heap.size (w.heap.size + 1) 65 3 1 (fun pre => (varsOf pre).length) (fun pre => (varsOf pre).map (Value.int .i64)) (fun _ _ => True)) _) (ownFrom_below (Nat.le_refl _) (by omega)))
    (fun _ _ _ _ _ hs _ _ => hs)
    ⟨⟨_, hbn, World.ownsRow_nil _ _ _ _, trivial⟩, hB0⟩
    (fun x a' W => ∃ Bx, w.heap.size + 1 < Bx ∧ W.heap[Bx]? = some (.cells #[.int .i64 x.tm.kind, .int .i64 x.tm.n, .string x.tm.s, x.1.2.cells.toList.getD 3 default] 26 (0, 0)) ∧ a' = { tmps := #[.agg #[.int .i64 T.kind, .int .i64 T.n, .string T.s, .slice A T.kids.length cap], .pointer (some ⟨w.heap.size, 0, none⟩), .slice none 0 0, .pointer (some ⟨w.heap.size + 1, 0, none⟩), .pointer (some ⟨Bx, 0, none⟩), .agg #[.int .i64 T.kind, .int .i64 T.n, .string T.s, .slice A T.kids.length cap],
      .func (.func 99) #[] #[.pointer (some ⟨w.heap.size + 1 + 1, 0, none⟩)], x.1.2, undef, undef, undef, undef, undef, undef, undef, undef, undef, undef, undef, undef, undef, undef, undef, undef], defers := [] })
    (fun x a' _ X Y row hs hg hr => by
      obtain ⟨Bx, h1, h2, h3⟩ := hs
      refine ⟨Bx, h1, (hg.block Bx (Array.getElem?_eq_some_iff.1 h2).1 (fun e => ?_)).trans h2, h3⟩
      obtain ⟨_, o, ho, hc⟩ := hr Bx e.symm
      rw [h2] at ho; cases ho; cases hc)
    ?assign ?body ?done ?stop
  case assign =>
    rintro l pre x W K ⟨⟨sv, hb1, hr1, -⟩, hB1⟩ hK
    obtain ⟨⟨X, xv⟩, hx⟩ := x
    have hx' : TermV [] w X xv := hx.1
    obtain ⟨A', cap', hxv⟩ := hx'.form
    subst hxv
    clear hx'
    simp only [tvEnc, List.zip_toArray, List.zip_cons_cons, List.zip_nil_right, List.size_toArray, List.length_cons, List.length_nil, List.foldl_toArray', List.foldl_cons, List.foldl_nil, List.setIfInBounds_toArray, List.set_cons_succ, List.set_cons_zero]
    gi_wp2
    refine hK _ _ ((KeepsOthers.alloc _ _).from _) ((Kept.refl _ _ W).alloc hB1.size _) ⟨⟨sv, hb1.alloc _, ?_, trivial⟩, hB1.alloc hB1.size _⟩ ⟨W.heap.size, hb1.lt, World.alloc_heap_new W _, rfl⟩
    exact hr1.alloc _
  case body =>
    rintro l pre x a' W hl ⟨r, hr⟩ ⟨⟨sv, hb1, hr1, -⟩, hB1⟩ ⟨Bx, hBx, hbX, rfl⟩ hlt
    obtain ⟨⟨X, xv⟩, hx⟩ := x
    have hx' : TermV [] w X xv := hx.1
    obtain ⟨A', cap', hxv⟩ := hx'.form
    subst hxv
    clear hx'
    simp only [TV.tm, Value.cells, List.getD_cons_succ, List.getD_cons_zero] at hbX
    obtain ⟨z0, z1, z2, z3, z4, z5⟩ := blk4 hbX
    have hc := hb1.cell
    have hvl := varsOf_length pre
    have h1' : 1 ≤ n - 1 - 1 := by omega
    gi_wp2_with (first
      | (refine ⟨trivial, ?_⟩; gi_at_call 94; refine (CallsIn.inRound l (callsIn_wide.2 (row_contains _ _ sv w.heap.size _ hr1 (by omega)))).mono ?_; rintro e w2 ⟨rfl, rfl⟩)
      | (gi_at_builtin; refine wpListIn_append_own _ rfl _ _ 65 rfl w.heap.size 3 i0 (.int .i64 0) 1 8 Try.underlying65 hi hz0 hz1 hz2 rfl (by decide) _ _ _ rfl (hr1.alloc _) ⟨W.heap.size, 0, none⟩ 1 1 [.int .i64 X.n] rfl rfl (cells_new _ _ _) (by simp [Value.oneCell']) (by unfold maxLen; omega) (by omega) (by have := hB1.size; simp; omega) ?_; intro v' w1 hown' hgrow _; have hkp := Kept.appended (m₀ := W0.heap.size) hr1 (by decide) hB1.size hgrow; obtain ⟨g', cap'', rfl⟩ := ownsRow_succ hown'; obtain ⟨hv1, hv2, hr2, hk2, hb2⟩ := hb1.appended (by decide) hr1 hB1.size (Nat.le_succ _) hown' hgrow; have hc1 := hv1.cell; have hf1 := hv1.frozen))
    · have hx1 : X.kind = 1 := by assumption
      have hx2 : (!decide (X.n ∈ varsOf pre)) = true := by assumption
      have hvo : varsOf (pre ++ [(⟨(X, _), hx⟩ : TV w)]) = varsOf pre ++ [X.n] := (varsOf_snoc _ _).trans (addVar_new hx1 hx2)
      refine ⟨hk2.from _, hkp.setCell (Nat.le_trans hB1.size (hkp.1.size)) _ _ (Nat.le_succ _) (by omega), ⟨_, hv2, ?_, trivial⟩, hB1.trans hb2⟩
      rw [hvo]; simpa using hr2
    · have hx2 : (!decide (X.n ∈ varsOf pre)) = false := by assumption
      have hvo : varsOf (pre ++ [(⟨(X, _), hx⟩ : TV w)]) = varsOf pre := (varsOf_snoc _ _).trans (addVar_old (.inr hx2))
      exact ⟨KeepsFrom.refl _ _, Kept.refl _ _ _, ⟨sv, hb1, by rw [hvo]; exact hr1, trivial⟩, hB1⟩
    · have hx1 : ¬ X.kind = 1 := by assumption
      have hxb : (X.kind == 1) = false := by simpa using hx1
      refine ⟨trivial, ?_⟩
      gi_wp2
      have hvo : varsOf (pre ++ [(⟨(X, _), hx⟩ : TV w)]) = varsOf pre := (varsOf_snoc _ _).trans (addVar_old (.inl hx1))
      exact ⟨KeepsFrom.refl _ _, Kept.refl _ _ _, ⟨sv, hb1, by rw [hvo]; exact hr1, trivial⟩, hB1⟩
  case done =>
    rintro D ys W hD hS ⟨⟨sv, hb1, hr1, -⟩, hB⟩ hK
    have hl : varsOf ys = T.vars := by unfold varsOf; rw [hS]; rfl
    rw [hl] at hr1
    have hc := hb1.cell
    gi_wp2
    refine ⟨by simp, .inl ⟨_, _, rfl, run_takeDeferred hK, ?_⟩⟩
    exact ⟨_, results_tmp rfl _ _ _, sv, rfl, ownsRow_putObj hr1 _ hK rfl, hB.trans (belowK_b (w := w) (Nat.le_refl _) W D _ _ (by omega) hK rfl rfl)⟩
  case stop =>
    rintro D c pre W _ _ h _
    exact h.elim

theorem term_Vars (F : List Nat) (T : Term) (v : Value) (w : World) (hv : TermV F w T v) (hs : T.size ≤ 1048576) :
    Calls Try.prog 82 #[v] w fun e w' => (∃ r, e = .returned r ∧ w'.ownsRow w.heap.size 3 1 r T.vars.length (T.vars.map (Value.int .i64))) ∧ Frm [] w w' :=
  (callsIn_wide.1 (term_Vars_in 3 (by omega) T v w (hv.away (by simp)) hs)).mono fun e w' ⟨r, h1, h2, h3⟩ => ⟨⟨r, h1, h2⟩, Frm.of_below h3⟩
end Go.Proofs.Ytkiofaojokofbaa
namespace Go.Proofs.Ytkiofaojokofbaa
open Go.RowKit Go.Maps

/-- The place of a variable among some. -/
def placeOf (vs : List Int) (n : Int) : Int := if n ∈ vs then (vs.idxOf n : Nat) else 0
def placesE (vs : List Int) : List (Value × Value) := vs.map fun v => (.int .i64 v, .int .i64 (placeOf vs v))
/-- A term whose variables are the places of theirs. -/
def Term.renum (vs : List Int) (t : Term) : Term := t.ren (placeOf vs)
theorem int_keyed' : Keyed Try.prog 3 := int_keyed Try.underlying3
theorem int_key' {n : Int} (h : I64 n) : keyOf Try.prog 3 (.int .i64 n) = some (.int .i64 n) := keyOf_int_mk Try.underlying3 (by unfold I64 at h; simpa [Lit.wf, IntKind.min, IntKind.max, IntKind.signed, IntKind.bits] using h)
theorem place_look {w : World} {mb : Nat} {vs : List Int} (h : MapAt Try.prog 3 w mb (placesE vs)) {n : Int} (hn : I64 n) :
    (Instr.lookup 121 (.map (some mb)) (.int .i64 n) false).run Try.prog w = .ok (.int .i64 (placeOf vs n)) w := by
  rcases h.look int_keyed' Try.underlying121 (z := .int .i64 0) (fun w' => Try.zeroValue3 w') (int_key' hn) with ⟨v, h1, _, h3⟩ | ⟨h1, _, h3⟩
  · obtain ⟨x, hx, he⟩ := List.mem_map.1 h1
    simp only [Prod.mk.injEq, Value.int.injEq, true_and] at he
    obtain ⟨rfl, rfl⟩ := he
    rw [h3]
  · rw [h3]
    have : n ∉ vs := fun hx => h1 (.int .i64 n, .int .i64 (placeOf vs n)) (List.mem_map.2 ⟨n, hx, rfl⟩) rfl
    rw [placeOf, if_neg this]
theorem placeOf_rng {vs : List Int} (h : vs.length ≤ 1048576) (n : Int) : 0 ≤ placeOf vs n ∧ placeOf vs n ≤ 1048576 := by
  unfold placeOf
  split
  · rename_i hm
    have := List.idxOf_lt_length_of_mem hm
    omega
  · omega
theorem placeOf_i64 {vs : List Int} (h : vs.length ≤ 1048576) (n : Int) : I64 (placeOf vs n) := by
  have := placeOf_rng h n; unfold I64; omega

set_option maxRecDepth 100000 in
set_option maxHeartbeats 1000000 in
theorem copyt_kids (vs : List Int) (mb : Nat) (k n : Int) (s : ByteArray) (ts : List Term)
    (ih : ∀ t ∈ ts, ∀ (F : List Nat) (v : Value) (w : World), TermV F w t v → (∀ b, b ∈ F → b < w.heap.size) → MapAt Try.prog 3 w mb (placesE vs) →
      Calls Try.prog 83 #[v, .map (some mb)] w fun e w' => (∃ v', e = .returned v' ∧ TermV F w' (t.renum vs) v') ∧ Frm [] w w')
    (F : List Nat) (A : Option Addr) (cap : Nat) (w : World) (h : TermV F w (.mk k n s ts) (.agg #[.int .i64 k, .int .i64 n, .string s, .slice A ts.length cap])) (hF : ∀ b, b ∈ F → b < w.heap.size) (hM : MapAt Try.prog 3 w mb (placesE vs)) :
    Calls Try.prog 95 #[.agg #[.int .i64 k, .int .i64 n, .string s, .slice A ts.length cap], .map (some mb)] w fun e w' =>
      (∃ A' cap', e = .returned (.slice A' ts.length cap') ∧ ts.length ≤ cap' ∧ cap' ≤ 9223372036854775807 ∧ KidsV F w' (ts.map (Term.renum vs)) A' 0) ∧ Frm [] w w' := by
  have IH := Lib.hid ih
  clear ih
  simp only [TermV] at h
  obtain ⟨A_, cap_, he, hk1, hn1, hs1, hl1, hc, hc2, hk⟩ := h
  simp only [Value.agg.injEq, Array.mk.injEq, List.cons.injEq, and_true, true_and, Value.slice.injEq] at he
  obtain ⟨rfl, rfl⟩ := he
  obtain ⟨i0, hi, hz0, hz1, hz2⟩ := info_parts Try.infoTerm
  go_enter Try.func95, Try.ntmps95
  go_wp2
  generalize hW : World.alloc _ _ = W
  have hb0 : W.heap[w.heap.size]? = some (.cells #[.int .i64 k, .int .i64 n, .string s, .slice A ts.length cap] 26 (0, 0)) := by subst hW; exact (by repeat (first | rw [heap_alloc_at] | rw [heap_size_alloc] | rfl | rw [if_pos (by omega)] | rw [if_neg (by omega)]))
  have FW : Frm [] w W := by subst hW; exact (by repeat (first | with_reducible (first | refine .alloc ?_ _ | refine .drewN ?_ _ | refine .drew ?_) | ((with_reducible refine .setCell ?_ ?_ _); rotate_left; focus (first | (left; simp; done) | (right; simp; (first | done | omega)))) | with_reducible (first | assumption | exact .refl _ _ | refine .trans0 ?_ ‹_›)))
  have hsW : W.heap.size = w.heap.size + 1 := by subst hW; simp
  clear hW
  go_loopw [5, 11] (fun a i wr => ∃ (j : Nat) (xs : List Value), j ≤ ts.length ∧ i = .int .i64 j ∧ Frm [] W wr ∧ OwnTerms (w.heap.size :: F) wr W.heap.size a ((ts.take j).map (Term.renum vs)) xs) (fun _ i _ => ts.length - (intOf i).toNat)
  case atStart => exact ⟨0, [], Nat.zero_le _, rfl, Frm.refl _ _, OwnTerms.nil _ _ _⟩
  case round =>
    obtain ⟨j, xs, hj, rfl, FR, hown⟩ := hrel
    have F0 : Frm [] w wr := FW.trans0 FR
    have HOWN := Lib.hid hown
    clear hown
    by_cases hlt : j < ts.length
    · have hF1 : ∀ b, b ∈ u5.ownBlock.toList ++ (w.heap.size :: F) → b < wr.heap.size := by
        intro b hb
        rcases List.mem_append.1 hb with hb | hb
        · exact (HOWN.out.own_lt b hb).2
        · have h3 := FR.size
          rcases List.mem_cons.1 hb with rfl | hb
          · omega
          have := hF b hb; omega
      obtain ⟨b', off, A', cap', rfl, hb1', hb2', e0, e1, e2, e3, hkid⟩ := ((hk.away (F' := u5.ownBlock.toList ++ (w.heap.size :: F)) (fun b hb => by
        rcases List.mem_append.1 hb with hb | hb
        · exact .inr (by have := (HOWN.out.own_lt b hb).1; omega)
        · rcases List.mem_cons.1 hb with rfl | hb
          · exact .inr (by omega)
          exact .inl hb)).keep F0).kid j hlt
      have HT := Lib.hid (take_succ_get hlt)
      have HM : Hid (ts[j] ∈ ts) := List.getElem_mem hlt
      have hsz := F0.size
      have hsz1 := FR.size
      generalize ts[j] = t at *
      go_wp2_with (first
        | (go_at_call 83; refine (IH.out t HM.out (u5.ownBlock.toList ++ (w.heap.size :: F)) _ _ (hkid.keep (by repeat (first | with_reducible (first | refine .alloc ?_ _ | refine .drewN ?_ _ | refine .drew ?_) | ((with_reducible refine .setCell ?_ ?_ _); rotate_left; focus (first | (left; simp; done) | (right; simp; (first | done | omega)))) | with_reducible (first | assumption | exact .refl _ _ | refine .trans0 ?_ ‹_›)))) (fun b hb => by have := hF1 b hb; simp; omega) ((hM.keep F0).keep (by repeat (first | with_reducible (first | refine .alloc ?_ _ | refine .drewN ?_ _ | refine .drew ?_) | ((with_reducible refine .setCell ?_ ?_ _); rotate_left; focus (first | (left; simp; done) | (right; simp; (first | done | omega)))) | with_reducible (first | assumption | exact .refl _ _ | refine .trans0 ?_ ‹_›))))).mono ?_; rintro e w2 ⟨⟨v2, rfl, hv2⟩, F2⟩; obtain ⟨A2, cap2, rfl⟩ := hv2.form; have HV2 := Lib.hid hv2; clear hv2; obtain ⟨hc2', hf2'⟩ := F2.reads; have hsz2 := F2.size; simp at hsz2; have F2' : Frm [] wr w2 := (by repeat (first | with_reducible (first | refine .alloc ?_ _ | refine .drewN ?_ _ | refine .drew ?_) | ((with_reducible refine .setCell ?_ ?_ _); rotate_left; focus (first | (left; simp; done) | (right; simp; (first | done | omega)))) | with_reducible (first | assumption | exact .refl _ _ | refine .trans0 ?_ ‹_›))); have hown2 := Lib.hid (fun o => HOWN.out.keep (F2'.alloc o)))
        | (at_builtin; go_must (refine wpList_append_own_at _ rfl _ _ 22 rfl W.heap.size 26 i0 _ 4 56 Try.underlying22 hi hz0 hz1 hz2 rfl (by decide) u5 _ _ rfl (hown2.out _).1 ⟨w2.heap.size, 0, none⟩ 1 1 [.int .i64 (t.renum vs).kind, .int .i64 (t.renum vs).n, .string (t.renum vs).s, .slice A2 (t.renum vs).kids.length cap2] rfl rfl ?c1x ?c2x ?c3x ?c4x ?c5x ?_); (case c1x => exact cells_new _ _ _); (case c2x => simp [Value.oneCell']); (case c3x => simp [maxLen]; omega); (case c4x => simp; omega); (case c5x => simp; omega); intro v3 w3 how3 hgw3 _ hatw3))
      go_roundw
      case rel =>
        refine ⟨j + 1, xs ++ [.int .i64 (t.renum vs).kind, .int .i64 (t.renum vs).n, .string (t.renum vs).s, .slice A2 (t.renum vs).kids.length cap2], by omega, by go_num, ?_, ?_⟩
        · refine Frm.grown ((FR.trans0 F2').alloc _) hgw3 (fun b hb => .inr (HOWN.out.own_lt b (by simpa using hb)).1)
        · rw [HT.out, List.map_append]
          refine (hown2.out _).snoc ?_ how3 hgw3 hatw3
          exact HV2.out.keep (by repeat (first | with_reducible (first | refine .alloc ?_ _ | refine .drewN ?_ _ | refine .drew ?_) | ((with_reducible refine .setCell ?_ ?_ _); rotate_left; focus (first | (left; simp; done) | (right; simp; (first | done | omega)))) | with_reducible (first | assumption | exact .refl _ _ | refine .trans0 ?_ ‹_›)))
      case measure => simp [intOf]; omega
    · have : j = ts.length := by omega
      subst this
      obtain ⟨A3, cap3, rfl, hle3, hcap3, hk3⟩ := HOWN.out.kids (fun b hb => by
        rcases List.mem_cons.1 hb with rfl | hb
        · omega
        have := hF b hb; omega)
      simp only [List.take_length, List.length_map] at hle3 hcap3 hk3 ⊢
      go_wp2
      go_ret
      exact ⟨⟨A3, cap3, rfl, hle3, hcap3, hk3.away (fun b hb => .inl (by simp [hb]))⟩, F0⟩

set_option maxRecDepth 100000 in
set_option maxHeartbeats 2000000 in
theorem copyt_put (vs : List Int) (mb : Nat) (hvs : vs.length ≤ 1048576) : ∀ (t : Term) (F : List Nat) (v : Value) (w : World), TermV F w t v → (∀ b, b ∈ F → b < w.heap.size) → MapAt Try.prog 3 w mb (placesE vs) →
    Calls Try.prog 83 #[v, .map (some mb)] w fun e w' => (∃ v', e = .returned v' ∧ TermV F w' (t.renum vs) v') ∧ Frm [] w w' := by
  intro t
  induction t using Term.induct with
  | h k n s ts ih =>
    intro F v w h hF hM
    have hv := h
    have HK := Lib.hid (copyt_kids vs mb k n s ts ih)
    clear ih
    have hE : Hid (Term.renum vs (.mk k n s ts) = .mk k (if k = 1 then placeOf vs n else n) s (ts.map (Term.renum vs))) := Term.ren_mk _ _ _ _ _
    simp only [TermV] at h
    obtain ⟨A, cap, rfl, hk1, hn1, hs1, hl1, hc, hc2, hk⟩ := h
    have HP := placeOf_i64 hvs n
    have HPL := Lib.hid (fun w' (h : MapAt Try.prog 3 w' mb (placesE vs)) => place_look h hn1)
    generalize hp : placeOf vs n = p at *
    clear hp
    by_cases h1 : k = 1
    · have hE2 : Hid (Term.renum vs (.mk k n s ts) = .mk 1 p s (ts.map (Term.renum vs))) := by show _ = _; rw [hE.out, if_pos h1, h1]
      have hk' : (k == 1) = true := by simpa using h1
      clear h1 hE
      go_enter Try.func83, Try.ntmps83
      go_wp2
      generalize hW : World.alloc _ _ = W
      have hb0 : W.heap[w.heap.size]? = some (.cells #[.int .i64 k, .int .i64 n, .string s, .slice A ts.length cap] 26 (0, 0)) := by subst hW; exact (by repeat (first | rw [heap_alloc_at] | rw [heap_size_alloc] | rfl | rw [if_pos (by omega)] | rw [if_neg (by omega)]))
      have hb1 : W.heap[w.heap.size + 1]? = some (.cells #[.int .i64 0, .int .i64 0, .string ⟨#[]⟩, .slice none 0 0] 26 (0, 0)) := by subst hW; exact (by repeat (first | rw [heap_alloc_at] | rw [heap_size_alloc] | rfl | rw [if_pos (by omega)] | rw [if_neg (by omega)]))
      have FW : Frm [] w W := by subst hW; exact (by repeat (first | with_reducible (first | refine .alloc ?_ _ | refine .drewN ?_ _ | refine .drew ?_) | ((with_reducible refine .setCell ?_ ?_ _); rotate_left; focus (first | (left; simp; done) | (right; simp; (first | done | omega)))) | with_reducible (first | assumption | exact .refl _ _ | refine .trans0 ?_ ‹_›)))
      have hsW : W.heap.size = w.heap.size + 1 + 1 := by subst hW; simp
      clear hW
      obtain ⟨x0, x1, x2, x3, x4, x5⟩ := blk4 hb0
      have hvW := (hv.away (F' := w.heap.size :: (w.heap.size + 1) :: F) (new_two (Nat.le_refl _) (by omega))).keep FW
      have hMW := hM.keep FW
      have hF2 : ∀ b, b ∈ w.heap.size :: (w.heap.size + 1) :: F → b < W.heap.size := lt_two hF (by omega) (by omega) (by omega)
      have hlk := HPL.out W hMW
      have hlkd := HPL.out W.drew (hMW.keep (by repeat (first | with_reducible (first | refine .alloc ?_ _ | refine .drewN ?_ _ | refine .drew ?_) | ((with_reducible refine .setCell ?_ ?_ _); rotate_left; focus (first | (left; simp; done) | (right; simp; (first | done | omega)))) | with_reducible (first | assumption | exact .refl _ _ | refine .trans0 ?_ ‹_›))))
      refine wp_region_U (fun w' => w'.cell? ⟨w.heap.size, 0, none⟩ = some (.int .i64 k) ∧ w'.cell? ⟨w.heap.size, 1, none⟩ = some (.int .i64 n) ∧ w'.cell? ⟨w.heap.size, 2, none⟩ = some (.string s) ∧ w'.cell? ⟨w.heap.size, 3, none⟩ = some (.slice A ts.length cap) ∧ (Instr.lookup 121 (.map (some mb)) (.int .i64 n) false).run Try.prog w' = .ok (.int .i64 p) w') (fun i => Nat.blt i 9) (by kernel_rfl) ?rgnS1 (fun hHeld => ?rgnB1)
      case rgnS1 => (first | (dsimp only; go_keep) | go_keep)
      case' rgnB1 => skip
      refine Pend.start [0, 1, 2, 3, 4, 5, 6, 7] ?_
      iterate 8 (refine tk (v := ?_) rfl (by kernel_rfl) (by rfl) (fun _ _ _ h => h) (by assumption) ?_ ?_; rotate_left; (focus (intro wq hSw; (try dsimp only at hSw); go_simp; (first | done | with_reducible rfl))); try simp only [Act.put, List.setIfInBounds_toArray, List.set_cons_zero, List.set_cons_succ])
      refine Pend.done ?_
      refine one 8 (by kernel_rfl) rfl (fun K' hK => ?_)
      (go_simp; refine (HK.out _ _ _ _ (hvW.keep (by repeat (first | with_reducible (first | refine .alloc ?_ _ | refine .drewN ?_ _ | refine .drew ?_) | ((with_reducible refine .setCell ?_ ?_ _); rotate_left; focus (first | (left; simp; done) | (right; simp; (first | done | omega)))) | with_reducible (first | assumption | exact .refl _ _ | refine .trans0 ?_ ‹_›)))) (fun b hb => by have := hF2 b hb; simpa using this) (hMW.keep (by repeat (first | with_reducible (first | refine .alloc ?_ _ | refine .drewN ?_ _ | refine .drew ?_) | ((with_reducible refine .setCell ?_ ?_ _); rotate_left; focus (first | (left; simp; done) | (right; simp; (first | done | omega)))) | with_reducible (first | assumption | exact .refl _ _ | refine .trans0 ?_ ‹_›))))).mono ?_; rintro e w2 ⟨⟨A2, cap2, rfl, hle, hcp, hk2⟩, F2⟩; have hlk2 := HPL.out w2 ((hMW.keep ((by repeat (first | with_reducible (first | refine .alloc ?_ _ | refine .drewN ?_ _ | refine .drew ?_) | ((with_reducible refine .setCell ?_ ?_ _); rotate_left; focus (first | (left; simp; done) | (right; simp; (first | done | omega)))) | with_reducible (first | assumption | exact .refl _ _ | refine .trans0 ?_ ‹_›))) : Frm [] W W.drew)).keep F2); obtain ⟨y0, y1, y2, y3, y4, y5⟩ := blk4 ((F2.at0 ((Frm.refl [] W).drew.at0 hb0))); have hb2 := F2.at0 ((Frm.refl [] W).drew.at0 hb1); obtain ⟨z0, z1, z2, z3, z4, z5⟩ := blk4 hb2; dsimp only)
      refine hK.out _ _ (fun _ => ?rgnS2) (fun hH => ?rgnB2)
      case rgnS2 => (first | (dsimp only; go_keep) | go_keep)
      case' rgnB2 => ((try clear hHeld); have hHeld := hH (by decide); clear hH)
      clear hK K'
      try simp only [Act.put, List.setIfInBounds_toArray, List.set_cons_zero, List.set_cons_succ]
      refine Pend.start [9] ?_
      (refine tkl (v := ?_) rfl (by kernel_rfl) (by rfl) (fun _ _ _ h => h) ?_ ?_; rotate_left; (focus (intro wq hSw; go_simp; (first | done | with_reducible rfl))); try simp only [Act.put, List.setIfInBounds_toArray, List.set_cons_zero, List.set_cons_succ])
      refine Pend.done ?_
      refine one 10 (by kernel_rfl) rfl (fun K' hK => ?_)
      go_simp
      refine hK.out _ _ (fun h => absurd h (by decide)) (fun _ => ?_)
      clear hK K'
      try simp only [Act.put, List.setIfInBounds_toArray, List.set_cons_zero, List.set_cons_succ]
      refine wpAnyU_done (by kernel_rfl) ?_ _
      have hb3 := box_store4 hb2 (.int .i64 1) (.int .i64 p) (.string s) (.slice A2 ts.length cap2)
      have F3 : Frm [w.heap.size + 1] w2 ((((w2.setCell ⟨w.heap.size + 1, 0, none⟩ (.int .i64 1)).setCell ⟨w.heap.size + 1, 1, none⟩ (.int .i64 p)).setCell ⟨w.heap.size + 1, 2, none⟩ (.string s)).setCell ⟨w.heap.size + 1, 3, none⟩ (.slice A2 ts.length cap2)) := (by repeat (first | with_reducible (first | refine .alloc ?_ _ | refine .drewN ?_ _ | refine .drew ?_) | ((with_reducible refine .setCell ?_ ?_ _); rotate_left; focus (first | (left; simp; done) | (right; simp; (first | done | omega)))) | with_reducible (first | assumption | exact .refl _ _ | refine .trans0 ?_ ‹_›)))
      generalize World.setCell _ _ _ = W3 at *
      have F03 : Frm [] w W3 := ((FW.drew).trans0 F2).trans F3 (fun b hb => by rw [List.mem_singleton.1 hb]; exact .inr (by omega))
      obtain ⟨r0, r1, r2, r3, r4, r5⟩ := blk4 hb3
      go_wp2
      refine bodyPost_ret (v := .agg #[.int .i64 1, .int .i64 p, .string s, .slice A2 ts.length cap2]) (by simp [results, Try.results83, go_sem, r0, r1, r2, r3]) rfl ?_
      rw [hE2.out]
      have hlm : (ts.map (Term.renum vs)).length = ts.length := by simp
      refine ⟨⟨_, rfl, ?_⟩, F03⟩
      have hT := TermV.mk' (F := w.heap.size :: (w.heap.size + 1) :: F) (k := 1) (n := p) (s := s) (cap := cap2) (by unfold I64; omega) HP hs1 (by rw [hlm]; exact hl1) (by rw [hlm]; exact hle) hcp ((hk2.frm F3 (by simp)))
      rw [hlm] at hT
      exact hT.away (fun b hb => .inl (by simp [hb]))
    · have hE2 : Hid (Term.renum vs (.mk k n s ts) = .mk k n s (ts.map (Term.renum vs))) := by show _ = _; rw [hE.out, if_neg h1]
      have hk' : (k == 1) = false := by simpa using h1
      clear h1 hE
      go_enter Try.func83, Try.ntmps83
      go_wp2_with (go_at_call 95; refine (HK.out (w.heap.size :: (w.heap.size + 1) :: F) _ _ _ ((hv.away (F' := w.heap.size :: (w.heap.size + 1) :: F) (new_two (Nat.le_refl _) (by omega))).keep (by repeat (first | with_reducible (first | refine .alloc ?_ _ | refine .drewN ?_ _ | refine .drew ?_) | ((with_reducible refine .setCell ?_ ?_ _); rotate_left; focus (first | (left; simp; done) | (right; simp; (first | done | omega)))) | with_reducible (first | assumption | exact .refl _ _ | refine .trans0 ?_ ‹_›)))) (lt_two hF (by simp; omega) (by simp) (by simp; omega)) (hM.keep (by repeat (first | with_reducible (first | refine .alloc ?_ _ | refine .drewN ?_ _ | refine .drew ?_) | ((with_reducible refine .setCell ?_ ?_ _); rotate_left; focus (first | (left; simp; done) | (right; simp; (first | done | omega)))) | with_reducible (first | assumption | exact .refl _ _ | refine .trans0 ?_ ‹_›))))).mono ?_; rintro e w2 ⟨⟨A2, cap2, rfl, hle, hcp, hk2⟩, F2⟩; have hb0 := F2.at0 (b := w.heap.size) (o := .cells #[.int .i64 k, .int .i64 n, .string s, .slice A ts.length cap] 26 (0, 0)) (by repeat (first | rw [heap_alloc_at] | rw [heap_size_alloc] | rfl | rw [if_pos (by omega)] | rw [if_neg (by omega)])); have hb1 := F2.at0 (b := w.heap.size + 1) (o := .cells #[.int .i64 0, .int .i64 0, .string ⟨#[]⟩, .slice none 0 0] 26 (0, 0)) (by repeat (first | rw [heap_alloc_at] | rw [heap_size_alloc] | rfl | rw [if_pos (by omega)] | rw [if_neg (by omega)])); have F02 : Frm [] w w2 := Frm.trans0 (by repeat (first | with_reducible (first | refine .alloc ?_ _ | refine .drewN ?_ _ | refine .drew ?_) | ((with_reducible refine .setCell ?_ ?_ _); rotate_left; focus (first | (left; simp; done) | (right; simp; (first | done | omega)))) | with_reducible (first | assumption | exact .refl _ _ | refine .trans0 ?_ ‹_›))) F2; obtain ⟨x0, x1, x2, x3, x4, x5⟩ := blk4 hb0; obtain ⟨y0, y1, y2, y3, y4, y5⟩ := blk4 hb1)
      refine bodyPost_ret (v := .agg #[.int .i64 k, .int .i64 n, .string s, .slice A2 ts.length cap2]) (by simp [results, Try.results83, go_sem, y0, y1, y2, y3]) rfl ?_
      rw [hE2.out]
      have hlm : (ts.map (Term.renum vs)).length = ts.length := by simp
      refine ⟨⟨_, rfl, ?_⟩, (by repeat (first | with_reducible (first | refine .alloc ?_ _ | refine .drewN ?_ _ | refine .drew ?_) | ((with_reducible refine .setCell ?_ ?_ _); rotate_left; focus (first | (left; simp; done) | (right; simp; (first | done | omega)))) | with_reducible (first | assumption | exact .refl _ _ | refine .trans0 ?_ ‹_›)))⟩
      refine TermV.away (F := w.heap.size :: (w.heap.size + 1) :: F) ?_ (fun b hb => .inl (by simp [hb]))
      have hT := TermV.mk' (F := w.heap.size :: (w.heap.size + 1) :: F) (k := k) (n := n) (s := s) (cap := cap2) hk1 hn1 hs1 (by rw [hlm]; exact hl1) (by rw [hlm]; exact hle) hcp hk2
      rw [hlm] at hT
      exact hT.frm (G := [w.heap.size, w.heap.size + 1]) (by repeat (first | with_reducible (first | refine .alloc ?_ _ | refine .drewN ?_ _ | refine .drew ?_) | ((with_reducible refine .setCell ?_ ?_ _); rotate_left; focus (first | (left; simp; done) | (right; simp; (first | done | omega)))) | with_reducible (first | assumption | exact .refl _ _ | refine .trans0 ?_ ‹_›))) (by simp)
end Go.Proofs.Ytkiofaojokofbaa
namespace Go.Proofs.Ytkiofaojokofbaa
open Go.RowKit Go.Maps

/-- A full term has at most a thousand parts. -/
theorem fillTs_bad {s : PStore} {d : Nat} {deep : Int} : ∀ (ts : List Term) (l e : Int), e ≠ 0 → (PStore.fillTs (s.fillT (d + 1) deep) l e ts).2.2 = e
  | [], _, _, _ => rfl
  | t :: ts, l, e, h => by
    rw [fillTs_step, PStore.fillT_bad h]
    exact fillTs_bad ts _ e h
theorem fillT_size {s : PStore} : ∀ (d : Nat) (deep l : Int) (t : Term), 62 ≤ d + deep → deep ≤ 61 → 0 ≤ l → l ≤ 1000 → (s.fillT d deep l 0 t).2.2 = 0 →
    ((s.fillT d deep l 0 t).1.size : Int) + (s.fillT d deep l 0 t).2.1 = l ∧ 0 ≤ (s.fillT d deep l 0 t).2.1
  | 0, deep, l, t, h1, h2, _, _, _ => by omega
  | d + 1, deep, l, t, h1, h2, hl0, hl1, he => by
    have hw : wrap64 (l - 1) = l - 1 := by unfold wrap64; omega
    by_cases hd : 60 < deep
    · rw [PStore.fillT_deep hd] at he; cases he
    by_cases hl : l - 1 < 0
    · rw [PStore.fillT_full hd (by rw [hw]; exact hl)] at he; cases he
    rw [PStore.fillT_ok hd (by rw [hw]; exact hl), hw] at he ⊢
    dsimp only at he ⊢
    have key : ∀ (ts : List Term) (m : Int), 0 ≤ m → m ≤ 1000 → (PStore.fillTs (s.fillT d (deep + 1)) m 0 ts).2.2 = 0 →
        ((Term.sizes (PStore.fillTs (s.fillT d (deep + 1)) m 0 ts).1 : Nat) : Int) + (PStore.fillTs (s.fillT d (deep + 1)) m 0 ts).2.1 = m ∧ 0 ≤ (PStore.fillTs (s.fillT d (deep + 1)) m 0 ts).2.1 := by
      intro ts
      induction ts with
      | nil => intro m h0 _ _; exact ⟨by simp [PStore.fillTs, Term.sizes], h0⟩
      | cons t ts ih =>
        intro m h0 hm h
        rw [fillTs_step] at h ⊢
        dsimp only at h ⊢
        have he1 : (s.fillT d (deep + 1) m 0 t).2.2 = 0 := by
          by_cases hx : (s.fillT d (deep + 1) m 0 t).2.2 = 0
          · exact hx
          · obtain ⟨d, rfl⟩ : ∃ k, d = k + 1 := ⟨d - 1, by omega⟩
            rw [fillTs_bad _ _ _ hx] at h
            exact h
        obtain ⟨g1, g2⟩ := fillT_size d (deep + 1) m t (by omega) (by omega) h0 hm he1
        rw [he1] at h ⊢
        obtain ⟨g3, g4⟩ := ih _ g2 (by omega) h
        refine ⟨?_, g4⟩
        simp only [Term.sizes]
        omega
    obtain ⟨g1, g2⟩ := key _ _ (by omega) (by omega) he
    refine ⟨?_, g2⟩
    simp only [Term.size]
    omega
theorem full_size {s : PStore} {t : Term} (h : (s.full t).2 = 0) : (s.full t).1.size ≤ 1000 := by
  unfold PStore.full at h ⊢
  by_cases h0 : (s.fillT 61 1 1000 0 t).2.2 = 0
  · rw [if_pos h0]
    obtain ⟨g1, g2⟩ := fillT_size (s := s) 61 1 1000 t (by omega) (by omega) (by omega) (by omega) h0
    dsimp only
    omega
  · rw [if_neg h0] at h; exact absurd h h0
theorem foldl_addVar_nodup : ∀ (ps : List Term) (l : List Int), l.Nodup → (ps.foldl Term.addVar l).Nodup
  | [], _, h => h
  | p :: ps, l, h => by
    refine foldl_addVar_nodup ps _ ?_
    unfold Term.addVar
    split
    · rename_i hc
      simp only [Bool.and_eq_true, Bool.not_eq_true', List.contains_eq_mem, decide_eq_false_iff_not] at hc
      rw [List.nodup_append]
      exact ⟨h, by simp, fun x hx y hy => by rw [List.mem_singleton.1 hy]; exact fun e => hc.2 (e ▸ hx)⟩
    · exact h
theorem vars_nodup (t : Term) : t.vars.Nodup := foldl_addVar_nodup _ _ (by simp)
theorem vars_length (t : Term) : t.vars.length ≤ t.size := by
  rw [← Term.length_partss_and]
  unfold Term.vars
  have : ∀ (ps : List Term) (l : List Int), (ps.foldl Term.addVar l).length ≤ l.length + ps.length := by
    intro ps
    induction ps with
    | nil => intro l; simp
    | cons p ps ih =>
      intro l
      have h1 := ih (Term.addVar l p)
      have h2 := addVar_length l p
      simp only [List.foldl_cons, List.length_cons]; omega
  simpa using this t.parts []
theorem vars_i64 {F : List Nat} {w : World} : ∀ (t : Term) (v : Value), TermV F w t v → ∀ p ∈ t.parts, I64 p.n := by
  intro t
  induction t using Term.induct with
  | h k n s ts ih =>
    intro v h p hp
    simp only [Term.parts, List.mem_cons] at hp
    have h' := h
    simp only [TermV] at h'
    obtain ⟨A, cap, rfl, h1, h2, h3, h4, h5, h6, h7⟩ := h'
    rcases hp with rfl | hp
    · exact h2
    · rw [Term.partss_eq, List.mem_flatMap] at hp
      obtain ⟨x, hx, hp⟩ := hp
      obtain ⟨j, hj, rfl⟩ := List.mem_iff_getElem.1 hx
      obtain ⟨_, _, _, _, _, _, _, _, _, _, _, hkid⟩ := h7.kid j hj
      exact ih _ hx _ hkid p hp
theorem vars_mem {t : Term} {n : Int} (h : n ∈ t.vars) : ∃ p ∈ t.parts, p.kind = 1 ∧ p.n = n := by
  have : ∀ (ps : List Term) (l : List Int), n ∈ ps.foldl Term.addVar l → n ∈ l ∨ ∃ p ∈ ps, p.kind = 1 ∧ p.n = n := by
    intro ps
    induction ps with
    | nil => intro l h; exact .inl h
    | cons p ps ih =>
      intro l h
      rcases ih _ h with h | ⟨q, h1, h2⟩
      · unfold Term.addVar at h
        split at h
        · rename_i hc
          rcases List.mem_append.1 h with h | h
          · exact .inl h
          · simp only [Bool.and_eq_true, beq_iff_eq] at hc
            exact .inr ⟨p, by simp, hc.1, (List.mem_singleton.1 h).symm⟩
        · exact .inl h
      · exact .inr ⟨q, by simp [h1], h2⟩
  rcases this _ _ h with h | h
  · cases h
  · exact h
theorem placeOf_get {vs : List Int} (h : vs.Nodup) {j : Nat} (hj : j < vs.length) : placeOf vs vs[j] = j := by
  rw [placeOf, if_pos (List.getElem_mem hj)]
  congr 1
  exact List.Nodup.idxOf_getElem h _ hj

/-- The first of the places. -/
def placesTo (vs : List Int) (j : Nat) : List (Value × Value) := (vs.take j).map fun v => (.int .i64 v, .int .i64 (placeOf vs v))
theorem place_put {w : World} {mb : Nat} {vs : List Int} {j : Nat} (h : MapAt Try.prog 3 w mb (placesTo vs j)) (hn : vs.Nodup) (hj : j < vs.length) (hi : I64 vs[j]) :
    ∃ w', (Instr.mapUpdate 121 (.map (some mb)) (.int .i64 vs[j]) (.int .i64 j)).run Try.prog w = .ok () w' ∧ MapAt Try.prog 3 w' mb (placesTo vs (j + 1)) ∧ Frm [mb] w w' ∧ w'.heap.size = w.heap.size := by
  obtain ⟨w', h1, h2, h3, h4⟩ := h.put int_keyed' Try.underlying121 (key := .int .i64 vs[j]) (val := .int .i64 j) (int_key' hi) (fun x hx e => by
    obtain ⟨y, hy, rfl⟩ := List.mem_map.1 hx
    simp only [Value.int.injEq, true_and] at e
    subst e
    obtain ⟨i, hi, he⟩ := List.mem_take_iff_getElem.1 hy
    have h1 := placeOf_get hn (j := i) (by omega)
    rw [he, placeOf_get hn hj] at h1
    omega)
  refine ⟨w', h1, ?_, h3, h4⟩
  have : placesTo vs (j + 1) = placesTo vs j ++ [(.int .i64 vs[j], .int .i64 j)] := by
    unfold placesTo
    rw [take_succ_get hj, List.map_append, List.map_singleton, placeOf_get hn hj]
  rw [this]; exact h2
theorem placesTo_all (vs : List Int) : placesTo vs vs.length = placesE vs := by unfold placesTo placesE; rw [List.take_length]
theorem MapAt.len {P : Program} {k : TypeId} {w : World} {b : Nat} {l : List (Value × Value)} (h : MapAt P k w b l) {t e : TypeId} (ht : P.underlying t = some (.map k e)) (ty : TypeId) : (Builtin.len_ #[t] ty #[.map (some b)]).run P w = .ok (.int .i64 l.length) w := by
  obtain ⟨es, c, h1, rfl, _⟩ := h
  simp [Builtin.len_, run_underlying ht, MapKept.run_getObj_map h1, goInt, Result.andThen]

/-- A row of whole numbers. -/
def IntsAt (w : World) (A : Option Addr) (zs : List Int) : Prop := ∀ j z, zs[j]? = some z → ∃ b off, A = some ⟨b, off, none⟩ ∧ b < w.heap.size ∧ w.cell? ⟨b, off + j, none⟩ = some (.int .i64 z)
theorem IntsAt.keep {w w' : World} {A : Option Addr} {zs : List Int} (h : IntsAt w A zs) (f : Frm [] w w') : IntsAt w' A zs := fun j z hj => by
  obtain ⟨b, off, rfl, hb, hc⟩ := h j z hj
  exact ⟨b, off, rfl, Nat.lt_of_lt_of_le hb f.size, (f.cell hb (by simp)).trans hc⟩
theorem ints_row {w : World} {base : Nat} {v : Value} {zs : List Int} (h : w.ownsRow base 3 1 v zs.length (zs.map (Value.int .i64))) : ∃ A cap, v = .slice A zs.length cap ∧ IntsAt w A zs ∧ (∀ b, b ∈ v.ownBlock.toList → base ≤ b ∧ b < w.heap.size) := by
  have hlt := h.lt
  obtain ⟨hl, h⟩ := h
  rcases h with ⟨rfl, hz⟩ | ⟨g, cap, cur, rfl, hg, hh, hcap, hm, hsz, htake⟩
  · have : zs = [] := List.length_eq_zero_iff.1 hz
    subst this
    exact ⟨none, 0, rfl, fun j z hj => by simp at hj, fun b hb => by simp [Value.ownBlock] at hb⟩
  · refine ⟨_, cap, rfl, fun j z hj => ⟨g, 0, rfl, (Array.getElem?_eq_some_iff.1 hh).1, ?_⟩, fun b hb => hlt b (by simpa using hb)⟩
    have hjl := (List.getElem?_eq_some_iff.1 hj).1
    rw [Nat.zero_add]
    have h1 : (zs.map (Value.int .i64))[j]? = some (.int .i64 z) := by rw [List.getElem?_map, hj]; rfl
    rw [← htake, List.getElem?_take_of_lt (by omega)] at h1
    rw [show w.cell? ⟨g, j, none⟩ = cur[j]? by simp [World.cell?, hh]]
    simpa using h1

set_option maxRecDepth 100000 in
set_option maxHeartbeats 2000000 in
theorem copyt_Norm (F : List Nat) (t : Term) (v : Value) (w : World) (hv : TermV F w t v) (hF : ∀ b, b ∈ F → b < w.heap.size) (hs : t.size ≤ 1048576) :
    Calls Try.prog 70 #[v] w fun e w' => (∃ v', e = .returned (.tuple #[v', .int .i64 t.vars.length]) ∧ TermV F w' (t.renum t.vars) v') ∧ Frm [] w w' := by
  have hvl := vars_length t
  have hnd := vars_nodup t
  have hvi : ∀ j (h : j < t.vars.length), I64 t.vars[j] := fun j h => by
    obtain ⟨p, hp, _, hn⟩ := vars_mem (List.getElem_mem h)
    rw [← hn]; exact vars_i64 t v hv p hp
  have HV := Lib.hid (fun F w h => term_Vars F t v w h hs)
  have HP := Lib.hid (fun (mb : Nat) (F : List Nat) w => copyt_put t.vars mb (by omega) t F v w)
  obtain ⟨A, cap, rfl⟩ := hv.form
  generalize hvs : t.vars = vs at *
  clear hvs
  have HPUT := Lib.hid (fun w mb j (h : MapAt Try.prog 3 w mb (placesTo vs j)) (hj : j < vs.length) => place_put h hnd hj (hvi j hj))
  clear hvi hnd
  have hmm := @run_makeMap Try.prog
  go_enter Try.func70, Try.ntmps70
  go_wp2_with (go_at_call 82; refine (HV.out (w.heap.size :: (w.heap.size + 1) :: F) _ ((hv.away (F' := w.heap.size :: (w.heap.size + 1) :: F) (new_two (Nat.le_refl _) (by omega))).keep (by repeat (first | with_reducible (first | refine .alloc ?_ _ | refine .drewN ?_ _ | refine .drew ?_) | ((with_reducible refine .setCell ?_ ?_ _); rotate_left; focus (first | (left; simp; done) | (right; simp; (first | done | omega)))) | with_reducible (first | assumption | exact .refl _ _ | refine .trans0 ?_ ‹_›))))).mono ?_; rintro e w2 ⟨⟨r, rfl, hrow⟩, F2⟩; have hb0 := F2.at0 (b := w.heap.size) (o := .cells #[.int .i64 t.kind, .int .i64 t.n, .string t.s, .slice A t.kids.length cap] 26 (0, 0)) (by repeat (first | rw [heap_alloc_at] | rw [heap_size_alloc] | rfl | rw [if_pos (by omega)] | rw [if_neg (by omega)])); have hb1 := F2.at0 (b := w.heap.size + 1) (o := .cells #[.int .i64 0, .int .i64 0, .string ⟨#[]⟩, .slice none 0 0] 26 (0, 0)) (by repeat (first | rw [heap_alloc_at] | rw [heap_size_alloc] | rfl | rw [if_pos (by omega)] | rw [if_neg (by omega)])); have hmp := F2.at0 (b := w.heap.size + 1 + 1) (o := .map #[] 0) (by repeat (first | rw [heap_alloc_at] | rw [heap_size_alloc] | rfl | rw [if_pos (by omega)] | rw [if_neg (by omega)])); have F02 : Frm [] w w2 := Frm.trans0 (by repeat (first | with_reducible (first | refine .alloc ?_ _ | refine .drewN ?_ _ | refine .drew ?_) | ((with_reducible refine .setCell ?_ ?_ _); rotate_left; focus (first | (left; simp; done) | (right; simp; (first | done | omega)))) | with_reducible (first | assumption | exact .refl _ _ | refine .trans0 ?_ ‹_›))) F2; have hsz2 := F2.size; simp at hsz2; obtain ⟨Ar, capr, rfl, hints, -⟩ := ints_row hrow; clear hrow)
  go_loopw [11] (fun i wr => ∃ j : Nat, j ≤ vs.length ∧ i = .int .i64 j ∧ Frm [w.heap.size + 1 + 1] w2 wr ∧ MapAt Try.prog 3 wr (w.heap.size + 1 + 1) (placesTo vs j)) (fun i _ => vs.length - (intOf i).toNat)
  case atStart => exact ⟨0, Nat.zero_le _, rfl, Frm.refl _ _, ⟨#[], 0, hmp, rfl, fun _ h => by cases h⟩⟩
  case round =>
    obtain ⟨j, hj, rfl, FR, hM⟩ := hrel
    by_cases hlt : j < vs.length
    · obtain ⟨b, off, rfl, hb, hc⟩ := hints j vs[j] (List.getElem?_eq_getElem hlt)
      have hbne : b ≠ w.heap.size + 1 + 1 := fun e => by
        subst e
        simp [World.cell?, hmp] at hc
      have hc2 := (FR.cell (o := off + j) (s := none) hb (by simpa using hbne)).trans hc
      obtain ⟨w', hrun, hM', Fp, hsp⟩ := HPUT.out wr _ j hM hlt
      generalize vs[j] = z at *
      go_wp2
      go_roundw
      case rel => exact ⟨j + 1, by omega, by go_num, FR.trans' Fp, hM'⟩
      case measure => simp [intOf]; omega
    · have : j = vs.length := by omega
      subst this
      rw [placesTo_all] at hM
      have hb0r := FR.at_ hb0 (by simp; omega)
      have hb1r := FR.at_ hb1 (by simp)
      have hvR : TermV (w.heap.size :: (w.heap.size + 1) :: (w.heap.size + 1 + 1) :: F) wr t (.agg #[.int .i64 t.kind, .int .i64 t.n, .string t.s, .slice A t.kids.length cap]) :=
        (((hv.away (F' := w.heap.size :: (w.heap.size + 1) :: (w.heap.size + 1 + 1) :: F) (fun b hb => by simp only [List.mem_cons] at hb; rcases hb with rfl | rfl | rfl | hb; exact .inr (by omega); exact .inr (by omega); exact .inr (by omega); exact .inl hb)).keep F02).frm FR (by simp))
      have hFr : ∀ b, b ∈ w.heap.size :: (w.heap.size + 1) :: (w.heap.size + 1 + 1) :: F → b < wr.heap.size := fun b hb => by
        have := FR.size
        simp only [List.mem_cons] at hb
        rcases hb with rfl | rfl | rfl | hb
        · omega
        · omega
        · omega
        · have := hF b hb; omega
      have hPE : Hid ((placesE vs).length = vs.length) := by show _ = _; simp [placesE]
      obtain ⟨x0, x1, x2, x3, x4, x5⟩ := blk4 hb0r
      go_wp2_with (go_at_call 83; refine (HP.out (w.heap.size + 1 + 1) (w.heap.size :: (w.heap.size + 1) :: (w.heap.size + 1 + 1) :: F) _ (hvR.keep (by repeat (first | with_reducible (first | refine .alloc ?_ _ | refine .drewN ?_ _ | refine .drew ?_) | ((with_reducible refine .setCell ?_ ?_ _); rotate_left; focus (first | (left; simp; done) | (right; simp; (first | done | omega)))) | with_reducible (first | assumption | exact .refl _ _ | refine .trans0 ?_ ‹_›)))) (fun b hb => hFr b hb) (hM.keep (by repeat (first | with_reducible (first | refine .alloc ?_ _ | refine .drewN ?_ _ | refine .drew ?_) | ((with_reducible refine .setCell ?_ ?_ _); rotate_left; focus (first | (left; simp; done) | (right; simp; (first | done | omega)))) | with_reducible (first | assumption | exact .refl _ _ | refine .trans0 ?_ ‹_›))))).mono ?_; rintro e w3 ⟨⟨v3, rfl, hv3⟩, F3⟩; obtain ⟨A3, cap3, rfl⟩ := hv3.form; have hlen3 := (hM.keep (Frm.trans0 ((by repeat (first | with_reducible (first | refine .alloc ?_ _ | refine .drewN ?_ _ | refine .drew ?_) | ((with_reducible refine .setCell ?_ ?_ _); rotate_left; focus (first | (left; simp; done) | (right; simp; (first | done | omega)))) | with_reducible (first | assumption | exact .refl _ _ | refine .trans0 ?_ ‹_›))) : Frm [] wr _) F3)).len Try.underlying121 3; rw [hPE.out] at hlen3; obtain ⟨y0, y1, y2, y3, y4, y5⟩ := blk4 (F3.at0 hb0r); have hbr := F3.at0 hb1r; obtain ⟨z0, z1, z2, z3, z4, z5⟩ := blk4 hbr)
      have hb4 := box_store4 hbr (.int .i64 (t.renum vs).kind) (.int .i64 (t.renum vs).n) (.string (t.renum vs).s) (.slice A3 (t.renum vs).kids.length cap3)
      have F4 : Frm [w.heap.size + 1] w3 ((((w3.setCell ⟨w.heap.size + 1, 0, none⟩ (.int .i64 (t.renum vs).kind)).setCell ⟨w.heap.size + 1, 1, none⟩ (.int .i64 (t.renum vs).n)).setCell ⟨w.heap.size + 1, 2, none⟩ (.string (t.renum vs).s)).setCell ⟨w.heap.size + 1, 3, none⟩ (.slice A3 (t.renum vs).kids.length cap3)) := (by repeat (first | with_reducible (first | refine .alloc ?_ _ | refine .drewN ?_ _ | refine .drew ?_) | ((with_reducible refine .setCell ?_ ?_ _); rotate_left; focus (first | (left; simp; done) | (right; simp; (first | done | omega)))) | with_reducible (first | assumption | exact .refl _ _ | refine .trans0 ?_ ‹_›)))
      generalize World.setCell _ _ _ = W4 at *
      obtain ⟨q0, q1, q2, q3, q4, q5⟩ := blk4 hb4
      refine bodyPost_ret (v := .tuple #[.agg #[.int .i64 (t.renum vs).kind, .int .i64 (t.renum vs).n, .string (t.renum vs).s, .slice A3 (t.renum vs).kids.length cap3], .int .i64 vs.length]) (by simp [results, Try.results70, go_sem, q0, q1, q2, q3]) rfl ?_
      refine ⟨⟨_, rfl, ?_⟩, ?_⟩
      · exact (hv3.frm F4 (by simp)).away (fun b hb => .inl (by simp [hb]))
      · refine ((F02.trans FR ?_).trans0 F3).trans F4 ?_
        · intro b hb; rw [List.mem_singleton.1 hb]; exact .inr (by omega)
        · intro b hb; rw [List.mem_singleton.1 hb]; exact .inr (by omega)

end Go.Proofs.Ytkiofaojokofbaa
namespace Go.Proofs.Ytkiofaojokofbaa
open Go.RowKit

/-- A store that was changed, and a term that lies away from its memory. -/
def StoreToT (G F : List Nat) (w w' : World) (sb : Nat) (st : PStore) (t : Term) (v : Value) : Prop :=
  ∃ G' F', StoreAt G' F' w' sb st ∧ Frm G w w' ∧ (∀ b, b ∈ F → b ∈ F') ∧ (∀ b, b ∈ F' → b ∈ F ∨ w.heap.size ≤ b) ∧ (∀ b, b ∈ G' → b ∈ G ∨ w.heap.size ≤ b) ∧ TermV F' w' t v
theorem StoreToT.to {G F : List Nat} {w w' : World} {sb : Nat} {st : PStore} {t : Term} {v : Value} (h : StoreToT G F w w' sb st t v) : StoreTo G F w w' sb st := by
  obtain ⟨G', F', h1, h2, h3, h4, h5, _⟩ := h; exact ⟨G', F', h1, h2, h3, h4, h5⟩
theorem StoreToT.quiet {G F : List Nat} {w w' : World} {sb : Nat} {st : PStore} {t : Term} {v : Value} (hs : StoreAt G F w sb st) (f : Frm [] w w') (ht : TermV F w' t v) : StoreToT G F w w' sb st t v :=
  ⟨G, F, hs.keep f, f.mono (by simp), fun _ h => h, fun _ h => .inl h, fun _ h => .inl h, ht⟩

set_option maxRecDepth 100000 in
theorem store_fresh_full (G F : List Nat) (sb : Nat) (st : PStore) (n : Nat) (w : World) (hs : StoreAt G F w sb st) (hn : ¬ st.cells.length + n ≤ 4096) :
    Calls Try.prog 11 #[.pointer (some ⟨sb, 0, none⟩), .int .i64 n] w fun e w' => e = .returned (.tuple #[.int .i64 0, .int .i64 3]) ∧ w = w' := by
  have hm := hs.ok.many
  obtain ⟨cv, tv, xs, h1, h2, h3, h4, h5, h6, h7, h8⟩ := hs
  obtain ⟨A2, cap2, rfl⟩ := h2.form
  obtain ⟨s0, s1, s2, hlt⟩ := blk2 h1
  have hn1 : ¬ ((n : Int) < 0) := by omega
  have hn2 : (4096 : Int) - (st.cells.length : Int) < (n : Int) := by omega
  go_enter Try.func11, Try.ntmps11
  go_wp2
  go_ret2
  exact ⟨rfl, rfl⟩

def PStore.freshT (st : PStore) (t : Term) (n : Nat) : Term × Int × PStore :=
  if st.cells.length + n ≤ 4096 then (t.shift st.cells.length, 0, st.fresh n) else (.zero, 3, st)

set_option maxRecDepth 100000 in
set_option maxHeartbeats 1000000 in
theorem copyt_Fresh (G F : List Nat) (sb : Nat) (st : PStore) (t : Term) (v : Value) (n : Nat) (w : World) (hs : StoreAt G F w sb st) (ht : TermV F w t v) :
    Calls Try.prog 71 #[.pointer (some ⟨sb, 0, none⟩), v, .int .i64 n] w fun e w' => ∃ v', e = .returned (.tuple #[v', .int .i64 (st.freshT t n).2.1]) ∧ StoreToT G F w w' sb (st.freshT t n).2.2 (st.freshT t n).1 v' := by
  have hF := hs.lt
  have hGF := hs.sub
  have HG : ∀ b, b ∈ G → b < w.heap.size := fun b hb => hF b (hGF b hb)
  obtain ⟨A, cap, rfl⟩ := ht.form
  by_cases hn : st.cells.length + n ≤ 4096
  · have HT : Hid (st.freshT t n = (t.shift st.cells.length, 0, st.fresh n)) := by show _ = _; rw [PStore.freshT, if_pos hn]
    rw [HT.out]
    have HF := Lib.hid (fun F1 w1 h => store_fresh G F1 sb st n w1 h hn)
    have HSH := Lib.hid (term_Shift st.cells.length t)
    have hB := Lib.hid hn
    clear hn HT
    go_enter Try.func71, Try.ntmps71
    go_wp2_with (first
      | (go_at_call 11; refine (HF.out ((w.heap.size) :: (w.heap.size + 1) :: F) _ (hs.more (F' := w.heap.size :: (w.heap.size + 1) :: F) (H := []) (by repeat (first | with_reducible (first | refine .alloc ?_ _ | refine .drewN ?_ _ | refine .drew ?_) | ((with_reducible refine .setCell ?_ ?_ _); rotate_left; focus (first | (left; simp; done) | (right; simp; (first | done | omega)))) | with_reducible (first | assumption | exact .refl _ _ | refine .trans0 ?_ ‹_›))) (by simp) (by simp) (new_two (Nat.le_refl _) (by omega)) (fun b hb => by simp [hb]) (lt_two hF (by simp; omega) (by simp) (by simp; omega)))).mono ?_; rintro e w2 ⟨rfl, TO⟩; obtain ⟨G2, F2', hs2, F2, k3, k4, k5⟩ := TO; simp only [heap_size_alloc] at k4 k5; have hb0 := F2.at_ (b := w.heap.size) (o := .cells #[.int .i64 t.kind, .int .i64 t.n, .string t.s, .slice A t.kids.length cap] 26 (0, 0)) (by repeat (first | rw [heap_alloc_at] | rw [heap_size_alloc] | rfl | rw [if_pos (by omega)] | rw [if_neg (by omega)])) (fun h => by have := HG _ h; omega); have hb1 := F2.at_ (b := w.heap.size + 1) (o := .cells #[.int .i64 0, .int .i64 0, .string ⟨#[]⟩, .slice none 0 0] 26 (0, 0)) (by repeat (first | rw [heap_alloc_at] | rw [heap_size_alloc] | rfl | rw [if_pos (by omega)] | rw [if_neg (by omega)])) (fun h => by have := HG _ h; omega); obtain ⟨x0, x1, x2, x3, x4, x5⟩ := blk4 hb0; have hsz2 := F2.size; simp only [heap_size_alloc] at hsz2)
      | (go_at_call 84; refine (HSH.out F2' _ _ ((((ht.away (F' := w.heap.size :: (w.heap.size + 1) :: F) (new_two (Nat.le_refl _) (by omega))).keep (w' := (w.alloc _).alloc _) (by repeat (first | with_reducible (first | refine .alloc ?_ _ | refine .drewN ?_ _ | refine .drew ?_) | ((with_reducible refine .setCell ?_ ?_ _); rotate_left; focus (first | (left; simp; done) | (right; simp; (first | done | omega)))) | with_reducible (first | assumption | exact .refl _ _ | refine .trans0 ?_ ‹_›)))).over (fun b hb => by simp [hGF b hb]) F2 k3 (fun b hb => by simp only [heap_size_alloc]; exact k4 b hb)).keep (by repeat (first | with_reducible (first | refine .alloc ?_ _ | refine .drewN ?_ _ | refine .drew ?_) | ((with_reducible refine .setCell ?_ ?_ _); rotate_left; focus (first | (left; simp; done) | (right; simp; (first | done | omega)))) | with_reducible (first | assumption | exact .refl _ _ | refine .trans0 ?_ ‹_›)))) (fun b hb => by have := hs2.lt b hb; simpa using this)).mono ?_; rintro e w3 ⟨⟨v3, rfl, hv3⟩, F3⟩; obtain ⟨A3, cap3, rfl⟩ := hv3.form; have hb3 := F3.at0 hb1; obtain ⟨y0, y1, y2, y3, y4, y5⟩ := blk4 hb3))
    have hb4 := box_store4 hb3 (.int .i64 (t.shift st.cells.length).kind) (.int .i64 (t.shift st.cells.length).n) (.string (t.shift st.cells.length).s) (.slice A3 (t.shift st.cells.length).kids.length cap3)
    have F4 : Frm [w.heap.size + 1] w3 ((((w3.setCell ⟨w.heap.size + 1, 0, none⟩ (.int .i64 (t.shift st.cells.length).kind)).setCell ⟨w.heap.size + 1, 1, none⟩ (.int .i64 (t.shift st.cells.length).n)).setCell ⟨w.heap.size + 1, 2, none⟩ (.string (t.shift st.cells.length).s)).setCell ⟨w.heap.size + 1, 3, none⟩ (.slice A3 (t.shift st.cells.length).kids.length cap3)) := (by repeat (first | with_reducible (first | refine .alloc ?_ _ | refine .drewN ?_ _ | refine .drew ?_) | ((with_reducible refine .setCell ?_ ?_ _); rotate_left; focus (first | (left; simp; done) | (right; simp; (first | done | omega)))) | with_reducible (first | assumption | exact .refl _ _ | refine .trans0 ?_ ‹_›)))
    generalize World.setCell _ _ _ = W4 at *
    obtain ⟨q0, q1, q2, q3, q4, q5⟩ := blk4 hb4
    refine bodyPost_ret (v := .tuple #[.agg #[.int .i64 (t.shift st.cells.length).kind, .int .i64 (t.shift st.cells.length).n, .string (t.shift st.cells.length).s, .slice A3 (t.shift st.cells.length).kids.length cap3], .int .i64 0]) (by simp [results, Try.results71, go_sem, q0, q1, q2, q3]) rfl ?_
    have F3' : Frm [] w2 w3 := (by repeat (first | with_reducible (first | refine .alloc ?_ _ | refine .drewN ?_ _ | refine .drew ?_) | ((with_reducible refine .setCell ?_ ?_ _); rotate_left; focus (first | (left; simp; done) | (right; simp; (first | done | omega)))) | with_reducible (first | assumption | exact .refl _ _ | refine .trans0 ?_ ‹_›)))
    refine ⟨_, rfl, G2, F2', (hs2.keep F3').frm F4 (fun b hb hg => ?_) (fun b hb => ?_), ?_, fun b hb => k3 b (by simp [hb]), fun b hb => ?_, fun b hb => ?_, hv3.frm F4 (fun b hb => ?_)⟩
    · rw [List.mem_singleton.1 hb] at hg
      rcases k5 _ hg with h | h
      · have := HG _ h; omega
      · omega
    · rw [List.mem_singleton.1 hb]; exact k3 _ (by simp)
    · refine ((((((Frm.refl G w).alloc _).alloc _).trans' F2).trans0 F3').trans F4 ?_)
      intro b hb; rw [List.mem_singleton.1 hb]; exact .inr (by omega)
    · rcases k4 b hb with h | h
      · simp only [List.mem_cons] at h
        rcases h with rfl | rfl | h
        · exact .inr (by omega)
        · exact .inr (by omega)
        · exact .inl h
      · exact .inr (by omega)
    · rcases k5 b hb with h | h
      · exact .inl h
      · exact .inr (by omega)
    · rw [List.mem_singleton.1 hb]; exact k3 _ (by simp)
  · have HT : Hid (st.freshT t n = (.zero, 3, st)) := by show _ = _; rw [PStore.freshT, if_neg hn]
    rw [HT.out]
    have HF := Lib.hid (fun w1 h => store_fresh_full G F sb st n w1 h hn)
    clear hn HT
    go_enter Try.func71, Try.ntmps71
    go_wp2_with (go_at_call 11; refine (HF.out _ (hs.keep (by repeat (first | with_reducible (first | refine .alloc ?_ _ | refine .drewN ?_ _ | refine .drew ?_) | ((with_reducible refine .setCell ?_ ?_ _); rotate_left; focus (first | (left; simp; done) | (right; simp; (first | done | omega)))) | with_reducible (first | assumption | exact .refl _ _ | refine .trans0 ?_ ‹_›))))).mono ?_; rintro e w2 ⟨rfl, rfl⟩)
    generalize hW : World.alloc _ _ = W
    have hb1 : W.heap[w.heap.size + 1]? = some (.cells #[.int .i64 0, .int .i64 0, .string ⟨#[]⟩, .slice none 0 0] 26 (0, 0)) := by subst hW; exact (by repeat (first | rw [heap_alloc_at] | rw [heap_size_alloc] | rfl | rw [if_pos (by omega)] | rw [if_neg (by omega)]))
    have FW : Frm [] w W := by subst hW; exact (by repeat (first | with_reducible (first | refine .alloc ?_ _ | refine .drewN ?_ _ | refine .drew ?_) | ((with_reducible refine .setCell ?_ ?_ _); rotate_left; focus (first | (left; simp; done) | (right; simp; (first | done | omega)))) | with_reducible (first | assumption | exact .refl _ _ | refine .trans0 ?_ ‹_›)))
    clear hW
    obtain ⟨q0, q1, q2, q3, q4, q5⟩ := blk4 hb1
    refine bodyPost_ret (v := .tuple #[.agg #[.int .i64 0, .int .i64 0, .string ⟨#[]⟩, .slice none 0 0], .int .i64 3]) (by simp [results, Try.results71, go_sem, q0, q1, q2, q3]) rfl ?_
    exact ⟨_, rfl, StoreToT.quiet hs FW (TermV.leaf F _ (by unfold I64; omega) (by unfold I64; omega) (by decide))⟩
end Go.Proofs.Ytkiofaojokofbaa
namespace Go.Proofs.Ytkiofaojokofbaa
open Go.RowKit

def PStore.copyT (st : PStore) (t : Term) : Term × Int × PStore :=
  if (st.full t).2 = 0 then st.freshT ((st.full t).1.renum (st.full t).1.vars) (st.full t).1.vars.length else (.zero, (st.full t).2, st)

set_option maxRecDepth 100000 in
set_option maxHeartbeats 1000000 in
theorem copyt_Copy (G F : List Nat) (sb : Nat) (st : PStore) (t : Term) (v : Value) (w : World) (hs : StoreAt G F w sb st) (ht : TermV F w t v) :
    Calls Try.prog 58 #[.pointer (some ⟨sb, 0, none⟩), v] w fun e w' => ∃ v', e = .returned (.tuple #[v', .int .i64 (st.copyT t).2.1]) ∧ StoreToT G F w w' sb (st.copyT t).2.2 (st.copyT t).1 v' := by
  have hF := hs.lt
  have hGF := hs.sub
  have HG : ∀ b, b ∈ G → b < w.heap.size := fun b hb => hF b (hGF b hb)
  obtain ⟨A, cap, rfl⟩ := ht.form
  have hF2 : ∀ b, b ∈ w.heap.size :: (w.heap.size + 1) :: F → b < w.heap.size + 2 := lt_two hF (by omega) (by omega) (by omega)
  have HF := Lib.hid (fun w1 h h2 => store_full G (w.heap.size :: (w.heap.size + 1) :: F) sb st t (.agg #[.int .i64 t.kind, .int .i64 t.n, .string t.s, .slice A t.kids.length cap]) w1 h h2)
  have HT : Hid (st.copyT t = if (st.full t).2 = 0 then st.freshT ((st.full t).1.renum (st.full t).1.vars) (st.full t).1.vars.length else (.zero, (st.full t).2, st)) := rfl
  have HZ := Lib.hid (@full_size st t)
  generalize st.copyT t = R at *
  generalize st.full t = q at *
  obtain ⟨x, e0⟩ := q
  dsimp only at HF HT HZ
  by_cases he : e0 = 0
  · subst he
    have HT2 : Hid (R = st.freshT (x.renum x.vars) x.vars.length) := by show _ = _; rw [HT.out, if_pos rfl]
    rw [HT2.out]
    have hxs : x.size ≤ 1048576 := by have := HZ.out rfl; omega
    have HN := Lib.hid (fun w1 v1 h h2 => copyt_Norm (w.heap.size :: (w.heap.size + 1) :: F) x v1 w1 h h2 hxs)
    have HFR := Lib.hid (fun v1 w1 h h2 => copyt_Fresh G (w.heap.size :: (w.heap.size + 1) :: F) sb st (x.renum x.vars) v1 x.vars.length w1 h h2)
    generalize st.freshT (x.renum x.vars) x.vars.length = r at *
    obtain ⟨y, e1, st'⟩ := r
    generalize x.renum x.vars = z at *
    generalize x.vars.length = n at *
    clear HT HT2 HZ hxs
    dsimp only at HFR ⊢
    go_enter Try.func58, Try.ntmps58
    go_wp2_with (first
      | (go_at_call 52; refine (HF.out _ (hs.more (F' := w.heap.size :: (w.heap.size + 1) :: F) (H := []) (by repeat (first | with_reducible (first | refine .alloc ?_ _ | refine .drewN ?_ _ | refine .drew ?_) | ((with_reducible refine .setCell ?_ ?_ _); rotate_left; focus (first | (left; simp; done) | (right; simp; (first | done | omega)))) | with_reducible (first | assumption | exact .refl _ _ | refine .trans0 ?_ ‹_›))) (by simp) (by simp) (new_two (Nat.le_refl _) (by omega)) (fun b hb => by simp [hb]) (fun b hb => by have := hF2 b hb; simp only [heap_size_alloc]; omega)) ((ht.away (F' := w.heap.size :: (w.heap.size + 1) :: F) (new_two (Nat.le_refl _) (by omega))).keep (by repeat (first | with_reducible (first | refine .alloc ?_ _ | refine .drewN ?_ _ | refine .drew ?_) | ((with_reducible refine .setCell ?_ ?_ _); rotate_left; focus (first | (left; simp; done) | (right; simp; (first | done | omega)))) | with_reducible (first | assumption | exact .refl _ _ | refine .trans0 ?_ ‹_›))))).mono ?_; rintro e w2 ⟨⟨v2, rfl, hv2⟩, F2⟩; obtain ⟨A2, cap2, rfl⟩ := hv2.form; have hsz2 := F2.size; simp only [heap_size_alloc] at hsz2; have hb1 := F2.at0 (b := w.heap.size + 1) (o := .cells #[.int .i64 0, .int .i64 0, .string ⟨#[]⟩, .slice none 0 0] 26 (0, 0)) (by repeat (first | rw [heap_alloc_at] | rw [heap_size_alloc] | rfl | rw [if_pos (by omega)] | rw [if_neg (by omega)])); have hs2 := (hs.more (F' := w.heap.size :: (w.heap.size + 1) :: F) (H := []) (w' := (w.alloc _).alloc _) (by repeat (first | with_reducible (first | refine .alloc ?_ _ | refine .drewN ?_ _ | refine .drew ?_) | ((with_reducible refine .setCell ?_ ?_ _); rotate_left; focus (first | (left; simp; done) | (right; simp; (first | done | omega)))) | with_reducible (first | assumption | exact .refl _ _ | refine .trans0 ?_ ‹_›))) (by simp) (by simp) (new_two (Nat.le_refl _) (by omega)) (fun b hb => by simp [hb]) (fun b hb => by have := hF2 b hb; simp only [heap_size_alloc]; omega)).keep F2; have F02 : Frm [] w w2 := Frm.trans0 (by repeat (first | with_reducible (first | refine .alloc ?_ _ | refine .drewN ?_ _ | refine .drew ?_) | ((with_reducible refine .setCell ?_ ?_ _); rotate_left; focus (first | (left; simp; done) | (right; simp; (first | done | omega)))) | with_reducible (first | assumption | exact .refl _ _ | refine .trans0 ?_ ‹_›))) F2)
      | (go_at_call 70; refine (HN.out _ _ (hv2.keep (by repeat (first | with_reducible (first | refine .alloc ?_ _ | refine .drewN ?_ _ | refine .drew ?_) | ((with_reducible refine .setCell ?_ ?_ _); rotate_left; focus (first | (left; simp; done) | (right; simp; (first | done | omega)))) | with_reducible (first | assumption | exact .refl _ _ | refine .trans0 ?_ ‹_›)))) (fun b hb => by have := hF2 b hb; simp; omega)).mono ?_; rintro e w3 ⟨⟨v3, rfl, hv3⟩, F3⟩; obtain ⟨A3, cap3, rfl⟩ := hv3.form; have F23 : Frm [] w2 w3 := Frm.trans0 (by repeat (first | with_reducible (first | refine .alloc ?_ _ | refine .drewN ?_ _ | refine .drew ?_) | ((with_reducible refine .setCell ?_ ?_ _); rotate_left; focus (first | (left; simp; done) | (right; simp; (first | done | omega)))) | with_reducible (first | assumption | exact .refl _ _ | refine .trans0 ?_ ‹_›))) F3)
      | (go_at_call 71; refine (HFR.out _ _ ((hs2.keep F23).keep (by repeat (first | with_reducible (first | refine .alloc ?_ _ | refine .drewN ?_ _ | refine .drew ?_) | ((with_reducible refine .setCell ?_ ?_ _); rotate_left; focus (first | (left; simp; done) | (right; simp; (first | done | omega)))) | with_reducible (first | assumption | exact .refl _ _ | refine .trans0 ?_ ‹_›)))) (hv3.keep (by repeat (first | with_reducible (first | refine .alloc ?_ _ | refine .drewN ?_ _ | refine .drew ?_) | ((with_reducible refine .setCell ?_ ?_ _); rotate_left; focus (first | (left; simp; done) | (right; simp; (first | done | omega)))) | with_reducible (first | assumption | exact .refl _ _ | refine .trans0 ?_ ‹_›))))).mono ?_; rintro e w4 ⟨v4, rfl, TO⟩; obtain ⟨G4, F4', hs4, F4, k3, k4, k5, hv4⟩ := TO; obtain ⟨A4, cap4, rfl⟩ := hv4.form; have F4'' : Frm G w3 w4 := Frm.trans' (F := G) (b := _) ((Frm.refl [] w3).alloc _ |>.mono (by simp)) F4; have hb4 := F4''.at_ (F23.at0 hb1) (fun h => by have := HG _ h; omega); obtain ⟨y0, y1, y2, y3, y4, y5⟩ := blk4 hb4))
    have hb5 := box_store4 hb4 (.int .i64 y.kind) (.int .i64 y.n) (.string y.s) (.slice A4 y.kids.length cap4)
    have F5 : Frm [w.heap.size + 1] w4 ((((w4.setCell ⟨w.heap.size + 1, 0, none⟩ (.int .i64 y.kind)).setCell ⟨w.heap.size + 1, 1, none⟩ (.int .i64 y.n)).setCell ⟨w.heap.size + 1, 2, none⟩ (.string y.s)).setCell ⟨w.heap.size + 1, 3, none⟩ (.slice A4 y.kids.length cap4)) := (by repeat (first | with_reducible (first | refine .alloc ?_ _ | refine .drewN ?_ _ | refine .drew ?_) | ((with_reducible refine .setCell ?_ ?_ _); rotate_left; focus (first | (left; simp; done) | (right; simp; (first | done | omega)))) | with_reducible (first | assumption | exact .refl _ _ | refine .trans0 ?_ ‹_›)))
    generalize World.setCell _ _ _ = W5 at *
    obtain ⟨q0, q1, q2, q3, q4, q5⟩ := blk4 hb5
    refine bodyPost_ret (v := .tuple #[.agg #[.int .i64 y.kind, .int .i64 y.n, .string y.s, .slice A4 y.kids.length cap4], .int .i64 e1]) (by simp [results, Try.results58, go_sem, q0, q1, q2, q3]) rfl ?_
    have hsz3 := F23.size
    simp only [heap_size_alloc] at k4 k5
    refine ⟨_, rfl, G4, F4', hs4.frm F5 (fun b hb hg => ?_) (fun b hb => ?_), ?_, fun b hb => k3 b (by simp [hb]), fun b hb => ?_, fun b hb => ?_, hv4.frm F5 (fun b hb => ?_)⟩
    · rw [List.mem_singleton.1 hb] at hg
      rcases k5 _ hg with h | h
      · have := HG _ h; omega
      · omega
    · rw [List.mem_singleton.1 hb]; exact k3 _ (by simp)
    · refine (((F02.mono (by simp)).trans0 F23).trans' F4'').trans F5 ?_
      intro b hb; rw [List.mem_singleton.1 hb]; exact .inr (by omega)
    · rcases k4 b hb with h | h
      · simp only [List.mem_cons] at h
        rcases h with rfl | rfl | h
        · exact .inr (by omega)
        · exact .inr (by omega)
        · exact .inl h
      · exact .inr (by omega)
    · rcases k5 b hb with h | h
      · exact .inl h
      · exact .inr (by omega)
    · rw [List.mem_singleton.1 hb]; exact k3 _ (by simp)
  · have HT2 : Hid (R = (.zero, e0, st)) := by show _ = _; rw [HT.out, if_neg he]
    rw [HT2.out]
    have he' : (e0 != 0) = true := by simpa using he
    clear he HT HT2 HZ
    go_enter Try.func58, Try.ntmps58
    go_wp2_with (go_at_call 52; refine (HF.out _ (hs.more (F' := w.heap.size :: (w.heap.size + 1) :: F) (H := []) (by repeat (first | with_reducible (first | refine .alloc ?_ _ | refine .drewN ?_ _ | refine .drew ?_) | ((with_reducible refine .setCell ?_ ?_ _); rotate_left; focus (first | (left; simp; done) | (right; simp; (first | done | omega)))) | with_reducible (first | assumption | exact .refl _ _ | refine .trans0 ?_ ‹_›))) (by simp) (by simp) (new_two (Nat.le_refl _) (by omega)) (fun b hb => by simp [hb]) (fun b hb => by have := hF2 b hb; simp only [heap_size_alloc]; omega)) ((ht.away (F' := w.heap.size :: (w.heap.size + 1) :: F) (new_two (Nat.le_refl _) (by omega))).keep (by repeat (first | with_reducible (first | refine .alloc ?_ _ | refine .drewN ?_ _ | refine .drew ?_) | ((with_reducible refine .setCell ?_ ?_ _); rotate_left; focus (first | (left; simp; done) | (right; simp; (first | done | omega)))) | with_reducible (first | assumption | exact .refl _ _ | refine .trans0 ?_ ‹_›))))).mono ?_; rintro e w2 ⟨⟨v2, rfl, hv2⟩, F2⟩; obtain ⟨A2, cap2, rfl⟩ := hv2.form; have hsz2 := F2.size; simp only [heap_size_alloc] at hsz2; have hb1 := F2.at0 (b := w.heap.size + 1) (o := .cells #[.int .i64 0, .int .i64 0, .string ⟨#[]⟩, .slice none 0 0] 26 (0, 0)) (by repeat (first | rw [heap_alloc_at] | rw [heap_size_alloc] | rfl | rw [if_pos (by omega)] | rw [if_neg (by omega)])); have F02 : Frm [] w w2 := Frm.trans0 (by repeat (first | with_reducible (first | refine .alloc ?_ _ | refine .drewN ?_ _ | refine .drew ?_) | ((with_reducible refine .setCell ?_ ?_ _); rotate_left; focus (first | (left; simp; done) | (right; simp; (first | done | omega)))) | with_reducible (first | assumption | exact .refl _ _ | refine .trans0 ?_ ‹_›))) F2; obtain ⟨y0, y1, y2, y3, y4, y5⟩ := blk4 hb1)
    have hb5 := box_store4 hb1 (.int .i64 0) (.int .i64 0) (.string ⟨#[]⟩) (.slice none 0 0)
    have F5 : Frm [w.heap.size + 1] w2 ((((w2.setCell ⟨w.heap.size + 1, 0, none⟩ (.int .i64 0)).setCell ⟨w.heap.size + 1, 1, none⟩ (.int .i64 0)).setCell ⟨w.heap.size + 1, 2, none⟩ (.string ⟨#[]⟩)).setCell ⟨w.heap.size + 1, 3, none⟩ (.slice none 0 0)) := (by repeat (first | with_reducible (first | refine .alloc ?_ _ | refine .drewN ?_ _ | refine .drew ?_) | ((with_reducible refine .setCell ?_ ?_ _); rotate_left; focus (first | (left; simp; done) | (right; simp; (first | done | omega)))) | with_reducible (first | assumption | exact .refl _ _ | refine .trans0 ?_ ‹_›)))
    generalize World.setCell (World.setCell _ _ _) _ _ = W5 at *
    have F05 : Frm [] w W5 := F02.trans F5 (fun b hb => by rw [List.mem_singleton.1 hb]; exact .inr (by omega))
    obtain ⟨q0, q1, q2, q3, q4, q5⟩ := blk4 (((Frm.refl [] W5).alloc (.cells #[.int .i64 x.kind, .int .i64 x.n, .string x.s, .slice A2 x.kids.length cap2] 26)).at0 hb5)
    refine bodyPost_ret (v := .tuple #[.agg #[.int .i64 0, .int .i64 0, .string ⟨#[]⟩, .slice none 0 0], .int .i64 e0]) (by simp [results, Try.results58, go_sem, q0, q1, q2, q3]) rfl ?_
    exact ⟨_, rfl, StoreToT.quiet hs (by repeat (first | with_reducible (first | refine .alloc ?_ _ | refine .drewN ?_ _ | refine .drew ?_) | ((with_reducible refine .setCell ?_ ?_ _); rotate_left; focus (first | (left; simp; done) | (right; simp; (first | done | omega)))) | with_reducible (first | assumption | exact .refl _ _ | refine .trans0 ?_ ‹_›))) (TermV.leaf F _ (by unfold I64; omega) (by unfold I64; omega) (by decide))⟩
end Go.Proofs.Ytkiofaojokofbaa
