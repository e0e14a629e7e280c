/- term.Size, term.Vars: what each call answers. -/
import Derived.Test.YtpffcfmhiebhdaaParts
import Derived.RangeFuncFrom
namespace Go.Proofs.Ytpffcfmhiebhdaa
open Go.RowKit Go.Shelf

attribute [local go_sem] Oper.semAt_some

theorem box_at (w : World) (cs : Array Value) (t : TypeId) {k : Nat} (h : k = w.heap.size) : (w.alloc (.cells cs t)).heap[k]? = some (.cells cs t (0, 0)) := by
  subst h; exact alloc_heap_new _ _
theorem cell_of_box {W : World} {B : Nat} {v : Value} {t : TypeId} (h : W.heap[B]? = some (.cells #[v] t (0, 0))) : W.cell? ⟨B, 0, none⟩ = some v ∧ W.frozen? ⟨B, 0, none⟩ = false := by
  constructor <;> simp [World.cell?, World.frozen?, h]
set_option maxRecDepth 100000 in
set_option maxHeartbeats 2000000 in
theorem term_Size_in (F : Fence) (hd : F.depth = none) (hf : ∀ f, F.fn f) (hro : F.round = none) (n : Nat) (hn : 3 ≤ n) (T : Term) (v : Value) (w : World) (hv : TermV [] w T v) (hs : T.size ≤ 1048576) :
    CallsIn F n Try.prog 33 #[v] w fun e w' => e = .returned (.int .i64 T.size) ∧ Below w.heap.size w w' := by
  have h1 : 1 ≤ n := by omega
  obtain ⟨A, cap, rfl⟩ := hv.form
  refine callsIn_of_wp_marks Try.func33 rfl (hf _) ?_ hro
  simp only [Try.ntmps33, List.size_toArray, List.length_cons, List.length_nil, Nat.reduceAdd, Nat.reduceSub, Array.replicate_succ, Array.replicate_zero, List.push_toArray, List.append_toArray, List.nil_append, List.cons_append]
  gi_wp2_with (gi_at_call 35; refine (term_parts F (n - 1) (hf _) hro T _ w _ hv).mono ?_; rintro e w' ⟨rfl, rfl⟩)
  obtain ⟨W0, hW0⟩ : ∃ W0, ((w.alloc (.cells #[.int .i64 T.kind, .int .i64 T.n, .string T.s, .slice A T.kids.length cap] 35)).alloc (.cells #[.int .i64 0] 3)).alloc (.cells #[.int .i64 T.kind, .int .i64 T.n, .string T.s, .slice A T.kids.length cap] 35) = W0 := ⟨_, rfl⟩
  have hbt : W0.heap[w.heap.size + 1 + 1]? = some (.cells #[.int .i64 T.kind, .int .i64 T.n, .string T.s, .slice A T.kids.length cap] 35 (0, 0)) := by
    rw [← hW0]; have := World.alloc_heap_new ((w.alloc (.cells #[.int .i64 T.kind, .int .i64 T.n, .string T.s, .slice A T.kids.length cap] 35)).alloc (.cells #[.int .i64 0] 3)) (.cells #[.int .i64 T.kind, .int .i64 T.n, .string T.s, .slice A T.kids.length cap] 35); simpa using this
  have hbn : W0.heap[w.heap.size + 1]? = some (.cells #[.int .i64 0] 3 (0, 0)) := by
    rw [← hW0]; refine (Below.heap_alloc _ _ _ (by simp)).trans ?_; have := World.alloc_heap_new (w.alloc (.cells #[.int .i64 T.kind, .int .i64 T.n, .string T.s, .slice A T.kids.length cap] 35)) (.cells #[.int .i64 0] 3); simpa using this
  have hB0 : Below w.heap.size w W0 := by rw [← hW0]; exact (((Below.refl _ w).alloc (Nat.le_refl _) _).alloc (by simp) _).alloc (by simp; omega) _
  have hsz : W0.heap.size = w.heap.size + 3 := by rw [← hW0]; simp
  rw [hW0]
  clear hW0
  refine wpIn_rangeFunc_ownF (w0 := W0) hro h1 (gf := 45) (lb := #[.pointer (some ⟨w.heap.size + 1 + 1, 0, none⟩)]) rfl (hf _) (enters_of Try.func45 (by kernel_rfl) rfl)
    (parts_stops F hd (n - 1) (hf _) (hf _) hro (w.heap.size + 1 + 1) w W0 T _ hv hs hB0 hbt) Kept.trans (Kept.put (by omega)) (Below.refl _ _) (fun _ => rfl)
    (fun pre W => (W.cell? ⟨w.heap.size + 1, 0, none⟩ = some (.int .i64 pre.length) ∧ W.frozen? ⟨w.heap.size + 1, 0, none⟩ = false) ∧ Below w.heap.size w W)
    (fun _ _ _ => False)
    (OwnFrom.and (Own.from (fun s A B row hs hg hr => ⟨cell_kept hs.1 hg hr, (frozen_kept hs.1 hg hr).trans hs.2⟩) _) (ownFrom_below (Nat.le_refl _) (by omega)))
    (fun _ _ _ _ _ hs _ _ => hs)
    ⟨cell_of_box hbn, hB0⟩
    (fun x => { tmps := #[.agg #[.int .i64 T.kind, .int .i64 T.n, .string T.s, .slice A T.kids.length cap], .pointer (some ⟨w.heap.size, 0, none⟩), .int .i64 0, .pointer (some ⟨w.heap.size + 1, 0, none⟩), .agg #[.int .i64 T.kind, .int .i64 T.n, .string T.s, .slice A T.kids.length cap],
      .func (.func 45) #[] #[.pointer (some ⟨w.heap.size + 1 + 1, 0, none⟩)], x.1.2, undef, undef, undef], defers := [] }) ?assign ?body ?done ?stop
  case assign =>
    intro l x W K hK
    simp only [tvEnc, List.zip_toArray, List.zip_cons_cons, List.zip_nil_right, List.size_toArray, List.length_cons, List.length_nil, List.foldl_toArray', List.foldl_cons, List.foldl_nil, List.setIfInBounds_toArray, List.set_cons_succ, List.set_cons_zero]
    gi_wp2
    exact hK
  case body =>
    rintro l pre x W ⟨⟨hc, hfz⟩, hB⟩ hlen
    gi_wp2
    refine ⟨KeepsOthers.setCell _ _ _, (Kept.refl _ _ W).setCell hB.size _ _ (by omega) (by omega), ⟨?_, by rw [World.frozen?_setCell]; exact hfz⟩, hB.setCell (p := ⟨w.heap.size + 1, 0, none⟩) (by simp) _⟩
    rw [List.length_append]
    exact World.cell?_setCell_same' _ _ _ (by rw [hc]; rfl)
  case done =>
    rintro D ys W hD hS ⟨⟨hc, _⟩, hB⟩ hK
    have hl : ys.length = T.size := by have := congrArg List.length hS; simpa [Term.length_partss_and] using this
    rw [hl] at hc
    gi_wp2
    refine ⟨by simp, .inl ⟨_, _, rfl, run_takeDeferred hK, ?_⟩⟩
    exact ⟨_, results_tmp rfl _ _ _, rfl, hB.trans (belowK_b (w := w) (Nat.le_refl _) W D _ _ (by omega) hK rfl rfl)⟩
  case stop =>
    rintro D c pre W _ _ h _
    exact h.elim

theorem term_Size (F : List Nat) (T : Term) (v : Value) (w : World) (hv : TermV F w T v) (hs : T.size ≤ 1048576) :
    Calls Try.prog 33 #[v] w fun e w' => e = .returned (.int .i64 T.size) ∧ Frm [] w w' :=
  (callsIn_wide.1 (term_Size_in Fence.wide rfl (fun _ => trivial) rfl 3 (by omega) T v w (hv.away (by simp)) hs)).mono fun e w' h => ⟨h.1, Frm.of_below h.2⟩
end Go.Proofs.Ytpffcfmhiebhdaa
