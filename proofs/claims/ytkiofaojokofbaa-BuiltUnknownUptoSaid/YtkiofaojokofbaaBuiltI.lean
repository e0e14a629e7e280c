/- Contracts and plain laws: Goals5 Goals6. -/
import Derived.Test.YtkiofaojokofbaaBuiltF
import Derived.Test.YtkiofaojokofbaaBuiltG
import Derived.Test.YtkiofaojokofbaaBuiltH
import Derived.WalkSpells
import Derived.WalkLawsBesides
import Derived.Deep.QuietTactic
import Derived.BigQuiet
import Derived.Deep.DeepCutAuto
import Derived.Deep.RegionHeld3
import Derived.Lib.Hide
import Derived.Handy
namespace Go.Proofs.Ytkiofaojokofbaa
open Go.RowKit

noncomputable def PStore.copiedT (l : Lat) (st : PStore) (a b : Term) : Bool × Int × Int × PStore :=
  if (st.copyT a).2.1 = 0 then (st.copyT a).2.2.matchT l [b] [(st.copyT a).1] else (false, l.bottom, (st.copyT a).2.1, (st.copyT a).2.2)

def CopyMid (G F : List Nat) (W : World) (sb : Nat) (q : Term × Int × PStore) (x5 x6 : Value) (wx : World) : Prop :=
  ∃ xb G' F', x5 = .pointer (some ⟨xb, 0, none⟩) ∧ x6 = .int .i64 q.2.1 ∧ StoreAt G' F' wx sb q.2.2 ∧ Frm G W wx ∧ (∀ b, b ∈ F → b ∈ F') ∧ (∀ b, b ∈ F' → b ∈ F ∨ W.heap.size ≤ b) ∧ (∀ b, b ∈ G' → b ∈ G ∨ W.heap.size ≤ b) ∧ W.heap.size ≤ xb ∧ TBox F' wx xb q.1
theorem CopyMid.before {G F : List Nat} {W w2 w3 : World} {sb : Nat} {q : Term × Int × PStore} {v : Value} (HG : ∀ b, b ∈ G → b < W.heap.size) (f0 : Frm [] W w2) (hsz : w2.heap.size = W.heap.size + 1) (h : StoreToT G (W.heap.size :: F) w2 w3 sb q.2.2 q.1 v)
    (hw2 : w2.heap[W.heap.size]? = some (.cells #[.int .i64 0, .int .i64 0, .string ⟨#[]⟩, .slice none 0 0] 26 (0, 0))) {A : Option Addr} {cap : Nat} (hv : v = .agg #[.int .i64 q.1.kind, .int .i64 q.1.n, .string q.1.s, .slice A q.1.kids.length cap]) :
    CopyMid G F W sb q (.pointer (some ⟨W.heap.size, 0, none⟩)) (.int .i64 q.2.1) ((((w3.setCell ⟨W.heap.size, 0, none⟩ (.int .i64 q.1.kind)).setCell ⟨W.heap.size, 1, none⟩ (.int .i64 q.1.n)).setCell ⟨W.heap.size, 2, none⟩ (.string q.1.s)).setCell ⟨W.heap.size, 3, none⟩ (.slice A q.1.kids.length cap)) := by
  obtain ⟨G', F', h1, h2, h3, h4, h5, h6⟩ := h
  have hb3 := h2.at_ hw2 (fun h => by have := HG _ h; omega)
  have F4 := box4_frm' w3 W.heap.size (.int .i64 q.1.kind) (.int .i64 q.1.n) (.string q.1.s) (.slice A q.1.kids.length cap)
  refine ⟨W.heap.size, G', F', rfl, rfl, h1.frm F4 (fun b hb hg => ?_) (fun b hb => ?_), ((f0.mono (by simp)).trans' h2).trans F4 (fun b hb => ?_), fun b hb => h3 b (List.mem_cons_of_mem _ hb), fun b hb => ?_, fun b hb => ?_, Nat.le_refl _, A, cap, box_store4 hb3 _ _ _ _, ?_⟩
  · rw [List.mem_singleton.1 hb] at hg
    rcases h5 _ hg with h | h
    · have := HG _ h; omega
    · omega
  · rw [List.mem_singleton.1 hb]; exact h3 _ (by simp)
  · rw [List.mem_singleton.1 hb]; exact .inr (Nat.le_refl _)
  · rcases h4 b hb with h | h
    · rcases List.mem_cons.1 h with rfl | h
      · exact .inr (Nat.le_refl _)
      · exact .inl h
    · exact .inr (by omega)
  · exact (h5 b hb).imp id (fun h => by omega)
  · rw [← hv]
    exact h6.frm F4 (fun b hb => by rw [List.mem_singleton.1 hb]; exact h3 _ (by simp))
theorem CopyMid.behind {G F : List Nat} {W w2 w3 : World} {sb : Nat} {q : Term × Int × PStore} {v : Value} (f0 : Frm [] W w2) (h : StoreToT G F w2 w3 sb q.2.2 q.1 v)
    {A : Option Addr} {cap : Nat} (hv : v = .agg #[.int .i64 q.1.kind, .int .i64 q.1.n, .string q.1.s, .slice A q.1.kids.length cap]) :
    CopyMid G F W sb q (.pointer (some ⟨w3.heap.size, 0, none⟩)) (.int .i64 q.2.1) (w3.alloc (.cells #[.int .i64 q.1.kind, .int .i64 q.1.n, .string q.1.s, .slice A q.1.kids.length cap] 26)) := by
  obtain ⟨G', F', h1, h2, h3, h4, h5, h6⟩ := h
  have hsz := f0.size
  have hsz2 := h2.size
  exact ⟨w3.heap.size, G', F', rfl, rfl, h1.keep (by repeat (first | with_reducible (first | refine .alloc ?_ _ | refine .drewN ?_ _ | refine .drew ?_) | ((with_reducible refine .setCell ?_ ?_ _); rotate_left; focus (first | (left; simp; done) | (right; simp; (first | done | omega)))) | with_reducible (first | assumption | exact .refl _ _ | refine .trans0 ?_ ‹_›))), ((f0.mono (by simp)).trans' h2).alloc _, h3, fun b hb => (h4 b hb).imp id (fun h => by omega), fun b hb => (h5 b hb).imp id (fun h => by omega), by omega, A, cap, alloc_heap_new _ _, by rw [← hv]; exact h6.keep (by repeat (first | with_reducible (first | refine .alloc ?_ _ | refine .drewN ?_ _ | refine .drew ?_) | ((with_reducible refine .setCell ?_ ?_ _); rotate_left; focus (first | (left; simp; done) | (right; simp; (first | done | omega)))) | with_reducible (first | assumption | exact .refl _ _ | refine .trans0 ?_ ‹_›)))⟩

set_option maxRecDepth 100000 in
set_option maxHeartbeats 2000000 in
theorem goal_copied (G F : List Nat) (sb lb : Nat) (l : Lat) (st : PStore) (a b : Term) (A : Option Addr) (cap : Nat) (w : World) (hl : LatAt w lb l) (hlG : lb ∉ G) (hs : StoreAt G F w sb st) (hk : KidsV F w [a, b] A 0) :
    Calls Try.prog 41 #[.agg #[.pointer (some ⟨sb, 0, none⟩), .pointer (some ⟨lb, 0, none⟩)], .slice A 2 cap] w fun e w' => e = .returned (toldV (st.copiedT l a b)) ∧ StoreTo G F w w' sb (st.copiedT l a b).2.2.2 := by
  have hF := hs.lt
  have hGF := hs.sub
  have HG : ∀ b, b ∈ G → b < w.heap.size := fun b hb => hF b (hGF b hb)
  obtain ⟨g, off, A1, c1, A2, c2, rfl, hgg, hgF, e0, e1, e2, e3, d0, d1, d2, d3, hA, hB⟩ := hk.pair
  have hgG : g ∉ G := fun h => hgF (hGF g h)
  have HC := Lib.hid (fun F v w1 h1 h2 => copyt_Copy G F sb st a v w1 h1 h2)
  have HT : Hid (st.copiedT l a b = if (st.copyT a).2.1 = 0 then (st.copyT a).2.2.matchT l [b] [(st.copyT a).1] else (false, l.bottom, (st.copyT a).2.1, (st.copyT a).2.2)) := rfl
  generalize st.copiedT l a b = R at *
  generalize st.copyT a = q at *
  go_enter Try.func41, Try.ntmps41
  go_upto_region 1 with (fail)
  generalize hW : World.alloc _ _ = W
  have hb0 : W.heap[w.heap.size]? = some (.cells #[.pointer (some ⟨sb, 0, none⟩), .pointer (some ⟨lb, 0, none⟩)] 54 (0, 0)) := by subst hW; exact (by repeat (first | rw [heap_alloc_at] | rw [heap_size_alloc] | rfl | rw [if_pos (by omega)] | rw [if_neg (by omega)]))
  have hb2 : W.heap[w.heap.size + 1]? = some (.cells #[.bool false, .int .i64 0, .int .i64 0] 59 (0, 0)) := by subst hW; exact (by repeat (first | rw [heap_alloc_at] | rw [heap_size_alloc] | rfl | rw [if_pos (by omega)] | rw [if_neg (by omega)]))
  have FW : Frm [] w W := by subst hW; exact (by repeat (first | with_reducible (first | refine .alloc ?_ _ | refine .drewN ?_ _ | refine .drew ?_) | ((with_reducible refine .setCell ?_ ?_ _); rotate_left; focus (first | (left; simp; done) | (right; simp; (first | done | omega)))) | with_reducible (first | assumption | exact .refl _ _ | refine .trans0 ?_ ‹_›)))
  have hszW : W.heap.size = w.heap.size + 1 + 1 := by subst hW; simp
  clear hW
  obtain ⟨p0, p1, p2, hgbW⟩ := blk2 hb0
  have s0 := (FW.cell hgg (by simp)).trans e0
  have s1 := (FW.cell hgg (by simp)).trans e1
  have s2 := (FW.cell hgg (by simp)).trans e2
  have s3 := (FW.cell hgg (by simp)).trans e3
  have hF1 : ∀ b, b ∈ (w.heap.size + 1) :: F → b < W.heap.size := lt_one hF (by omega) (by omega)
  have hggW := Nat.lt_of_lt_of_le hgg FW.size
  have HG1 : ∀ b, b ∈ G → b < W.heap.size := fun b hb => by have := HG b hb; omega
  have hs1 : StoreAt G ((w.heap.size + 1) :: F) W sb st := hs.more FW (by simp) (by simp) (new_one (by omega)) (fun b hb => by simp [hb]) hF1
  have hA1 := (hA.away (F' := (w.heap.size + 1) :: F) (new_one (by omega))).keep FW
  have HSZ := Lib.hid hszW
  clear hszW
  have hgbG : w.heap.size ∉ G := fun h => by have := HG _ h; omega
  go_cut [5, 6] (fun x5 x6 wx => CopyMid G ((w.heap.size + 1) :: F) W sb q x5 x6 wx)
  case first =>
    refine wp_region_U (fun w' => Frm G W w') (fun i => List.contains [0, 1, 2, 3, 4, 5, 9] i) (by kernel_rfl) ?rgnS1 (fun hHeld => ?rgnB1)
    case rgnS1 => (first | (dsimp only; (first | exact (by repeat (first | with_reducible (first | refine .alloc ?_ _ | refine .drewN ?_ _ | refine .drew ?_) | ((with_reducible refine .setCell ?_ ?_ _); rotate_left; focus (first | (left; simp; done) | (right; simp; (first | done | omega)))) | with_reducible (first | assumption | exact .refl _ _ | refine .trans0 ?_ ‹_›))) | exact F03 | exact F03.alloc _)) | (first | exact (by repeat (first | with_reducible (first | refine .alloc ?_ _ | refine .drewN ?_ _ | refine .drew ?_) | ((with_reducible refine .setCell ?_ ?_ _); rotate_left; focus (first | (left; simp; done) | (right; simp; (first | done | omega)))) | with_reducible (first | assumption | exact .refl _ _ | refine .trans0 ?_ ‹_›))) | exact F03 | exact F03.alloc _))
    case' rgnB1 => skip
    refine Pend.start [0, 1, 2, 3, 4] ?_
    iterate 5 (refine tk (v := ?_) rfl (by kernel_rfl) (by rfl) (fun _ _ _ h => h) (by assumption) ?_ ?_; rotate_left; (focus (intro wq hSw; (try dsimp only at hSw); have P0 := (hSw.cell hgbW hgbG).trans p0; have P1 := (hSw.cell hgbW hgbG).trans p1; have S0 := (hSw.cell hggW hgG).trans s0; have S1 := (hSw.cell hggW hgG).trans s1; have S2 := (hSw.cell hggW hgG).trans s2; have S3 := (hSw.cell hggW hgG).trans s3; go_simp; (first | done | with_reducible rfl))); try simp only [Act.put, List.setIfInBounds_toArray, List.set_cons_zero, List.set_cons_succ])
    refine Pend.done ?_
    refine two 5 9 (by kernel_rfl) rfl rfl (fun K' hK => ?_) (fun K' hK => ?_)
    · skip
      (go_simp; (first | (with_reducible refine (HC.out (W.heap.size :: (w.heap.size + 1) :: F) _ (World.drew (World.alloc _ _)) ?_ ?_).mono ?_; (focus exact hs1.more (F' := W.heap.size :: (w.heap.size + 1) :: F) (H := []) (by repeat (first | with_reducible (first | refine .alloc ?_ _ | refine .drewN ?_ _ | refine .drew ?_) | ((with_reducible refine .setCell ?_ ?_ _); rotate_left; focus (first | (left; simp; done) | (right; simp; (first | done | omega)))) | with_reducible (first | assumption | exact .refl _ _ | refine .trans0 ?_ ‹_›))) (by simp) (by simp) (new_one (Nat.le_refl _)) (fun b hb => List.mem_cons_of_mem _ hb) (lt_one hF1 (by simp) (by simp))); (focus exact (hA1.away (F' := W.heap.size :: (w.heap.size + 1) :: F) (new_one (Nat.le_refl _))).keep (by repeat (first | with_reducible (first | refine .alloc ?_ _ | refine .drewN ?_ _ | refine .drew ?_) | ((with_reducible refine .setCell ?_ ?_ _); rotate_left; focus (first | (left; simp; done) | (right; simp; (first | done | omega)))) | with_reducible (first | assumption | exact .refl _ _ | refine .trans0 ?_ ‹_›))))) | (refine (HC.out _ _ _ (hs1.keep (by repeat (first | with_reducible (first | refine .alloc ?_ _ | refine .drewN ?_ _ | refine .drew ?_) | ((with_reducible refine .setCell ?_ ?_ _); rotate_left; focus (first | (left; simp; done) | (right; simp; (first | done | omega)))) | with_reducible (first | assumption | exact .refl _ _ | refine .trans0 ?_ ‹_›)))) (hA1.keep (by repeat (first | with_reducible (first | refine .alloc ?_ _ | refine .drewN ?_ _ | refine .drew ?_) | ((with_reducible refine .setCell ?_ ?_ _); rotate_left; focus (first | (left; simp; done) | (right; simp; (first | done | omega)))) | with_reducible (first | assumption | exact .refl _ _ | refine .trans0 ?_ ‹_›))))).mono ?_)); rintro e w2 ⟨v2, rfl, hv2⟩; obtain ⟨G2, F2', hs2, F2, k3, k4, k5, hv2t⟩ := id hv2; obtain ⟨A3, cap3, hv3⟩ := hv2t.form; subst hv3; (try (have hz3 := F2.at_ (alloc_heap_new _ _) (fun h => by have := HG1 _ h; omega); obtain ⟨z0, z1, z2, z3, z4, z5⟩ := blk4 hz3)); have F03 : Frm G W w2 := Frm.trans' (Frm.mono (F := []) (by repeat (first | with_reducible (first | refine .alloc ?_ _ | refine .drewN ?_ _ | refine .drew ?_) | ((with_reducible refine .setCell ?_ ?_ _); rotate_left; focus (first | (left; simp; done) | (right; simp; (first | done | omega)))) | with_reducible (first | assumption | exact .refl _ _ | refine .trans0 ?_ ‹_›))) (by simp)) F2; clear hs2 F2 k3 k4 k5 hv2t; dsimp only)
      refine hK.out _ _ (fun _ => ?rgnS2) (fun hH => ?rgnB2)
      case rgnS2 => (first | (dsimp only; (first | exact (by repeat (first | with_reducible (first | refine .alloc ?_ _ | refine .drewN ?_ _ | refine .drew ?_) | ((with_reducible refine .setCell ?_ ?_ _); rotate_left; focus (first | (left; simp; done) | (right; simp; (first | done | omega)))) | with_reducible (first | assumption | exact .refl _ _ | refine .trans0 ?_ ‹_›))) | exact F03 | exact F03.alloc _)) | (first | exact (by repeat (first | with_reducible (first | refine .alloc ?_ _ | refine .drewN ?_ _ | refine .drew ?_) | ((with_reducible refine .setCell ?_ ?_ _); rotate_left; focus (first | (left; simp; done) | (right; simp; (first | done | omega)))) | with_reducible (first | assumption | exact .refl _ _ | refine .trans0 ?_ ‹_›))) | exact F03 | exact F03.alloc _))
      case' rgnB2 => ((try clear hHeld); have hHeld := hH (by decide); clear hH)
      clear hK K'
      try simp only [Act.put, List.setIfInBounds_toArray, List.set_cons_zero, List.set_cons_succ]
      refine Pend.start [6, 7, 8] ?_
      iterate 3 (refine tkl (v := ?_) rfl (by kernel_rfl) (by rfl) (fun _ _ _ h => h) ?_ ?_; rotate_left; (focus (intro wq hSw; go_simp; (first | done | with_reducible rfl))); try simp only [Act.put, List.setIfInBounds_toArray, List.set_cons_zero, List.set_cons_succ])
      refine Pend.done ?_
      refine one 9 (by kernel_rfl) rfl (fun K' hK => ?_)
      go_simp
      refine hK.out _ _ (fun _ => ?rgnS3) (fun hH => ?rgnB3)
      case rgnS3 => (first | (dsimp only; (first | exact (by repeat (first | with_reducible (first | refine .alloc ?_ _ | refine .drewN ?_ _ | refine .drew ?_) | ((with_reducible refine .setCell ?_ ?_ _); rotate_left; focus (first | (left; simp; done) | (right; simp; (first | done | omega)))) | with_reducible (first | assumption | exact .refl _ _ | refine .trans0 ?_ ‹_›))) | exact F03 | exact F03.alloc _)) | (first | exact (by repeat (first | with_reducible (first | refine .alloc ?_ _ | refine .drewN ?_ _ | refine .drew ?_) | ((with_reducible refine .setCell ?_ ?_ _); rotate_left; focus (first | (left; simp; done) | (right; simp; (first | done | omega)))) | with_reducible (first | assumption | exact .refl _ _ | refine .trans0 ?_ ‹_›))) | exact F03 | exact F03.alloc _))
      case' rgnB3 => ((try clear hHeld); have hHeld := hH (by decide); clear hH)
      clear hK K'
      try simp only [Act.put, List.setIfInBounds_toArray, List.set_cons_zero, List.set_cons_succ]
      refine one 10 (by kernel_rfl) rfl (fun K' hK => ?_)
      go_simp
      refine hK.out _ _ (fun h => absurd h (by decide)) (fun _ => ?_)
      clear hK K'
      try simp only [Act.put, List.setIfInBounds_toArray, List.set_cons_zero, List.set_cons_succ]
      refine Pend.start [11] ?_
      (refine tkl (v := ?_) rfl (by kernel_rfl) (by rfl) (fun _ _ _ h => h) ?_ ?_; rotate_left; (focus (intro wq hSw; go_simp; (first | done | with_reducible rfl))); try simp only [Act.put, List.setIfInBounds_toArray, List.set_cons_zero, List.set_cons_succ])
      refine Pend.done ?_
      refine wpAnyU_done (by kernel_rfl) ?_ _
      (go_wp2; go_meet; (first | exact CopyMid.before HG1 (by repeat (first | with_reducible (first | refine .alloc ?_ _ | refine .drewN ?_ _ | refine .drew ?_) | ((with_reducible refine .setCell ?_ ?_ _); rotate_left; focus (first | (left; simp; done) | (right; simp; (first | done | omega)))) | with_reducible (first | assumption | exact .refl _ _ | refine .trans0 ?_ ‹_›))) (by simp) hv2 (alloc_heap_new _ _) rfl | exact CopyMid.behind (by repeat (first | with_reducible (first | refine .alloc ?_ _ | refine .drewN ?_ _ | refine .drew ?_) | ((with_reducible refine .setCell ?_ ?_ _); rotate_left; focus (first | (left; simp; done) | (right; simp; (first | done | omega)))) | with_reducible (first | assumption | exact .refl _ _ | refine .trans0 ?_ ‹_›))) hv2 rfl))
    · skip
      go_simp
      refine hK.out _ _ (fun _ => ?rgnS4) (fun hH => ?rgnB4)
      case rgnS4 => (first | (dsimp only; (first | exact (by repeat (first | with_reducible (first | refine .alloc ?_ _ | refine .drewN ?_ _ | refine .drew ?_) | ((with_reducible refine .setCell ?_ ?_ _); rotate_left; focus (first | (left; simp; done) | (right; simp; (first | done | omega)))) | with_reducible (first | assumption | exact .refl _ _ | refine .trans0 ?_ ‹_›))) | exact F03 | exact F03.alloc _)) | (first | exact (by repeat (first | with_reducible (first | refine .alloc ?_ _ | refine .drewN ?_ _ | refine .drew ?_) | ((with_reducible refine .setCell ?_ ?_ _); rotate_left; focus (first | (left; simp; done) | (right; simp; (first | done | omega)))) | with_reducible (first | assumption | exact .refl _ _ | refine .trans0 ?_ ‹_›))) | exact F03 | exact F03.alloc _))
      case' rgnB4 => ((try clear hHeld); have hHeld := hH (by decide); clear hH)
      clear hK K'
      try simp only [Act.put, List.setIfInBounds_toArray, List.set_cons_zero, List.set_cons_succ]
      refine one 5 (by kernel_rfl) rfl (fun K' hK => ?_)
      (go_simp; (first | (with_reducible refine (HC.out (W.heap.size :: (w.heap.size + 1) :: F) _ (World.drew (World.alloc _ _)) ?_ ?_).mono ?_; (focus exact hs1.more (F' := W.heap.size :: (w.heap.size + 1) :: F) (H := []) (by repeat (first | with_reducible (first | refine .alloc ?_ _ | refine .drewN ?_ _ | refine .drew ?_) | ((with_reducible refine .setCell ?_ ?_ _); rotate_left; focus (first | (left; simp; done) | (right; simp; (first | done | omega)))) | with_reducible (first | assumption | exact .refl _ _ | refine .trans0 ?_ ‹_›))) (by simp) (by simp) (new_one (Nat.le_refl _)) (fun b hb => List.mem_cons_of_mem _ hb) (lt_one hF1 (by simp) (by simp))); (focus exact (hA1.away (F' := W.heap.size :: (w.heap.size + 1) :: F) (new_one (Nat.le_refl _))).keep (by repeat (first | with_reducible (first | refine .alloc ?_ _ | refine .drewN ?_ _ | refine .drew ?_) | ((with_reducible refine .setCell ?_ ?_ _); rotate_left; focus (first | (left; simp; done) | (right; simp; (first | done | omega)))) | with_reducible (first | assumption | exact .refl _ _ | refine .trans0 ?_ ‹_›))))) | (refine (HC.out _ _ _ (hs1.keep (by repeat (first | with_reducible (first | refine .alloc ?_ _ | refine .drewN ?_ _ | refine .drew ?_) | ((with_reducible refine .setCell ?_ ?_ _); rotate_left; focus (first | (left; simp; done) | (right; simp; (first | done | omega)))) | with_reducible (first | assumption | exact .refl _ _ | refine .trans0 ?_ ‹_›)))) (hA1.keep (by repeat (first | with_reducible (first | refine .alloc ?_ _ | refine .drewN ?_ _ | refine .drew ?_) | ((with_reducible refine .setCell ?_ ?_ _); rotate_left; focus (first | (left; simp; done) | (right; simp; (first | done | omega)))) | with_reducible (first | assumption | exact .refl _ _ | refine .trans0 ?_ ‹_›))))).mono ?_)); rintro e w2 ⟨v2, rfl, hv2⟩; obtain ⟨G2, F2', hs2, F2, k3, k4, k5, hv2t⟩ := id hv2; obtain ⟨A3, cap3, hv3⟩ := hv2t.form; subst hv3; (try (have hz3 := F2.at_ (alloc_heap_new _ _) (fun h => by have := HG1 _ h; omega); obtain ⟨z0, z1, z2, z3, z4, z5⟩ := blk4 hz3)); have F03 : Frm G W w2 := Frm.trans' (Frm.mono (F := []) (by repeat (first | with_reducible (first | refine .alloc ?_ _ | refine .drewN ?_ _ | refine .drew ?_) | ((with_reducible refine .setCell ?_ ?_ _); rotate_left; focus (first | (left; simp; done) | (right; simp; (first | done | omega)))) | with_reducible (first | assumption | exact .refl _ _ | refine .trans0 ?_ ‹_›))) (by simp)) F2; clear hs2 F2 k3 k4 k5 hv2t; dsimp only)
      refine hK.out _ _ (fun _ => ?rgnS5) (fun hH => ?rgnB5)
      case rgnS5 => (first | (dsimp only; (first | exact (by repeat (first | with_reducible (first | refine .alloc ?_ _ | refine .drewN ?_ _ | refine .drew ?_) | ((with_reducible refine .setCell ?_ ?_ _); rotate_left; focus (first | (left; simp; done) | (right; simp; (first | done | omega)))) | with_reducible (first | assumption | exact .refl _ _ | refine .trans0 ?_ ‹_›))) | exact F03 | exact F03.alloc _)) | (first | exact (by repeat (first | with_reducible (first | refine .alloc ?_ _ | refine .drewN ?_ _ | refine .drew ?_) | ((with_reducible refine .setCell ?_ ?_ _); rotate_left; focus (first | (left; simp; done) | (right; simp; (first | done | omega)))) | with_reducible (first | assumption | exact .refl _ _ | refine .trans0 ?_ ‹_›))) | exact F03 | exact F03.alloc _))
      case' rgnB5 => ((try clear hHeld); have hHeld := hH (by decide); clear hH)
      clear hK K'
      try simp only [Act.put, List.setIfInBounds_toArray, List.set_cons_zero, List.set_cons_succ]
      refine Pend.start [6, 7, 8] ?_
      iterate 3 (refine tkl (v := ?_) rfl (by kernel_rfl) (by rfl) (fun _ _ _ h => h) ?_ ?_; rotate_left; (focus (intro wq hSw; go_simp; (first | done | with_reducible rfl))); try simp only [Act.put, List.setIfInBounds_toArray, List.set_cons_zero, List.set_cons_succ])
      refine Pend.done ?_
      refine one 10 (by kernel_rfl) rfl (fun K' hK => ?_)
      go_simp
      refine hK.out _ _ (fun h => absurd h (by decide)) (fun _ => ?_)
      clear hK K'
      try simp only [Act.put, List.setIfInBounds_toArray, List.set_cons_zero, List.set_cons_succ]
      refine Pend.start [11] ?_
      (refine tkl (v := ?_) rfl (by kernel_rfl) (by rfl) (fun _ _ _ h => h) ?_ ?_; rotate_left; (focus (intro wq hSw; go_simp; (first | done | with_reducible rfl))); try simp only [Act.put, List.setIfInBounds_toArray, List.set_cons_zero, List.set_cons_succ])
      refine Pend.done ?_
      refine wpAnyU_done (by kernel_rfl) ?_ _
      (go_wp2; go_meet; (first | exact CopyMid.before HG1 (by repeat (first | with_reducible (first | refine .alloc ?_ _ | refine .drewN ?_ _ | refine .drew ?_) | ((with_reducible refine .setCell ?_ ?_ _); rotate_left; focus (first | (left; simp; done) | (right; simp; (first | done | omega)))) | with_reducible (first | assumption | exact .refl _ _ | refine .trans0 ?_ ‹_›))) (by simp) hv2 (alloc_heap_new _ _) rfl | exact CopyMid.behind (by repeat (first | with_reducible (first | refine .alloc ?_ _ | refine .drewN ?_ _ | refine .drew ?_) | ((with_reducible refine .setCell ?_ ?_ _); rotate_left; focus (first | (left; simp; done) | (right; simp; (first | done | omega)))) | with_reducible (first | assumption | exact .refl _ _ | refine .trans0 ?_ ‹_›))) hv2 rfl))
  case rest =>
    obtain ⟨xb, G2, F2', rfl, rfl, hs2, FX, k3, k4, k5, hxb, A3, cap3, hbx, hv3⟩ := hcut
    have hszW := HSZ.out
    have hb0c := FX.at_ hb0 hgbG
    have hb2c := FX.at_ hb2 (fun h => by have := HG _ h; omega)
    have hlc := (hl.frm0 FW).frm FX hlG
    have FwX : Frm G w wc := (FW.mono (by simp)).trans' FX
    have hlbW := Nat.lt_of_lt_of_le hl.lt FW.size
    have hszc := FX.size
    have TOX : StoreTo G ((w.heap.size + 1) :: F) W wc sb q.2.2 := ⟨G2, F2', hs2, FX, k3, k4, k5⟩
    clear p0 p1 p2 s0 s1 s2 s3 hszW
    obtain ⟨y0, y1, y2, y3, y4⟩ := blk3 hb2c
    obtain ⟨p0, p1, p2⟩ := blk2 hb0c
    by_cases ha : q.2.1 = 0
    · have ha' : (q.2.1 != 0) = false := by simpa using ha
      have HT2 : Hid (R = q.2.2.matchT l [b] [q.1]) := by show _ = _; rw [HT.out, if_pos ha]
      clear ha HT
      have hlbG2 : lb ∉ G2 := fun h => (k5 _ h).elim hlG (fun h => by omega)
      have hs1G2 : w.heap.size + 1 ∉ G2 := fun h => (k5 _ h).elim (fun h => by have := HG _ h; omega) (fun h => by have := HSZ.out; omega)
      have HE := Lib.hid (fun w1 cap A h1 h2 h3 => goal_equal G2 F2' sb lb l q.2.2 b q.1 A cap w1 h1 hlbG2 h2 h3)
      generalize q.2.2.matchT l [b] [q.1] = r at *
      obtain ⟨r1, r2, r3, st'⟩ := r
      dsimp only at HE
      have hF2' := hs2.lt
      have hBc : TermV F2' wc b (.agg #[.int .i64 b.kind, .int .i64 b.n, .string b.s, .slice A2 b.kids.length c2]) := ((hB.away (F' := (w.heap.size + 1) :: F) (new_one (by omega))).keep FW).over (fun b hb => List.mem_cons_of_mem _ (hGF b hb)) FX k3 k4
      have t0 := (FwX.cell hgg hgG).trans d0
      have t1 := (FwX.cell hgg hgG).trans d1
      have t2 := (FwX.cell hgg hgG).trans d2
      have t3 := (FwX.cell hgg hgG).trans d3
      obtain ⟨x0, x1, x2, x3, x4, x5⟩ := blk4 hbx
      have hgc := Nat.lt_of_lt_of_le hgg FwX.size
      have hgbc := Nat.lt_of_lt_of_le hgbW FX.size
      have hxbc : xb < wc.heap.size := (Array.getElem?_eq_some_iff.1 hbx).1
      go_upto_region 4 with (fail)
      refine wp_region_U (fun w' => Frm [] wc w') (fun i => Nat.blt i 6) (by kernel_rfl) ?rgnS6 (fun hHeld => ?rgnB6)
      case rgnS6 => (first | (dsimp only; exact (by repeat (first | with_reducible (first | refine .alloc ?_ _ | refine .drewN ?_ _ | refine .drew ?_) | ((with_reducible refine .setCell ?_ ?_ _); rotate_left; focus (first | (left; simp; done) | (right; simp; (first | done | omega)))) | with_reducible (first | assumption | exact .refl _ _ | refine .trans0 ?_ ‹_›)))) | exact (by repeat (first | with_reducible (first | refine .alloc ?_ _ | refine .drewN ?_ _ | refine .drew ?_) | ((with_reducible refine .setCell ?_ ?_ _); rotate_left; focus (first | (left; simp; done) | (right; simp; (first | done | omega)))) | with_reducible (first | assumption | exact .refl _ _ | refine .trans0 ?_ ‹_›))))
      case' rgnB6 => skip
      refine Pend.start [0, 1, 2, 3, 4] ?_
      iterate 5 (refine tk (v := ?_) rfl (by kernel_rfl) (by rfl) (fun _ _ _ h => h) (by assumption) ?_ ?_; rotate_left; (focus (intro wq hSw; (try dsimp only at hSw); have P0 := (hSw.cell hgbc (by simp)).trans p0; have P1 := (hSw.cell hgbc (by simp)).trans p1; have S0 := (hSw.cell hgc (by simp)).trans t0; have S1 := (hSw.cell hgc (by simp)).trans t1; have S2 := (hSw.cell hgc (by simp)).trans t2; have S3 := (hSw.cell hgc (by simp)).trans t3; have X0 := (hSw.cell hxbc (by simp)).trans x0; have X1 := (hSw.cell hxbc (by simp)).trans x1; have X2 := (hSw.cell hxbc (by simp)).trans x2; have X3 := (hSw.cell hxbc (by simp)).trans x3; go_simp; (first | done | with_reducible rfl))); try simp only [Act.put, List.setIfInBounds_toArray, List.set_cons_zero, List.set_cons_succ])
      refine Pend.done ?_
      refine one 5 (by kernel_rfl) rfl (fun K' hK => ?_)
      (rw [if_pos (by rfl)]; go_simp)
      refine hK.out _ _ (fun _ => ?rgnS7) (fun hH => ?rgnB7)
      case rgnS7 => (first | (dsimp only; exact (by repeat (first | with_reducible (first | refine .alloc ?_ _ | refine .drewN ?_ _ | refine .drew ?_) | ((with_reducible refine .setCell ?_ ?_ _); rotate_left; focus (first | (left; simp; done) | (right; simp; (first | done | omega)))) | with_reducible (first | assumption | exact .refl _ _ | refine .trans0 ?_ ‹_›)))) | exact (by repeat (first | with_reducible (first | refine .alloc ?_ _ | refine .drewN ?_ _ | refine .drew ?_) | ((with_reducible refine .setCell ?_ ?_ _); rotate_left; focus (first | (left; simp; done) | (right; simp; (first | done | omega)))) | with_reducible (first | assumption | exact .refl _ _ | refine .trans0 ?_ ‹_›))))
      case' rgnB7 => ((try clear hHeld); have hHeld := hH (by decide); clear hH)
      clear hK K'
      try simp only [Act.put, List.setIfInBounds_toArray, List.set_cons_zero, List.set_cons_succ]
      refine one 6 (by kernel_rfl) rfl (fun K' hK => ?_)
      (go_simp; refine (HE.out _ _ _ ?_ ?_ ?_).mono ?_; (focus exact hlc.frm0 (by repeat (first | with_reducible (first | refine .alloc ?_ _ | refine .drewN ?_ _ | refine .drew ?_) | ((with_reducible refine .setCell ?_ ?_ _); rotate_left; focus (first | (left; simp; done) | (right; simp; (first | done | omega)))) | with_reducible (first | assumption | exact .refl _ _ | refine .trans0 ?_ ‹_›)))); (focus exact hs2.keep (by repeat (first | with_reducible (first | refine .alloc ?_ _ | refine .drewN ?_ _ | refine .drew ?_) | ((with_reducible refine .setCell ?_ ?_ _); rotate_left; focus (first | (left; simp; done) | (right; simp; (first | done | omega)))) | with_reducible (first | assumption | exact .refl _ _ | refine .trans0 ?_ ‹_›)))); (focus exact krow2 (b := wc.heap.size) (alloc_heap_new wc _) (fun h => by have := hF2' _ h; omega) (hBc.keep (by repeat (first | with_reducible (first | refine .alloc ?_ _ | refine .drewN ?_ _ | refine .drew ?_) | ((with_reducible refine .setCell ?_ ?_ _); rotate_left; focus (first | (left; simp; done) | (right; simp; (first | done | omega)))) | with_reducible (first | assumption | exact .refl _ _ | refine .trans0 ?_ ‹_›)))) (hv3.keep (by repeat (first | with_reducible (first | refine .alloc ?_ _ | refine .drewN ?_ _ | refine .drew ?_) | ((with_reducible refine .setCell ?_ ?_ _); rotate_left; focus (first | (left; simp; done) | (right; simp; (first | done | omega)))) | with_reducible (first | assumption | exact .refl _ _ | refine .trans0 ?_ ‹_›))))); rintro e w6 ⟨rfl, TO⟩; obtain ⟨G6, F6', hs6, F6, m3, m4, m5⟩ := id TO; have hb6 := F6.at_ (Frm.at0 (by repeat (first | with_reducible (first | refine .alloc ?_ _ | refine .drewN ?_ _ | refine .drew ?_) | ((with_reducible refine .setCell ?_ ?_ _); rotate_left; focus (first | (left; simp; done) | (right; simp; (first | done | omega)))) | with_reducible (first | assumption | exact .refl _ _ | refine .trans0 ?_ ‹_›))) hb2c) hs1G2; obtain ⟨z0, z1, z2, z3, z4⟩ := blk3 hb6; simp only [toldV])
      refine hK.out _ _ (fun h => absurd h (by decide)) (fun _ => ?_)
      clear hK K'
      try simp only [Act.put, List.setIfInBounds_toArray, List.set_cons_zero, List.set_cons_succ]
      refine one 7 (by kernel_rfl) rfl (fun K' hK => ?_)
      go_simp
      refine hK.out _ _ (fun h => absurd h (by decide)) (fun _ => ?_)
      clear hK K'
      try simp only [Act.put, List.setIfInBounds_toArray, List.set_cons_zero, List.set_cons_succ]
      refine wpAnyU_done (by kernel_rfl) ?_ _
      go_wp2
      obtain ⟨hz1, hz2⟩ := told_store hb6 (.bool r1) (.int .i64 r2) (.int .i64 r3)
      generalize World.setCell (World.setCell _ _ _) _ _ = W5 at *
      obtain ⟨r0, r1', r2', r3', r4⟩ := blk3 hz1
      refine bodyPost_ret (v := toldV R) (by simp [toldV, results, Try.results41, go_sem, r0, r1', r2', HT2.out]) rfl ?_
      refine ⟨rfl, ?_⟩
      rw [HT2.out]
      have hszW := HSZ.out
      refine StoreTo.wrap (wc := W) (F1 := (w.heap.size + 1) :: F) HG (StoreTo.from (G1 := G2) (F1 := F2') ((StoreTo.after TO (by repeat (first | with_reducible (first | refine .alloc ?_ _ | refine .drewN ?_ _ | refine .drew ?_) | ((with_reducible refine .setCell ?_ ?_ _); rotate_left; focus (first | (left; simp; done) | (right; simp; (first | done | omega)))) | with_reducible (first | assumption | exact .refl _ _ | refine .trans0 ?_ ‹_›))))) FX k3 k4 k5) FW hz2 (fun b hb => by rw [List.mem_singleton.1 hb]; exact ⟨by omega, by omega, by simp⟩) (fun b hb => List.mem_cons_of_mem _ hb) (new_one (by omega))
    · have ha' : (q.2.1 != 0) = true := by simpa using ha
      have HT2 : Hid (R = (false, l.bottom, q.2.1, q.2.2)) := by show _ = _; rw [HT.out, if_neg ha]
      clear ha HT
      go_wp2_with (go_at_call 21; refine (lat_bottom l lb _ (hlc.frm0 (by repeat (first | with_reducible (first | refine .alloc ?_ _ | refine .drewN ?_ _ | refine .drew ?_) | ((with_reducible refine .setCell ?_ ?_ _); rotate_left; focus (first | (left; simp; done) | (right; simp; (first | done | omega)))) | with_reducible (first | assumption | exact .refl _ _ | refine .trans0 ?_ ‹_›))))).mono ?_; rintro e w' ⟨rfl, rfl⟩)
      obtain ⟨hz1, hz2⟩ := told_store hb2c (.bool false) (.int .i64 l.bottom) (.int .i64 q.2.1)
      generalize World.setCell (World.setCell _ _ _) _ _ = W5 at *
      obtain ⟨r0, r1, r2, r3, r4⟩ := blk3 hz1
      refine bodyPost_ret (v := toldV R) (by simp [toldV, results, Try.results41, go_sem, r0, r1, r2, HT2.out]) rfl ?_
      refine ⟨rfl, ?_⟩
      rw [HT2.out]
      have hszW := HSZ.out
      exact StoreTo.wrap HG TOX FW hz2 (fun b hb => by rw [List.mem_singleton.1 hb]; exact ⟨by omega, by omega, by simp⟩) (fun b hb => List.mem_cons_of_mem _ hb) (new_one (by omega))
end Go.Proofs.Ytkiofaojokofbaa
namespace Go.Proofs.Ytkiofaojokofbaa
open Go.RowKit

noncomputable def PStore.isT (l : Lat) (st : PStore) (a b : Term) : Bool × Int × Int × PStore :=
  if (evalS l st b).2.2 = 0 then
    ((st.matchT l [a] [Term.num (evalS l st b).1]).1, l.join (st.matchT l [a] [Term.num (evalS l st b).1]).2.1 (evalS l st b).2.1, (st.matchT l [a] [Term.num (evalS l st b).1]).2.2)
  else (false, (evalS l st b).2.1, (evalS l st b).2.2, st)

def IsMid (G F : List Nat) (W : World) (sb : Nat) (r : Bool × Int × Int × PStore) (x8 : Value) (wx : World) : Prop :=
  ∃ xb G' F', x8 = .pointer (some ⟨xb, 0, none⟩) ∧ StoreAt G' F' wx sb r.2.2.2 ∧ Frm G W wx ∧ (∀ b, b ∈ F → b ∈ F') ∧ (∀ b, b ∈ F' → b ∈ F ∨ W.heap.size ≤ b) ∧ (∀ b, b ∈ G' → b ∈ G ∨ W.heap.size ≤ b) ∧ xb ∈ F' ∧ xb ∉ G' ∧ W.heap.size ≤ xb ∧
    wx.heap[xb]? = some (.cells #[.bool r.1, .int .i64 r.2.1, .int .i64 r.2.2.1] 59 (0, 0))
theorem IsMid.before {G F : List Nat} {W w2 w3 : World} {sb xb : Nat} {r : Bool × Int × Int × PStore} (HG : ∀ b, b ∈ G → b < W.heap.size) (hxb : W.heap.size ≤ xb) (hlt : xb < w2.heap.size) (f0 : Frm [] W w2) (h : StoreTo G (xb :: F) w2 w3 sb r.2.2.2)
    (hb3 : w3.heap[xb]? = some (.cells #[.bool false, .int .i64 0, .int .i64 0] 59 (0, 0))) :
    IsMid G F W sb r (.pointer (some ⟨xb, 0, none⟩)) (((w3.setCell ⟨xb, 0, none⟩ (.bool r.1)).setCell ⟨xb, 1, none⟩ (.int .i64 r.2.1)).setCell ⟨xb, 2, none⟩ (.int .i64 r.2.2.1)) := by
  obtain ⟨G', F', h1, h2, h3, h4, h5⟩ := h
  obtain ⟨hz1, F4⟩ := told_store hb3 (.bool r.1) (.int .i64 r.2.1) (.int .i64 r.2.2.1)
  have hsz := f0.size
  have hnot : xb ∉ G' := fun h => (h5 _ h).elim (fun h => by have := HG _ h; omega) (fun h => by omega)
  refine ⟨xb, G', F', rfl, h1.frm F4 (fun b hb => by rw [List.mem_singleton.1 hb]; exact hnot) (fun b hb => by rw [List.mem_singleton.1 hb]; exact h3 _ (by simp)), ((f0.mono (by simp)).trans' h2).trans F4 (fun b hb => by rw [List.mem_singleton.1 hb]; exact .inr hxb),
    fun b hb => h3 b (List.mem_cons_of_mem _ hb), fun b hb => ?_, fun b hb => (h5 b hb).imp id (fun h => by omega), h3 _ (by simp), hnot, hxb, hz1⟩
  rcases h4 b hb with h | h
  · rcases List.mem_cons.1 h with rfl | h
    · exact .inr hxb
    · exact .inl h
  · exact .inr (by omega)
theorem IsMid.behind {G F : List Nat} {W w2 w3 : World} {sb : Nat} {r : Bool × Int × Int × PStore} (f0 : Frm [] W w2) (h : StoreTo G F w2 w3 sb r.2.2.2) :
    IsMid G F W sb r (.pointer (some ⟨w3.heap.size, 0, none⟩)) (w3.alloc (.cells #[.bool r.1, .int .i64 r.2.1, .int .i64 r.2.2.1] 59)) := by
  obtain ⟨G', F', h1, h2, h3, h4, h5⟩ := h
  have hsz := f0.size
  have hsz2 := h2.size
  have hlt := h1.lt
  refine ⟨w3.heap.size, G', w3.heap.size :: F', rfl, h1.more (H := []) (by repeat (first | with_reducible (first | refine .alloc ?_ _ | refine .drewN ?_ _ | refine .drew ?_) | ((with_reducible refine .setCell ?_ ?_ _); rotate_left; focus (first | (left; simp; done) | (right; simp; (first | done | omega)))) | with_reducible (first | assumption | exact .refl _ _ | refine .trans0 ?_ ‹_›))) (by simp) (by simp) (new_one (Nat.le_refl _)) (fun b hb => by simp [hb]) (lt_one hlt (by simp) (by simp)), ((f0.mono (by simp)).trans' h2).alloc _, fun b hb => List.mem_cons_of_mem _ (h3 b hb), fun b hb => ?_, fun b hb => (h5 b hb).imp id (fun h => by omega), by simp, fun h => ?_, by omega, alloc_heap_new _ _⟩
  · rcases List.mem_cons.1 hb with rfl | hb
    · exact .inr (by omega)
    · exact (h4 b hb).imp id (fun h => by omega)
  · have := hlt _ (h1.sub _ h); omega

set_option maxRecDepth 100000 in
set_option maxHeartbeats 2000000 in
theorem goal_is (G F : List Nat) (sb lb : Nat) (l : Lat) (st : PStore) (a b : Term) (A : Option Addr) (cap : Nat) (w : World) (hl : LatAt w lb l) (hlG : lb ∉ G) (hs : StoreAt G F w sb st) (hk : KidsV F w [a, b] A 0) :
    Calls Try.prog 35 #[.agg #[.pointer (some ⟨sb, 0, none⟩), .pointer (some ⟨lb, 0, none⟩)], .slice A 2 cap] w fun e w' => e = .returned (toldV (st.isT l a b)) ∧ StoreTo G F w w' sb (st.isT l a b).2.2.2 := by
  have hF := hs.lt
  have hGF := hs.sub
  have HG : ∀ b, b ∈ G → b < w.heap.size := fun b hb => hF b (hGF b hb)
  obtain ⟨g, off, A1, c1, A2, c2, rfl, hgg, hgF, e0, e1, e2, e3, d0, d1, d2, d3, hA, hB⟩ := hk.pair
  have hgG : g ∉ G := fun h => hgF (hGF g h)
  have HE1 := Lib.hid (fun w1 => arith_EvalI l st G F sb lb b (.agg #[.int .i64 b.kind, .int .i64 b.n, .string b.s, .slice A2 b.kids.length c2]) w1)
  have HT : Hid (st.isT l a b = if (evalS l st b).2.2 = 0 then
    ((st.matchT l [a] [Term.num (evalS l st b).1]).1, l.join (st.matchT l [a] [Term.num (evalS l st b).1]).2.1 (evalS l st b).2.1, (st.matchT l [a] [Term.num (evalS l st b).1]).2.2)
    else (false, (evalS l st b).2.1, (evalS l st b).2.2, st)) := rfl
  generalize st.isT l a b = R at *
  generalize evalS l st b = q at *
  obtain ⟨n, lev, eb⟩ := q
  dsimp only at HE1 HT
  go_enter Try.func35, Try.ntmps35
  go_upto_region 1 with (fail)
  generalize hW : World.alloc _ _ = W
  have hb0 : W.heap[w.heap.size]? = some (.cells #[.pointer (some ⟨sb, 0, none⟩), .pointer (some ⟨lb, 0, none⟩)] 54 (0, 0)) := by subst hW; exact (by repeat (first | rw [heap_alloc_at] | rw [heap_size_alloc] | rfl | rw [if_pos (by omega)] | rw [if_neg (by omega)]))
  have hb2 : W.heap[w.heap.size + 1]? = some (.cells #[.bool false, .int .i64 0, .int .i64 0] 59 (0, 0)) := by subst hW; exact (by repeat (first | rw [heap_alloc_at] | rw [heap_size_alloc] | rfl | rw [if_pos (by omega)] | rw [if_neg (by omega)]))
  have FW : Frm [] w W := by subst hW; exact (by repeat (first | with_reducible (first | refine .alloc ?_ _ | refine .drewN ?_ _ | refine .drew ?_) | ((with_reducible refine .setCell ?_ ?_ _); rotate_left; focus (first | (left; simp; done) | (right; simp; (first | done | omega)))) | with_reducible (first | assumption | exact .refl _ _ | refine .trans0 ?_ ‹_›)))
  have hszW : W.heap.size = w.heap.size + 1 + 1 := by subst hW; simp
  clear hW
  obtain ⟨p0, p1, p2, hgbW⟩ := blk2 hb0
  have s0 := (FW.cell hgg (by simp)).trans d0
  have s1 := (FW.cell hgg (by simp)).trans d1
  have s2 := (FW.cell hgg (by simp)).trans d2
  have s3 := (FW.cell hgg (by simp)).trans d3
  have hggW := Nat.lt_of_lt_of_le hgg FW.size
  have HSZ := Lib.hid hszW
  clear hszW
  refine wp_region_U (fun w' => Frm [] W w') (fun i => Nat.blt i 7) (by kernel_rfl) ?rgnS1 (fun hHeld => ?rgnB1)
  case rgnS1 => (first | (dsimp only; exact (by repeat (first | with_reducible (first | refine .alloc ?_ _ | refine .drewN ?_ _ | refine .drew ?_) | ((with_reducible refine .setCell ?_ ?_ _); rotate_left; focus (first | (left; simp; done) | (right; simp; (first | done | omega)))) | with_reducible (first | assumption | exact .refl _ _ | refine .trans0 ?_ ‹_›)))) | exact (by repeat (first | with_reducible (first | refine .alloc ?_ _ | refine .drewN ?_ _ | refine .drew ?_) | ((with_reducible refine .setCell ?_ ?_ _); rotate_left; focus (first | (left; simp; done) | (right; simp; (first | done | omega)))) | with_reducible (first | assumption | exact .refl _ _ | refine .trans0 ?_ ‹_›))))
  case' rgnB1 => skip
  refine Pend.start [0, 1, 2, 3, 4, 5, 6] ?_
  iterate 7 (refine tk (v := ?_) rfl (by kernel_rfl) (by rfl) (fun _ _ _ h => h) (by assumption) ?_ ?_; rotate_left; (focus (intro wq hSw; (try dsimp only at hSw); have P0 := (hSw.cell hgbW (by simp)).trans p0; have P1 := (hSw.cell hgbW (by simp)).trans p1; have S0 := (hSw.cell hggW (by simp)).trans s0; have S1 := (hSw.cell hggW (by simp)).trans s1; have S2 := (hSw.cell hggW (by simp)).trans s2; have S3 := (hSw.cell hggW (by simp)).trans s3; go_simp; (first | done | with_reducible rfl))); try simp only [Act.put, List.setIfInBounds_toArray, List.set_cons_zero, List.set_cons_succ])
  refine Pend.done ?_
  refine one 7 (by kernel_rfl) rfl (fun K' hK => ?_)
  (go_simp; refine (HE1.out _ ((hl.frm0 FW).frm0 (by repeat (first | with_reducible (first | refine .alloc ?_ _ | refine .drewN ?_ _ | refine .drew ?_) | ((with_reducible refine .setCell ?_ ?_ _); rotate_left; focus (first | (left; simp; done) | (right; simp; (first | done | omega)))) | with_reducible (first | assumption | exact .refl _ _ | refine .trans0 ?_ ‹_›)))) ((hs.keep FW).keep (by repeat (first | with_reducible (first | refine .alloc ?_ _ | refine .drewN ?_ _ | refine .drew ?_) | ((with_reducible refine .setCell ?_ ?_ _); rotate_left; focus (first | (left; simp; done) | (right; simp; (first | done | omega)))) | with_reducible (first | assumption | exact .refl _ _ | refine .trans0 ?_ ‹_›)))) ((hB.keep FW).keep (by repeat (first | with_reducible (first | refine .alloc ?_ _ | refine .drewN ?_ _ | refine .drew ?_) | ((with_reducible refine .setCell ?_ ?_ _); rotate_left; focus (first | (left; simp; done) | (right; simp; (first | done | omega)))) | with_reducible (first | assumption | exact .refl _ _ | refine .trans0 ?_ ‹_›))))).mono ?_; rintro e w2 ⟨rfl, F2, hn⟩; have F02 : Frm [] W w2 := Frm.trans0 (by repeat (first | with_reducible (first | refine .alloc ?_ _ | refine .drewN ?_ _ | refine .drew ?_) | ((with_reducible refine .setCell ?_ ?_ _); rotate_left; focus (first | (left; simp; done) | (right; simp; (first | done | omega)))) | with_reducible (first | assumption | exact .refl _ _ | refine .trans0 ?_ ‹_›))) F2; dsimp only)
  refine hK.out _ _ (fun h => absurd h (by decide)) (fun _ => ?_)
  clear hK K'
  try simp only [Act.put, List.setIfInBounds_toArray, List.set_cons_zero, List.set_cons_succ]
  refine Pend.start [8, 9, 10, 11, 12, 13, 14] ?_
  iterate 7 (refine tkl (v := ?_) rfl (by kernel_rfl) (by rfl) (fun _ _ _ h => h) ?_ ?_; rotate_left; (focus (intro wq hSw; go_simp; (first | done | with_reducible rfl))); try simp only [Act.put, List.setIfInBounds_toArray, List.set_cons_zero, List.set_cons_succ])
  refine Pend.done ?_
  refine wpAnyU_done (by kernel_rfl) ?_ _
  skip
  have FW2 := FW.trans0 F02
  have hb0c := F02.at0 hb0
  have hb2c := F02.at0 hb2
  clear p0 p1 p2 s0 s1 s2 s3 hHeld
  obtain ⟨y0, y1, y2, y3, y4⟩ := blk3 hb2c
  obtain ⟨p0, p1, p2⟩ := blk2 hb0c
  by_cases ha : eb = 0
  · have ha' : (eb != 0) = false := by simpa using ha
    have HT2 : Hid (R = ((st.matchT l [a] [Term.num n]).1, l.join (st.matchT l [a] [Term.num n]).2.1 lev, (st.matchT l [a] [Term.num n]).2.2)) := by show _ = _; rw [HT.out, if_pos ha]
    clear ha HT
    have hF1 : ∀ b, b ∈ (w.heap.size + 1) :: F → b < w2.heap.size := fun b hb => Nat.lt_of_lt_of_le (lt_one hF (by have := HSZ.out; omega) FW.size b hb) F02.size
    have hs1 : StoreAt G ((w.heap.size + 1) :: F) w2 sb st := hs.more FW2 (by simp) (by simp) (new_one (by omega)) (fun b hb => by simp [hb]) hF1
    have hA1 := (hA.away (F' := (w.heap.size + 1) :: F) (new_one (by omega))).keep FW2
    have hlc := hl.frm0 FW2
    have HG2 : ∀ b, b ∈ G → b < w2.heap.size := fun b hb => Nat.lt_of_lt_of_le (HG b hb) FW2.size
    have HE := Lib.hid (fun F w1 cap A h1 h2 h3 => goal_equal G F sb lb l st a (Term.num n) A cap w1 h1 hlG h2 h3)
    have HNUM := Lib.hid (fun F w1 => (TermV.leaf F w1 (k := 2) (s := ⟨#[]⟩) (by unfold I64; omega) hn (by decide) : TermV F w1 (Term.num n) _))
    generalize st.matchT l [a] [Term.num n] = r at *
    have t0 := (FW2.cell hgg (by simp)).trans e0
    have t1 := (FW2.cell hgg (by simp)).trans e1
    have t2 := (FW2.cell hgg (by simp)).trans e2
    have t3 := (FW2.cell hgg (by simp)).trans e3
    have hgc := Nat.lt_of_lt_of_le hgg FW2.size
    have hgbc := Nat.lt_of_lt_of_le hgbW F02.size
    have hgbG : w.heap.size ∉ G := fun h => by have := HG _ h; omega
    rename World => V
    go_upto_region 4 with (fail)
    go_cut [8] (fun x8 wx => IsMid G ((w.heap.size + 1) :: F) V sb r x8 wx)
    case first =>
      refine wp_region_U (fun w' => Frm G V w') (fun i => List.contains [0, 1, 2, 3, 4, 5, 6, 8] i) (by kernel_rfl) ?rgnS2 (fun hHeld => ?rgnB2)
      case rgnS2 => (first | (dsimp only; (first | exact FK.alloc _ | exact (by repeat (first | with_reducible (first | refine .alloc ?_ _ | refine .drewN ?_ _ | refine .drew ?_) | ((with_reducible refine .setCell ?_ ?_ _); rotate_left; focus (first | (left; simp; done) | (right; simp; (first | done | omega)))) | with_reducible (first | assumption | exact .refl _ _ | refine .trans0 ?_ ‹_›))))) | (first | exact FK.alloc _ | exact (by repeat (first | with_reducible (first | refine .alloc ?_ _ | refine .drewN ?_ _ | refine .drew ?_) | ((with_reducible refine .setCell ?_ ?_ _); rotate_left; focus (first | (left; simp; done) | (right; simp; (first | done | omega)))) | with_reducible (first | assumption | exact .refl _ _ | refine .trans0 ?_ ‹_›)))))
      case' rgnB2 => skip
      refine Pend.start [0, 1, 2, 3, 4] ?_
      iterate 5 (refine tk (v := ?_) rfl (by kernel_rfl) (by rfl) (fun _ _ _ h => h) (by assumption) ?_ ?_; rotate_left; (focus (intro wq hSw; (try dsimp only at hSw); have P0 := (hSw.cell hgbc hgbG).trans p0; have P1 := (hSw.cell hgbc hgbG).trans p1; have S0 := (hSw.cell hgc hgG).trans t0; have S1 := (hSw.cell hgc hgG).trans t1; have S2 := (hSw.cell hgc hgG).trans t2; have S3 := (hSw.cell hgc hgG).trans t3; go_simp; (first | done | with_reducible rfl))); try simp only [Act.put, List.setIfInBounds_toArray, List.set_cons_zero, List.set_cons_succ])
      refine Pend.done ?_
      refine two 5 8 (by kernel_rfl) rfl rfl (fun K' hK => ?_) (fun K' hK => ?_)
      · skip
        (go_simp; refine (term_num n _).mono ?_; rintro e w3 ⟨rfl, F3⟩; (try (have hz3 := F3.at0 (alloc_heap_new _ _))); have hsz3 := F3.size; (try simp at hsz3); have F03 : Frm [] V w3 := Frm.trans0 (by repeat (first | with_reducible (first | refine .alloc ?_ _ | refine .drewN ?_ _ | refine .drew ?_) | ((with_reducible refine .setCell ?_ ?_ _); rotate_left; focus (first | (left; simp; done) | (right; simp; (first | done | omega)))) | with_reducible (first | assumption | exact .refl _ _ | refine .trans0 ?_ ‹_›))) F3; have hsz03 := F03.size; dsimp only)
        refine hK.out _ _ (fun _ => ?rgnS3) (fun hH => ?rgnB3)
        case rgnS3 => (first | (dsimp only; (first | exact FK.alloc _ | exact (by repeat (first | with_reducible (first | refine .alloc ?_ _ | refine .drewN ?_ _ | refine .drew ?_) | ((with_reducible refine .setCell ?_ ?_ _); rotate_left; focus (first | (left; simp; done) | (right; simp; (first | done | omega)))) | with_reducible (first | assumption | exact .refl _ _ | refine .trans0 ?_ ‹_›))))) | (first | exact FK.alloc _ | exact (by repeat (first | with_reducible (first | refine .alloc ?_ _ | refine .drewN ?_ _ | refine .drew ?_) | ((with_reducible refine .setCell ?_ ?_ _); rotate_left; focus (first | (left; simp; done) | (right; simp; (first | done | omega)))) | with_reducible (first | assumption | exact .refl _ _ | refine .trans0 ?_ ‹_›)))))
        case' rgnB3 => ((try clear hHeld); have hHeld := hH (by decide); clear hH)
        clear hK K'
        try simp only [Act.put, List.setIfInBounds_toArray, List.set_cons_zero, List.set_cons_succ]
        refine two 6 8 (by kernel_rfl) rfl rfl (fun K' hK => ?_) (fun K' hK => ?_)
        · skip
          (rw [if_pos (by rfl)]; go_simp)
          refine hK.out _ _ (fun _ => ?rgnS4) (fun hH => ?rgnB4)
          case rgnS4 => (first | (dsimp only; (first | exact FK.alloc _ | exact (by repeat (first | with_reducible (first | refine .alloc ?_ _ | refine .drewN ?_ _ | refine .drew ?_) | ((with_reducible refine .setCell ?_ ?_ _); rotate_left; focus (first | (left; simp; done) | (right; simp; (first | done | omega)))) | with_reducible (first | assumption | exact .refl _ _ | refine .trans0 ?_ ‹_›))))) | (first | exact FK.alloc _ | exact (by repeat (first | with_reducible (first | refine .alloc ?_ _ | refine .drewN ?_ _ | refine .drew ?_) | ((with_reducible refine .setCell ?_ ?_ _); rotate_left; focus (first | (left; simp; done) | (right; simp; (first | done | omega)))) | with_reducible (first | assumption | exact .refl _ _ | refine .trans0 ?_ ‹_›)))))
          case' rgnB4 => ((try clear hHeld); have hHeld := hH (by decide); clear hH)
          clear hK K'
          try simp only [Act.put, List.setIfInBounds_toArray, List.set_cons_zero, List.set_cons_succ]
          refine two 7 8 (by kernel_rfl) rfl rfl (fun K' hK => ?_) (fun K' hK => ?_)
          · skip
            (go_simp; (first | (have hq := hz3; (with_reducible refine (HE.out (V.heap.size :: (w.heap.size + 1) :: F) (World.alloc w3 _) _ (some ⟨w3.heap.size, 0, none⟩) ?_ ?_ ?_).mono ?_); (focus exact hlc.frm0 (by repeat (first | with_reducible (first | refine .alloc ?_ _ | refine .drewN ?_ _ | refine .drew ?_) | ((with_reducible refine .setCell ?_ ?_ _); rotate_left; focus (first | (left; simp; done) | (right; simp; (first | done | omega)))) | with_reducible (first | assumption | exact .refl _ _ | refine .trans0 ?_ ‹_›)))); (focus exact hs1.more (F' := V.heap.size :: (w.heap.size + 1) :: F) (H := []) (by repeat (first | with_reducible (first | refine .alloc ?_ _ | refine .drewN ?_ _ | refine .drew ?_) | ((with_reducible refine .setCell ?_ ?_ _); rotate_left; focus (first | (left; simp; done) | (right; simp; (first | done | omega)))) | with_reducible (first | assumption | exact .refl _ _ | refine .trans0 ?_ ‹_›))) (by simp) (by simp) (new_one (by omega)) (fun b hb => List.mem_cons_of_mem _ hb) (lt_one hF1 (by simp; omega) (by simp; omega))); (focus exact krow2 (b := w3.heap.size) (alloc_heap_new w3 _) (fun h => by rcases List.mem_cons.1 h with h | h; omega; have := hF1 _ h; omega) ((hA1.away (F' := V.heap.size :: (w.heap.size + 1) :: F) (new_one (by omega))).keep (by repeat (first | with_reducible (first | refine .alloc ?_ _ | refine .drewN ?_ _ | refine .drew ?_) | ((with_reducible refine .setCell ?_ ?_ _); rotate_left; focus (first | (left; simp; done) | (right; simp; (first | done | omega)))) | with_reducible (first | assumption | exact .refl _ _ | refine .trans0 ?_ ‹_›)))) (HNUM.out _ _)); rintro e w6 ⟨rfl, TO⟩; obtain ⟨G6, F6', hs6, F6, m3, m4, m5⟩ := id TO; have hz6 := F6.at_ (Frm.at0 (by repeat (first | with_reducible (first | refine .alloc ?_ _ | refine .drewN ?_ _ | refine .drew ?_) | ((with_reducible refine .setCell ?_ ?_ _); rotate_left; focus (first | (left; simp; done) | (right; simp; (first | done | omega)))) | with_reducible (first | assumption | exact .refl _ _ | refine .trans0 ?_ ‹_›))) hz3) (fun h => by have := HG2 _ h; omega); obtain ⟨z0, z1, z2, z3, z4⟩ := blk3 hz6) | ((with_reducible refine (HE.out (w3.heap.size :: (w.heap.size + 1) :: F) (World.alloc (World.alloc w3 _) _) _ (some ⟨w3.heap.size + 1, 0, none⟩) ?_ ?_ ?_).mono ?_); (focus exact hlc.frm0 (by repeat (first | with_reducible (first | refine .alloc ?_ _ | refine .drewN ?_ _ | refine .drew ?_) | ((with_reducible refine .setCell ?_ ?_ _); rotate_left; focus (first | (left; simp; done) | (right; simp; (first | done | omega)))) | with_reducible (first | assumption | exact .refl _ _ | refine .trans0 ?_ ‹_›)))); (focus exact hs1.more (F' := w3.heap.size :: (w.heap.size + 1) :: F) (H := []) (by repeat (first | with_reducible (first | refine .alloc ?_ _ | refine .drewN ?_ _ | refine .drew ?_) | ((with_reducible refine .setCell ?_ ?_ _); rotate_left; focus (first | (left; simp; done) | (right; simp; (first | done | omega)))) | with_reducible (first | assumption | exact .refl _ _ | refine .trans0 ?_ ‹_›))) (by simp) (by simp) (new_one (by omega)) (fun b hb => List.mem_cons_of_mem _ hb) (lt_one hF1 (by simp; omega) (by simp; omega))); (focus exact krow2 (b := w3.heap.size + 1) (by repeat (first | rw [heap_alloc_at] | rw [heap_size_alloc] | rfl | rw [if_pos (by omega)] | rw [if_neg (by omega)])) (fun h => by rcases List.mem_cons.1 h with h | h; omega; have := hF1 _ h; omega) ((hA1.away (F' := w3.heap.size :: (w.heap.size + 1) :: F) (new_one (by omega))).keep (by repeat (first | with_reducible (first | refine .alloc ?_ _ | refine .drewN ?_ _ | refine .drew ?_) | ((with_reducible refine .setCell ?_ ?_ _); rotate_left; focus (first | (left; simp; done) | (right; simp; (first | done | omega)))) | with_reducible (first | assumption | exact .refl _ _ | refine .trans0 ?_ ‹_›)))) (HNUM.out _ _)); rintro e w6 ⟨rfl, TO⟩; obtain ⟨G6, F6', hs6, F6, m3, m4, m5⟩ := id TO; have hz6 := F6.at_ (b := w3.heap.size) (o := (.cells #[.bool false, .int .i64 0, .int .i64 0] 59 (0, 0))) (by repeat (first | rw [heap_alloc_at] | rw [heap_size_alloc] | rfl | rw [if_pos (by omega)] | rw [if_neg (by omega)])) (fun h => by have := HG2 _ h; omega); obtain ⟨z0, z1, z2, z3, z4⟩ := blk3 hz6) | ((with_reducible refine (HE.out ((w3.heap.size + 1) :: (w.heap.size + 1) :: F) (World.alloc (World.alloc w3 _) _) _ (some ⟨w3.heap.size, 0, none⟩) ?_ ?_ ?_).mono ?_); (focus exact hlc.frm0 (by repeat (first | with_reducible (first | refine .alloc ?_ _ | refine .drewN ?_ _ | refine .drew ?_) | ((with_reducible refine .setCell ?_ ?_ _); rotate_left; focus (first | (left; simp; done) | (right; simp; (first | done | omega)))) | with_reducible (first | assumption | exact .refl _ _ | refine .trans0 ?_ ‹_›)))); (focus exact hs1.more (F' := (w3.heap.size + 1) :: (w.heap.size + 1) :: F) (H := []) (by repeat (first | with_reducible (first | refine .alloc ?_ _ | refine .drewN ?_ _ | refine .drew ?_) | ((with_reducible refine .setCell ?_ ?_ _); rotate_left; focus (first | (left; simp; done) | (right; simp; (first | done | omega)))) | with_reducible (first | assumption | exact .refl _ _ | refine .trans0 ?_ ‹_›))) (by simp) (by simp) (new_one (by omega)) (fun b hb => List.mem_cons_of_mem _ hb) (lt_one hF1 (by simp) (by simp; omega))); (focus exact krow2 (b := w3.heap.size) (by repeat (first | rw [heap_alloc_at] | rw [heap_size_alloc] | rfl | rw [if_pos (by omega)] | rw [if_neg (by omega)])) (fun h => by rcases List.mem_cons.1 h with h | h; omega; have := hF1 _ h; omega) ((hA1.away (F' := (w3.heap.size + 1) :: (w.heap.size + 1) :: F) (new_one (by omega))).keep (by repeat (first | with_reducible (first | refine .alloc ?_ _ | refine .drewN ?_ _ | refine .drew ?_) | ((with_reducible refine .setCell ?_ ?_ _); rotate_left; focus (first | (left; simp; done) | (right; simp; (first | done | omega)))) | with_reducible (first | assumption | exact .refl _ _ | refine .trans0 ?_ ‹_›)))) (HNUM.out _ _)); rintro e w6 ⟨rfl, TO⟩; obtain ⟨G6, F6', hs6, F6, m3, m4, m5⟩ := id TO; have hz6 := F6.at_ (b := w3.heap.size + 1) (o := (.cells #[.bool false, .int .i64 0, .int .i64 0] 59 (0, 0))) (by repeat (first | rw [heap_alloc_at] | rw [heap_size_alloc] | rfl | rw [if_pos (by omega)] | rw [if_neg (by omega)])) (fun h => by have := HG2 _ h; omega); obtain ⟨z0, z1, z2, z3, z4⟩ := blk3 hz6) | ((with_reducible refine (HE.out ((w.heap.size + 1) :: F) (World.alloc w3 _) _ (some ⟨w3.heap.size, 0, none⟩) ?_ ?_ ?_).mono ?_); (focus exact hlc.frm0 (by repeat (first | with_reducible (first | refine .alloc ?_ _ | refine .drewN ?_ _ | refine .drew ?_) | ((with_reducible refine .setCell ?_ ?_ _); rotate_left; focus (first | (left; simp; done) | (right; simp; (first | done | omega)))) | with_reducible (first | assumption | exact .refl _ _ | refine .trans0 ?_ ‹_›)))); (focus exact hs1.keep (by repeat (first | with_reducible (first | refine .alloc ?_ _ | refine .drewN ?_ _ | refine .drew ?_) | ((with_reducible refine .setCell ?_ ?_ _); rotate_left; focus (first | (left; simp; done) | (right; simp; (first | done | omega)))) | with_reducible (first | assumption | exact .refl _ _ | refine .trans0 ?_ ‹_›)))); (focus exact krow2 (b := w3.heap.size) (alloc_heap_new w3 _) (fun h => by have := hF1 _ h; omega) (hA1.keep (by repeat (first | with_reducible (first | refine .alloc ?_ _ | refine .drewN ?_ _ | refine .drew ?_) | ((with_reducible refine .setCell ?_ ?_ _); rotate_left; focus (first | (left; simp; done) | (right; simp; (first | done | omega)))) | with_reducible (first | assumption | exact .refl _ _ | refine .trans0 ?_ ‹_›)))) (HNUM.out _ _)); rintro e w6 ⟨rfl, TO⟩; obtain ⟨G6, F6', hs6, F6, m3, m4, m5⟩ := id TO; skip)); have FK : Frm G V w6 := Frm.trans' (Frm.mono (F := []) (by repeat (first | with_reducible (first | refine .alloc ?_ _ | refine .drewN ?_ _ | refine .drew ?_) | ((with_reducible refine .setCell ?_ ?_ _); rotate_left; focus (first | (left; simp; done) | (right; simp; (first | done | omega)))) | with_reducible (first | assumption | exact .refl _ _ | refine .trans0 ?_ ‹_›))) (by simp)) F6; simp only [toldV])
            refine hK.out _ _ (fun h => absurd h (by decide)) (fun _ => ?_)
            clear hK K'
            try simp only [Act.put, List.setIfInBounds_toArray, List.set_cons_zero, List.set_cons_succ]
            refine one 8 (by kernel_rfl) rfl (fun K' hK => ?_)
            go_simp
            refine hK.out _ _ (fun _ => ?rgnS5) (fun hH => ?rgnB5)
            case rgnS5 => (first | (dsimp only; (first | exact FK.alloc _ | exact (by repeat (first | with_reducible (first | refine .alloc ?_ _ | refine .drewN ?_ _ | refine .drew ?_) | ((with_reducible refine .setCell ?_ ?_ _); rotate_left; focus (first | (left; simp; done) | (right; simp; (first | done | omega)))) | with_reducible (first | assumption | exact .refl _ _ | refine .trans0 ?_ ‹_›))))) | (first | exact FK.alloc _ | exact (by repeat (first | with_reducible (first | refine .alloc ?_ _ | refine .drewN ?_ _ | refine .drew ?_) | ((with_reducible refine .setCell ?_ ?_ _); rotate_left; focus (first | (left; simp; done) | (right; simp; (first | done | omega)))) | with_reducible (first | assumption | exact .refl _ _ | refine .trans0 ?_ ‹_›)))))
            case' rgnB5 => ((try clear hHeld); have hHeld := hH (by decide); clear hH)
            clear hK K'
            try simp only [Act.put, List.setIfInBounds_toArray, List.set_cons_zero, List.set_cons_succ]
            refine one 9 (by kernel_rfl) rfl (fun K' hK => ?_)
            go_simp
            refine hK.out _ _ (fun h => absurd h (by decide)) (fun _ => ?_)
            clear hK K'
            try simp only [Act.put, List.setIfInBounds_toArray, List.set_cons_zero, List.set_cons_succ]
            refine wpAnyU_done (by kernel_rfl) ?_ _
            (go_wp2; go_meet; (first | (refine IsMid.before HG2 ?_ ?_ ?_ TO hz6; (focus omega); (focus (first | omega | (simp; done) | (simp; omega))); (focus exact (by repeat (first | with_reducible (first | refine .alloc ?_ _ | refine .drewN ?_ _ | refine .drew ?_) | ((with_reducible refine .setCell ?_ ?_ _); rotate_left; focus (first | (left; simp; done) | (right; simp; (first | done | omega)))) | with_reducible (first | assumption | exact .refl _ _ | refine .trans0 ?_ ‹_›))))) | (refine IsMid.behind ?_ TO; exact (by repeat (first | with_reducible (first | refine .alloc ?_ _ | refine .drewN ?_ _ | refine .drew ?_) | ((with_reducible refine .setCell ?_ ?_ _); rotate_left; focus (first | (left; simp; done) | (right; simp; (first | done | omega)))) | with_reducible (first | assumption | exact .refl _ _ | refine .trans0 ?_ ‹_›))))))
          · skip
            go_simp
            refine hK.out _ _ (fun _ => ?rgnS6) (fun hH => ?rgnB6)
            case rgnS6 => (first | (dsimp only; (first | exact FK.alloc _ | exact (by repeat (first | with_reducible (first | refine .alloc ?_ _ | refine .drewN ?_ _ | refine .drew ?_) | ((with_reducible refine .setCell ?_ ?_ _); rotate_left; focus (first | (left; simp; done) | (right; simp; (first | done | omega)))) | with_reducible (first | assumption | exact .refl _ _ | refine .trans0 ?_ ‹_›))))) | (first | exact FK.alloc _ | exact (by repeat (first | with_reducible (first | refine .alloc ?_ _ | refine .drewN ?_ _ | refine .drew ?_) | ((with_reducible refine .setCell ?_ ?_ _); rotate_left; focus (first | (left; simp; done) | (right; simp; (first | done | omega)))) | with_reducible (first | assumption | exact .refl _ _ | refine .trans0 ?_ ‹_›)))))
            case' rgnB6 => ((try clear hHeld); have hHeld := hH (by decide); clear hH)
            clear hK K'
            try simp only [Act.put, List.setIfInBounds_toArray, List.set_cons_zero, List.set_cons_succ]
            refine one 7 (by kernel_rfl) rfl (fun K' hK => ?_)
            (go_simp; (first | (have hq := hz3; (with_reducible refine (HE.out (V.heap.size :: (w.heap.size + 1) :: F) (World.alloc w3 _) _ (some ⟨w3.heap.size, 0, none⟩) ?_ ?_ ?_).mono ?_); (focus exact hlc.frm0 (by repeat (first | with_reducible (first | refine .alloc ?_ _ | refine .drewN ?_ _ | refine .drew ?_) | ((with_reducible refine .setCell ?_ ?_ _); rotate_left; focus (first | (left; simp; done) | (right; simp; (first | done | omega)))) | with_reducible (first | assumption | exact .refl _ _ | refine .trans0 ?_ ‹_›)))); (focus exact hs1.more (F' := V.heap.size :: (w.heap.size + 1) :: F) (H := []) (by repeat (first | with_reducible (first | refine .alloc ?_ _ | refine .drewN ?_ _ | refine .drew ?_) | ((with_reducible refine .setCell ?_ ?_ _); rotate_left; focus (first | (left; simp; done) | (right; simp; (first | done | omega)))) | with_reducible (first | assumption | exact .refl _ _ | refine .trans0 ?_ ‹_›))) (by simp) (by simp) (new_one (by omega)) (fun b hb => List.mem_cons_of_mem _ hb) (lt_one hF1 (by simp; omega) (by simp; omega))); (focus exact krow2 (b := w3.heap.size) (alloc_heap_new w3 _) (fun h => by rcases List.mem_cons.1 h with h | h; omega; have := hF1 _ h; omega) ((hA1.away (F' := V.heap.size :: (w.heap.size + 1) :: F) (new_one (by omega))).keep (by repeat (first | with_reducible (first | refine .alloc ?_ _ | refine .drewN ?_ _ | refine .drew ?_) | ((with_reducible refine .setCell ?_ ?_ _); rotate_left; focus (first | (left; simp; done) | (right; simp; (first | done | omega)))) | with_reducible (first | assumption | exact .refl _ _ | refine .trans0 ?_ ‹_›)))) (HNUM.out _ _)); rintro e w6 ⟨rfl, TO⟩; obtain ⟨G6, F6', hs6, F6, m3, m4, m5⟩ := id TO; have hz6 := F6.at_ (Frm.at0 (by repeat (first | with_reducible (first | refine .alloc ?_ _ | refine .drewN ?_ _ | refine .drew ?_) | ((with_reducible refine .setCell ?_ ?_ _); rotate_left; focus (first | (left; simp; done) | (right; simp; (first | done | omega)))) | with_reducible (first | assumption | exact .refl _ _ | refine .trans0 ?_ ‹_›))) hz3) (fun h => by have := HG2 _ h; omega); obtain ⟨z0, z1, z2, z3, z4⟩ := blk3 hz6) | ((with_reducible refine (HE.out (w3.heap.size :: (w.heap.size + 1) :: F) (World.alloc (World.alloc w3 _) _) _ (some ⟨w3.heap.size + 1, 0, none⟩) ?_ ?_ ?_).mono ?_); (focus exact hlc.frm0 (by repeat (first | with_reducible (first | refine .alloc ?_ _ | refine .drewN ?_ _ | refine .drew ?_) | ((with_reducible refine .setCell ?_ ?_ _); rotate_left; focus (first | (left; simp; done) | (right; simp; (first | done | omega)))) | with_reducible (first | assumption | exact .refl _ _ | refine .trans0 ?_ ‹_›)))); (focus exact hs1.more (F' := w3.heap.size :: (w.heap.size + 1) :: F) (H := []) (by repeat (first | with_reducible (first | refine .alloc ?_ _ | refine .drewN ?_ _ | refine .drew ?_) | ((with_reducible refine .setCell ?_ ?_ _); rotate_left; focus (first | (left; simp; done) | (right; simp; (first | done | omega)))) | with_reducible (first | assumption | exact .refl _ _ | refine .trans0 ?_ ‹_›))) (by simp) (by simp) (new_one (by omega)) (fun b hb => List.mem_cons_of_mem _ hb) (lt_one hF1 (by simp; omega) (by simp; omega))); (focus exact krow2 (b := w3.heap.size + 1) (by repeat (first | rw [heap_alloc_at] | rw [heap_size_alloc] | rfl | rw [if_pos (by omega)] | rw [if_neg (by omega)])) (fun h => by rcases List.mem_cons.1 h with h | h; omega; have := hF1 _ h; omega) ((hA1.away (F' := w3.heap.size :: (w.heap.size + 1) :: F) (new_one (by omega))).keep (by repeat (first | with_reducible (first | refine .alloc ?_ _ | refine .drewN ?_ _ | refine .drew ?_) | ((with_reducible refine .setCell ?_ ?_ _); rotate_left; focus (first | (left; simp; done) | (right; simp; (first | done | omega)))) | with_reducible (first | assumption | exact .refl _ _ | refine .trans0 ?_ ‹_›)))) (HNUM.out _ _)); rintro e w6 ⟨rfl, TO⟩; obtain ⟨G6, F6', hs6, F6, m3, m4, m5⟩ := id TO; have hz6 := F6.at_ (b := w3.heap.size) (o := (.cells #[.bool false, .int .i64 0, .int .i64 0] 59 (0, 0))) (by repeat (first | rw [heap_alloc_at] | rw [heap_size_alloc] | rfl | rw [if_pos (by omega)] | rw [if_neg (by omega)])) (fun h => by have := HG2 _ h; omega); obtain ⟨z0, z1, z2, z3, z4⟩ := blk3 hz6) | ((with_reducible refine (HE.out ((w3.heap.size + 1) :: (w.heap.size + 1) :: F) (World.alloc (World.alloc w3 _) _) _ (some ⟨w3.heap.size, 0, none⟩) ?_ ?_ ?_).mono ?_); (focus exact hlc.frm0 (by repeat (first | with_reducible (first | refine .alloc ?_ _ | refine .drewN ?_ _ | refine .drew ?_) | ((with_reducible refine .setCell ?_ ?_ _); rotate_left; focus (first | (left; simp; done) | (right; simp; (first | done | omega)))) | with_reducible (first | assumption | exact .refl _ _ | refine .trans0 ?_ ‹_›)))); (focus exact hs1.more (F' := (w3.heap.size + 1) :: (w.heap.size + 1) :: F) (H := []) (by repeat (first | with_reducible (first | refine .alloc ?_ _ | refine .drewN ?_ _ | refine .drew ?_) | ((with_reducible refine .setCell ?_ ?_ _); rotate_left; focus (first | (left; simp; done) | (right; simp; (first | done | omega)))) | with_reducible (first | assumption | exact .refl _ _ | refine .trans0 ?_ ‹_›))) (by simp) (by simp) (new_one (by omega)) (fun b hb => List.mem_cons_of_mem _ hb) (lt_one hF1 (by simp) (by simp; omega))); (focus exact krow2 (b := w3.heap.size) (by repeat (first | rw [heap_alloc_at] | rw [heap_size_alloc] | rfl | rw [if_pos (by omega)] | rw [if_neg (by omega)])) (fun h => by rcases List.mem_cons.1 h with h | h; omega; have := hF1 _ h; omega) ((hA1.away (F' := (w3.heap.size + 1) :: (w.heap.size + 1) :: F) (new_one (by omega))).keep (by repeat (first | with_reducible (first | refine .alloc ?_ _ | refine .drewN ?_ _ | refine .drew ?_) | ((with_reducible refine .setCell ?_ ?_ _); rotate_left; focus (first | (left; simp; done) | (right; simp; (first | done | omega)))) | with_reducible (first | assumption | exact .refl _ _ | refine .trans0 ?_ ‹_›)))) (HNUM.out _ _)); rintro e w6 ⟨rfl, TO⟩; obtain ⟨G6, F6', hs6, F6, m3, m4, m5⟩ := id TO; have hz6 := F6.at_ (b := w3.heap.size + 1) (o := (.cells #[.bool false, .int .i64 0, .int .i64 0] 59 (0, 0))) (by repeat (first | rw [heap_alloc_at] | rw [heap_size_alloc] | rfl | rw [if_pos (by omega)] | rw [if_neg (by omega)])) (fun h => by have := HG2 _ h; omega); obtain ⟨z0, z1, z2, z3, z4⟩ := blk3 hz6) | ((with_reducible refine (HE.out ((w.heap.size + 1) :: F) (World.alloc w3 _) _ (some ⟨w3.heap.size, 0, none⟩) ?_ ?_ ?_).mono ?_); (focus exact hlc.frm0 (by repeat (first | with_reducible (first | refine .alloc ?_ _ | refine .drewN ?_ _ | refine .drew ?_) | ((with_reducible refine .setCell ?_ ?_ _); rotate_left; focus (first | (left; simp; done) | (right; simp; (first | done | omega)))) | with_reducible (first | assumption | exact .refl _ _ | refine .trans0 ?_ ‹_›)))); (focus exact hs1.keep (by repeat (first | with_reducible (first | refine .alloc ?_ _ | refine .drewN ?_ _ | refine .drew ?_) | ((with_reducible refine .setCell ?_ ?_ _); rotate_left; focus (first | (left; simp; done) | (right; simp; (first | done | omega)))) | with_reducible (first | assumption | exact .refl _ _ | refine .trans0 ?_ ‹_›)))); (focus exact krow2 (b := w3.heap.size) (alloc_heap_new w3 _) (fun h => by have := hF1 _ h; omega) (hA1.keep (by repeat (first | with_reducible (first | refine .alloc ?_ _ | refine .drewN ?_ _ | refine .drew ?_) | ((with_reducible refine .setCell ?_ ?_ _); rotate_left; focus (first | (left; simp; done) | (right; simp; (first | done | omega)))) | with_reducible (first | assumption | exact .refl _ _ | refine .trans0 ?_ ‹_›)))) (HNUM.out _ _)); rintro e w6 ⟨rfl, TO⟩; obtain ⟨G6, F6', hs6, F6, m3, m4, m5⟩ := id TO; skip)); have FK : Frm G V w6 := Frm.trans' (Frm.mono (F := []) (by repeat (first | with_reducible (first | refine .alloc ?_ _ | refine .drewN ?_ _ | refine .drew ?_) | ((with_reducible refine .setCell ?_ ?_ _); rotate_left; focus (first | (left; simp; done) | (right; simp; (first | done | omega)))) | with_reducible (first | assumption | exact .refl _ _ | refine .trans0 ?_ ‹_›))) (by simp)) F6; simp only [toldV])
            refine hK.out _ _ (fun h => absurd h (by decide)) (fun _ => ?_)
            clear hK K'
            try simp only [Act.put, List.setIfInBounds_toArray, List.set_cons_zero, List.set_cons_succ]
            refine one 9 (by kernel_rfl) rfl (fun K' hK => ?_)
            go_simp
            refine hK.out _ _ (fun h => absurd h (by decide)) (fun _ => ?_)
            clear hK K'
            try simp only [Act.put, List.setIfInBounds_toArray, List.set_cons_zero, List.set_cons_succ]
            refine wpAnyU_done (by kernel_rfl) ?_ _
            (go_wp2; go_meet; (first | (refine IsMid.before HG2 ?_ ?_ ?_ TO hz6; (focus omega); (focus (first | omega | (simp; done) | (simp; omega))); (focus exact (by repeat (first | with_reducible (first | refine .alloc ?_ _ | refine .drewN ?_ _ | refine .drew ?_) | ((with_reducible refine .setCell ?_ ?_ _); rotate_left; focus (first | (left; simp; done) | (right; simp; (first | done | omega)))) | with_reducible (first | assumption | exact .refl _ _ | refine .trans0 ?_ ‹_›))))) | (refine IsMid.behind ?_ TO; exact (by repeat (first | with_reducible (first | refine .alloc ?_ _ | refine .drewN ?_ _ | refine .drew ?_) | ((with_reducible refine .setCell ?_ ?_ _); rotate_left; focus (first | (left; simp; done) | (right; simp; (first | done | omega)))) | with_reducible (first | assumption | exact .refl _ _ | refine .trans0 ?_ ‹_›))))))
        · skip
          go_simp
          refine hK.out _ _ (fun _ => ?rgnS7) (fun hH => ?rgnB7)
          case rgnS7 => (first | (dsimp only; (first | exact FK.alloc _ | exact (by repeat (first | with_reducible (first | refine .alloc ?_ _ | refine .drewN ?_ _ | refine .drew ?_) | ((with_reducible refine .setCell ?_ ?_ _); rotate_left; focus (first | (left; simp; done) | (right; simp; (first | done | omega)))) | with_reducible (first | assumption | exact .refl _ _ | refine .trans0 ?_ ‹_›))))) | (first | exact FK.alloc _ | exact (by repeat (first | with_reducible (first | refine .alloc ?_ _ | refine .drewN ?_ _ | refine .drew ?_) | ((with_reducible refine .setCell ?_ ?_ _); rotate_left; focus (first | (left; simp; done) | (right; simp; (first | done | omega)))) | with_reducible (first | assumption | exact .refl _ _ | refine .trans0 ?_ ‹_›)))))
          case' rgnB7 => ((try clear hHeld); have hHeld := hH (by decide); clear hH)
          clear hK K'
          try simp only [Act.put, List.setIfInBounds_toArray, List.set_cons_zero, List.set_cons_succ]
          refine one 6 (by kernel_rfl) rfl (fun K' hK => ?_)
          (rw [if_pos (by rfl)]; go_simp)
          refine hK.out _ _ (fun _ => ?rgnS8) (fun hH => ?rgnB8)
          case rgnS8 => (first | (dsimp only; (first | exact FK.alloc _ | exact (by repeat (first | with_reducible (first | refine .alloc ?_ _ | refine .drewN ?_ _ | refine .drew ?_) | ((with_reducible refine .setCell ?_ ?_ _); rotate_left; focus (first | (left; simp; done) | (right; simp; (first | done | omega)))) | with_reducible (first | assumption | exact .refl _ _ | refine .trans0 ?_ ‹_›))))) | (first | exact FK.alloc _ | exact (by repeat (first | with_reducible (first | refine .alloc ?_ _ | refine .drewN ?_ _ | refine .drew ?_) | ((with_reducible refine .setCell ?_ ?_ _); rotate_left; focus (first | (left; simp; done) | (right; simp; (first | done | omega)))) | with_reducible (first | assumption | exact .refl _ _ | refine .trans0 ?_ ‹_›)))))
          case' rgnB8 => ((try clear hHeld); have hHeld := hH (by decide); clear hH)
          clear hK K'
          try simp only [Act.put, List.setIfInBounds_toArray, List.set_cons_zero, List.set_cons_succ]
          refine one 7 (by kernel_rfl) rfl (fun K' hK => ?_)
          (go_simp; (first | (have hq := hz3; (with_reducible refine (HE.out (V.heap.size :: (w.heap.size + 1) :: F) (World.alloc w3 _) _ (some ⟨w3.heap.size, 0, none⟩) ?_ ?_ ?_).mono ?_); (focus exact hlc.frm0 (by repeat (first | with_reducible (first | refine .alloc ?_ _ | refine .drewN ?_ _ | refine .drew ?_) | ((with_reducible refine .setCell ?_ ?_ _); rotate_left; focus (first | (left; simp; done) | (right; simp; (first | done | omega)))) | with_reducible (first | assumption | exact .refl _ _ | refine .trans0 ?_ ‹_›)))); (focus exact hs1.more (F' := V.heap.size :: (w.heap.size + 1) :: F) (H := []) (by repeat (first | with_reducible (first | refine .alloc ?_ _ | refine .drewN ?_ _ | refine .drew ?_) | ((with_reducible refine .setCell ?_ ?_ _); rotate_left; focus (first | (left; simp; done) | (right; simp; (first | done | omega)))) | with_reducible (first | assumption | exact .refl _ _ | refine .trans0 ?_ ‹_›))) (by simp) (by simp) (new_one (by omega)) (fun b hb => List.mem_cons_of_mem _ hb) (lt_one hF1 (by simp; omega) (by simp; omega))); (focus exact krow2 (b := w3.heap.size) (alloc_heap_new w3 _) (fun h => by rcases List.mem_cons.1 h with h | h; omega; have := hF1 _ h; omega) ((hA1.away (F' := V.heap.size :: (w.heap.size + 1) :: F) (new_one (by omega))).keep (by repeat (first | with_reducible (first | refine .alloc ?_ _ | refine .drewN ?_ _ | refine .drew ?_) | ((with_reducible refine .setCell ?_ ?_ _); rotate_left; focus (first | (left; simp; done) | (right; simp; (first | done | omega)))) | with_reducible (first | assumption | exact .refl _ _ | refine .trans0 ?_ ‹_›)))) (HNUM.out _ _)); rintro e w6 ⟨rfl, TO⟩; obtain ⟨G6, F6', hs6, F6, m3, m4, m5⟩ := id TO; have hz6 := F6.at_ (Frm.at0 (by repeat (first | with_reducible (first | refine .alloc ?_ _ | refine .drewN ?_ _ | refine .drew ?_) | ((with_reducible refine .setCell ?_ ?_ _); rotate_left; focus (first | (left; simp; done) | (right; simp; (first | done | omega)))) | with_reducible (first | assumption | exact .refl _ _ | refine .trans0 ?_ ‹_›))) hz3) (fun h => by have := HG2 _ h; omega); obtain ⟨z0, z1, z2, z3, z4⟩ := blk3 hz6) | ((with_reducible refine (HE.out (w3.heap.size :: (w.heap.size + 1) :: F) (World.alloc (World.alloc w3 _) _) _ (some ⟨w3.heap.size + 1, 0, none⟩) ?_ ?_ ?_).mono ?_); (focus exact hlc.frm0 (by repeat (first | with_reducible (first | refine .alloc ?_ _ | refine .drewN ?_ _ | refine .drew ?_) | ((with_reducible refine .setCell ?_ ?_ _); rotate_left; focus (first | (left; simp; done) | (right; simp; (first | done | omega)))) | with_reducible (first | assumption | exact .refl _ _ | refine .trans0 ?_ ‹_›)))); (focus exact hs1.more (F' := w3.heap.size :: (w.heap.size + 1) :: F) (H := []) (by repeat (first | with_reducible (first | refine .alloc ?_ _ | refine .drewN ?_ _ | refine .drew ?_) | ((with_reducible refine .setCell ?_ ?_ _); rotate_left; focus (first | (left; simp; done) | (right; simp; (first | done | omega)))) | with_reducible (first | assumption | exact .refl _ _ | refine .trans0 ?_ ‹_›))) (by simp) (by simp) (new_one (by omega)) (fun b hb => List.mem_cons_of_mem _ hb) (lt_one hF1 (by simp; omega) (by simp; omega))); (focus exact krow2 (b := w3.heap.size + 1) (by repeat (first | rw [heap_alloc_at] | rw [heap_size_alloc] | rfl | rw [if_pos (by omega)] | rw [if_neg (by omega)])) (fun h => by rcases List.mem_cons.1 h with h | h; omega; have := hF1 _ h; omega) ((hA1.away (F' := w3.heap.size :: (w.heap.size + 1) :: F) (new_one (by omega))).keep (by repeat (first | with_reducible (first | refine .alloc ?_ _ | refine .drewN ?_ _ | refine .drew ?_) | ((with_reducible refine .setCell ?_ ?_ _); rotate_left; focus (first | (left; simp; done) | (right; simp; (first | done | omega)))) | with_reducible (first | assumption | exact .refl _ _ | refine .trans0 ?_ ‹_›)))) (HNUM.out _ _)); rintro e w6 ⟨rfl, TO⟩; obtain ⟨G6, F6', hs6, F6, m3, m4, m5⟩ := id TO; have hz6 := F6.at_ (b := w3.heap.size) (o := (.cells #[.bool false, .int .i64 0, .int .i64 0] 59 (0, 0))) (by repeat (first | rw [heap_alloc_at] | rw [heap_size_alloc] | rfl | rw [if_pos (by omega)] | rw [if_neg (by omega)])) (fun h => by have := HG2 _ h; omega); obtain ⟨z0, z1, z2, z3, z4⟩ := blk3 hz6) | ((with_reducible refine (HE.out ((w3.heap.size + 1) :: (w.heap.size + 1) :: F) (World.alloc (World.alloc w3 _) _) _ (some ⟨w3.heap.size, 0, none⟩) ?_ ?_ ?_).mono ?_); (focus exact hlc.frm0 (by repeat (first | with_reducible (first | refine .alloc ?_ _ | refine .drewN ?_ _ | refine .drew ?_) | ((with_reducible refine .setCell ?_ ?_ _); rotate_left; focus (first | (left; simp; done) | (right; simp; (first | done | omega)))) | with_reducible (first | assumption | exact .refl _ _ | refine .trans0 ?_ ‹_›)))); (focus exact hs1.more (F' := (w3.heap.size + 1) :: (w.heap.size + 1) :: F) (H := []) (by repeat (first | with_reducible (first | refine .alloc ?_ _ | refine .drewN ?_ _ | refine .drew ?_) | ((with_reducible refine .setCell ?_ ?_ _); rotate_left; focus (first | (left; simp; done) | (right; simp; (first | done | omega)))) | with_reducible (first | assumption | exact .refl _ _ | refine .trans0 ?_ ‹_›))) (by simp) (by simp) (new_one (by omega)) (fun b hb => List.mem_cons_of_mem _ hb) (lt_one hF1 (by simp) (by simp; omega))); (focus exact krow2 (b := w3.heap.size) (by repeat (first | rw [heap_alloc_at] | rw [heap_size_alloc] | rfl | rw [if_pos (by omega)] | rw [if_neg (by omega)])) (fun h => by rcases List.mem_cons.1 h with h | h; omega; have := hF1 _ h; omega) ((hA1.away (F' := (w3.heap.size + 1) :: (w.heap.size + 1) :: F) (new_one (by omega))).keep (by repeat (first | with_reducible (first | refine .alloc ?_ _ | refine .drewN ?_ _ | refine .drew ?_) | ((with_reducible refine .setCell ?_ ?_ _); rotate_left; focus (first | (left; simp; done) | (right; simp; (first | done | omega)))) | with_reducible (first | assumption | exact .refl _ _ | refine .trans0 ?_ ‹_›)))) (HNUM.out _ _)); rintro e w6 ⟨rfl, TO⟩; obtain ⟨G6, F6', hs6, F6, m3, m4, m5⟩ := id TO; have hz6 := F6.at_ (b := w3.heap.size + 1) (o := (.cells #[.bool false, .int .i64 0, .int .i64 0] 59 (0, 0))) (by repeat (first | rw [heap_alloc_at] | rw [heap_size_alloc] | rfl | rw [if_pos (by omega)] | rw [if_neg (by omega)])) (fun h => by have := HG2 _ h; omega); obtain ⟨z0, z1, z2, z3, z4⟩ := blk3 hz6) | ((with_reducible refine (HE.out ((w.heap.size + 1) :: F) (World.alloc w3 _) _ (some ⟨w3.heap.size, 0, none⟩) ?_ ?_ ?_).mono ?_); (focus exact hlc.frm0 (by repeat (first | with_reducible (first | refine .alloc ?_ _ | refine .drewN ?_ _ | refine .drew ?_) | ((with_reducible refine .setCell ?_ ?_ _); rotate_left; focus (first | (left; simp; done) | (right; simp; (first | done | omega)))) | with_reducible (first | assumption | exact .refl _ _ | refine .trans0 ?_ ‹_›)))); (focus exact hs1.keep (by repeat (first | with_reducible (first | refine .alloc ?_ _ | refine .drewN ?_ _ | refine .drew ?_) | ((with_reducible refine .setCell ?_ ?_ _); rotate_left; focus (first | (left; simp; done) | (right; simp; (first | done | omega)))) | with_reducible (first | assumption | exact .refl _ _ | refine .trans0 ?_ ‹_›)))); (focus exact krow2 (b := w3.heap.size) (alloc_heap_new w3 _) (fun h => by have := hF1 _ h; omega) (hA1.keep (by repeat (first | with_reducible (first | refine .alloc ?_ _ | refine .drewN ?_ _ | refine .drew ?_) | ((with_reducible refine .setCell ?_ ?_ _); rotate_left; focus (first | (left; simp; done) | (right; simp; (first | done | omega)))) | with_reducible (first | assumption | exact .refl _ _ | refine .trans0 ?_ ‹_›)))) (HNUM.out _ _)); rintro e w6 ⟨rfl, TO⟩; obtain ⟨G6, F6', hs6, F6, m3, m4, m5⟩ := id TO; skip)); have FK : Frm G V w6 := Frm.trans' (Frm.mono (F := []) (by repeat (first | with_reducible (first | refine .alloc ?_ _ | refine .drewN ?_ _ | refine .drew ?_) | ((with_reducible refine .setCell ?_ ?_ _); rotate_left; focus (first | (left; simp; done) | (right; simp; (first | done | omega)))) | with_reducible (first | assumption | exact .refl _ _ | refine .trans0 ?_ ‹_›))) (by simp)) F6; simp only [toldV])
          refine hK.out _ _ (fun h => absurd h (by decide)) (fun _ => ?_)
          clear hK K'
          try simp only [Act.put, List.setIfInBounds_toArray, List.set_cons_zero, List.set_cons_succ]
          refine one 9 (by kernel_rfl) rfl (fun K' hK => ?_)
          go_simp
          refine hK.out _ _ (fun h => absurd h (by decide)) (fun _ => ?_)
          clear hK K'
          try simp only [Act.put, List.setIfInBounds_toArray, List.set_cons_zero, List.set_cons_succ]
          refine wpAnyU_done (by kernel_rfl) ?_ _
          (go_wp2; go_meet; (first | (refine IsMid.before HG2 ?_ ?_ ?_ TO hz6; (focus omega); (focus (first | omega | (simp; done) | (simp; omega))); (focus exact (by repeat (first | with_reducible (first | refine .alloc ?_ _ | refine .drewN ?_ _ | refine .drew ?_) | ((with_reducible refine .setCell ?_ ?_ _); rotate_left; focus (first | (left; simp; done) | (right; simp; (first | done | omega)))) | with_reducible (first | assumption | exact .refl _ _ | refine .trans0 ?_ ‹_›))))) | (refine IsMid.behind ?_ TO; exact (by repeat (first | with_reducible (first | refine .alloc ?_ _ | refine .drewN ?_ _ | refine .drew ?_) | ((with_reducible refine .setCell ?_ ?_ _); rotate_left; focus (first | (left; simp; done) | (right; simp; (first | done | omega)))) | with_reducible (first | assumption | exact .refl _ _ | refine .trans0 ?_ ‹_›))))))
      · skip
        go_simp
        refine hK.out _ _ (fun _ => ?rgnS9) (fun hH => ?rgnB9)
        case rgnS9 => (first | (dsimp only; (first | exact FK.alloc _ | exact (by repeat (first | with_reducible (first | refine .alloc ?_ _ | refine .drewN ?_ _ | refine .drew ?_) | ((with_reducible refine .setCell ?_ ?_ _); rotate_left; focus (first | (left; simp; done) | (right; simp; (first | done | omega)))) | with_reducible (first | assumption | exact .refl _ _ | refine .trans0 ?_ ‹_›))))) | (first | exact FK.alloc _ | exact (by repeat (first | with_reducible (first | refine .alloc ?_ _ | refine .drewN ?_ _ | refine .drew ?_) | ((with_reducible refine .setCell ?_ ?_ _); rotate_left; focus (first | (left; simp; done) | (right; simp; (first | done | omega)))) | with_reducible (first | assumption | exact .refl _ _ | refine .trans0 ?_ ‹_›)))))
        case' rgnB9 => ((try clear hHeld); have hHeld := hH (by decide); clear hH)
        clear hK K'
        try simp only [Act.put, List.setIfInBounds_toArray, List.set_cons_zero, List.set_cons_succ]
        refine one 5 (by kernel_rfl) rfl (fun K' hK => ?_)
        (go_simp; refine (term_num n _).mono ?_; rintro e w3 ⟨rfl, F3⟩; (try (have hz3 := F3.at0 (alloc_heap_new _ _))); have hsz3 := F3.size; (try simp at hsz3); have F03 : Frm [] V w3 := Frm.trans0 (by repeat (first | with_reducible (first | refine .alloc ?_ _ | refine .drewN ?_ _ | refine .drew ?_) | ((with_reducible refine .setCell ?_ ?_ _); rotate_left; focus (first | (left; simp; done) | (right; simp; (first | done | omega)))) | with_reducible (first | assumption | exact .refl _ _ | refine .trans0 ?_ ‹_›))) F3; have hsz03 := F03.size; dsimp only)
        refine hK.out _ _ (fun _ => ?rgnS10) (fun hH => ?rgnB10)
        case rgnS10 => (first | (dsimp only; (first | exact FK.alloc _ | exact (by repeat (first | with_reducible (first | refine .alloc ?_ _ | refine .drewN ?_ _ | refine .drew ?_) | ((with_reducible refine .setCell ?_ ?_ _); rotate_left; focus (first | (left; simp; done) | (right; simp; (first | done | omega)))) | with_reducible (first | assumption | exact .refl _ _ | refine .trans0 ?_ ‹_›))))) | (first | exact FK.alloc _ | exact (by repeat (first | with_reducible (first | refine .alloc ?_ _ | refine .drewN ?_ _ | refine .drew ?_) | ((with_reducible refine .setCell ?_ ?_ _); rotate_left; focus (first | (left; simp; done) | (right; simp; (first | done | omega)))) | with_reducible (first | assumption | exact .refl _ _ | refine .trans0 ?_ ‹_›)))))
        case' rgnB10 => ((try clear hHeld); have hHeld := hH (by decide); clear hH)
        clear hK K'
        try simp only [Act.put, List.setIfInBounds_toArray, List.set_cons_zero, List.set_cons_succ]
        refine one 6 (by kernel_rfl) rfl (fun K' hK => ?_)
        (rw [if_pos (by rfl)]; go_simp)
        refine hK.out _ _ (fun _ => ?rgnS11) (fun hH => ?rgnB11)
        case rgnS11 => (first | (dsimp only; (first | exact FK.alloc _ | exact (by repeat (first | with_reducible (first | refine .alloc ?_ _ | refine .drewN ?_ _ | refine .drew ?_) | ((with_reducible refine .setCell ?_ ?_ _); rotate_left; focus (first | (left; simp; done) | (right; simp; (first | done | omega)))) | with_reducible (first | assumption | exact .refl _ _ | refine .trans0 ?_ ‹_›))))) | (first | exact FK.alloc _ | exact (by repeat (first | with_reducible (first | refine .alloc ?_ _ | refine .drewN ?_ _ | refine .drew ?_) | ((with_reducible refine .setCell ?_ ?_ _); rotate_left; focus (first | (left; simp; done) | (right; simp; (first | done | omega)))) | with_reducible (first | assumption | exact .refl _ _ | refine .trans0 ?_ ‹_›)))))
        case' rgnB11 => ((try clear hHeld); have hHeld := hH (by decide); clear hH)
        clear hK K'
        try simp only [Act.put, List.setIfInBounds_toArray, List.set_cons_zero, List.set_cons_succ]
        refine one 7 (by kernel_rfl) rfl (fun K' hK => ?_)
        (go_simp; (first | (have hq := hz3; (with_reducible refine (HE.out (V.heap.size :: (w.heap.size + 1) :: F) (World.alloc w3 _) _ (some ⟨w3.heap.size, 0, none⟩) ?_ ?_ ?_).mono ?_); (focus exact hlc.frm0 (by repeat (first | with_reducible (first | refine .alloc ?_ _ | refine .drewN ?_ _ | refine .drew ?_) | ((with_reducible refine .setCell ?_ ?_ _); rotate_left; focus (first | (left; simp; done) | (right; simp; (first | done | omega)))) | with_reducible (first | assumption | exact .refl _ _ | refine .trans0 ?_ ‹_›)))); (focus exact hs1.more (F' := V.heap.size :: (w.heap.size + 1) :: F) (H := []) (by repeat (first | with_reducible (first | refine .alloc ?_ _ | refine .drewN ?_ _ | refine .drew ?_) | ((with_reducible refine .setCell ?_ ?_ _); rotate_left; focus (first | (left; simp; done) | (right; simp; (first | done | omega)))) | with_reducible (first | assumption | exact .refl _ _ | refine .trans0 ?_ ‹_›))) (by simp) (by simp) (new_one (by omega)) (fun b hb => List.mem_cons_of_mem _ hb) (lt_one hF1 (by simp; omega) (by simp; omega))); (focus exact krow2 (b := w3.heap.size) (alloc_heap_new w3 _) (fun h => by rcases List.mem_cons.1 h with h | h; omega; have := hF1 _ h; omega) ((hA1.away (F' := V.heap.size :: (w.heap.size + 1) :: F) (new_one (by omega))).keep (by repeat (first | with_reducible (first | refine .alloc ?_ _ | refine .drewN ?_ _ | refine .drew ?_) | ((with_reducible refine .setCell ?_ ?_ _); rotate_left; focus (first | (left; simp; done) | (right; simp; (first | done | omega)))) | with_reducible (first | assumption | exact .refl _ _ | refine .trans0 ?_ ‹_›)))) (HNUM.out _ _)); rintro e w6 ⟨rfl, TO⟩; obtain ⟨G6, F6', hs6, F6, m3, m4, m5⟩ := id TO; have hz6 := F6.at_ (Frm.at0 (by repeat (first | with_reducible (first | refine .alloc ?_ _ | refine .drewN ?_ _ | refine .drew ?_) | ((with_reducible refine .setCell ?_ ?_ _); rotate_left; focus (first | (left; simp; done) | (right; simp; (first | done | omega)))) | with_reducible (first | assumption | exact .refl _ _ | refine .trans0 ?_ ‹_›))) hz3) (fun h => by have := HG2 _ h; omega); obtain ⟨z0, z1, z2, z3, z4⟩ := blk3 hz6) | ((with_reducible refine (HE.out (w3.heap.size :: (w.heap.size + 1) :: F) (World.alloc (World.alloc w3 _) _) _ (some ⟨w3.heap.size + 1, 0, none⟩) ?_ ?_ ?_).mono ?_); (focus exact hlc.frm0 (by repeat (first | with_reducible (first | refine .alloc ?_ _ | refine .drewN ?_ _ | refine .drew ?_) | ((with_reducible refine .setCell ?_ ?_ _); rotate_left; focus (first | (left; simp; done) | (right; simp; (first | done | omega)))) | with_reducible (first | assumption | exact .refl _ _ | refine .trans0 ?_ ‹_›)))); (focus exact hs1.more (F' := w3.heap.size :: (w.heap.size + 1) :: F) (H := []) (by repeat (first | with_reducible (first | refine .alloc ?_ _ | refine .drewN ?_ _ | refine .drew ?_) | ((with_reducible refine .setCell ?_ ?_ _); rotate_left; focus (first | (left; simp; done) | (right; simp; (first | done | omega)))) | with_reducible (first | assumption | exact .refl _ _ | refine .trans0 ?_ ‹_›))) (by simp) (by simp) (new_one (by omega)) (fun b hb => List.mem_cons_of_mem _ hb) (lt_one hF1 (by simp; omega) (by simp; omega))); (focus exact krow2 (b := w3.heap.size + 1) (by repeat (first | rw [heap_alloc_at] | rw [heap_size_alloc] | rfl | rw [if_pos (by omega)] | rw [if_neg (by omega)])) (fun h => by rcases List.mem_cons.1 h with h | h; omega; have := hF1 _ h; omega) ((hA1.away (F' := w3.heap.size :: (w.heap.size + 1) :: F) (new_one (by omega))).keep (by repeat (first | with_reducible (first | refine .alloc ?_ _ | refine .drewN ?_ _ | refine .drew ?_) | ((with_reducible refine .setCell ?_ ?_ _); rotate_left; focus (first | (left; simp; done) | (right; simp; (first | done | omega)))) | with_reducible (first | assumption | exact .refl _ _ | refine .trans0 ?_ ‹_›)))) (HNUM.out _ _)); rintro e w6 ⟨rfl, TO⟩; obtain ⟨G6, F6', hs6, F6, m3, m4, m5⟩ := id TO; have hz6 := F6.at_ (b := w3.heap.size) (o := (.cells #[.bool false, .int .i64 0, .int .i64 0] 59 (0, 0))) (by repeat (first | rw [heap_alloc_at] | rw [heap_size_alloc] | rfl | rw [if_pos (by omega)] | rw [if_neg (by omega)])) (fun h => by have := HG2 _ h; omega); obtain ⟨z0, z1, z2, z3, z4⟩ := blk3 hz6) | ((with_reducible refine (HE.out ((w3.heap.size + 1) :: (w.heap.size + 1) :: F) (World.alloc (World.alloc w3 _) _) _ (some ⟨w3.heap.size, 0, none⟩) ?_ ?_ ?_).mono ?_); (focus exact hlc.frm0 (by repeat (first | with_reducible (first | refine .alloc ?_ _ | refine .drewN ?_ _ | refine .drew ?_) | ((with_reducible refine .setCell ?_ ?_ _); rotate_left; focus (first | (left; simp; done) | (right; simp; (first | done | omega)))) | with_reducible (first | assumption | exact .refl _ _ | refine .trans0 ?_ ‹_›)))); (focus exact hs1.more (F' := (w3.heap.size + 1) :: (w.heap.size + 1) :: F) (H := []) (by repeat (first | with_reducible (first | refine .alloc ?_ _ | refine .drewN ?_ _ | refine .drew ?_) | ((with_reducible refine .setCell ?_ ?_ _); rotate_left; focus (first | (left; simp; done) | (right; simp; (first | done | omega)))) | with_reducible (first | assumption | exact .refl _ _ | refine .trans0 ?_ ‹_›))) (by simp) (by simp) (new_one (by omega)) (fun b hb => List.mem_cons_of_mem _ hb) (lt_one hF1 (by simp) (by simp; omega))); (focus exact krow2 (b := w3.heap.size) (by repeat (first | rw [heap_alloc_at] | rw [heap_size_alloc] | rfl | rw [if_pos (by omega)] | rw [if_neg (by omega)])) (fun h => by rcases List.mem_cons.1 h with h | h; omega; have := hF1 _ h; omega) ((hA1.away (F' := (w3.heap.size + 1) :: (w.heap.size + 1) :: F) (new_one (by omega))).keep (by repeat (first | with_reducible (first | refine .alloc ?_ _ | refine .drewN ?_ _ | refine .drew ?_) | ((with_reducible refine .setCell ?_ ?_ _); rotate_left; focus (first | (left; simp; done) | (right; simp; (first | done | omega)))) | with_reducible (first | assumption | exact .refl _ _ | refine .trans0 ?_ ‹_›)))) (HNUM.out _ _)); rintro e w6 ⟨rfl, TO⟩; obtain ⟨G6, F6', hs6, F6, m3, m4, m5⟩ := id TO; have hz6 := F6.at_ (b := w3.heap.size + 1) (o := (.cells #[.bool false, .int .i64 0, .int .i64 0] 59 (0, 0))) (by repeat (first | rw [heap_alloc_at] | rw [heap_size_alloc] | rfl | rw [if_pos (by omega)] | rw [if_neg (by omega)])) (fun h => by have := HG2 _ h; omega); obtain ⟨z0, z1, z2, z3, z4⟩ := blk3 hz6) | ((with_reducible refine (HE.out ((w.heap.size + 1) :: F) (World.alloc w3 _) _ (some ⟨w3.heap.size, 0, none⟩) ?_ ?_ ?_).mono ?_); (focus exact hlc.frm0 (by repeat (first | with_reducible (first | refine .alloc ?_ _ | refine .drewN ?_ _ | refine .drew ?_) | ((with_reducible refine .setCell ?_ ?_ _); rotate_left; focus (first | (left; simp; done) | (right; simp; (first | done | omega)))) | with_reducible (first | assumption | exact .refl _ _ | refine .trans0 ?_ ‹_›)))); (focus exact hs1.keep (by repeat (first | with_reducible (first | refine .alloc ?_ _ | refine .drewN ?_ _ | refine .drew ?_) | ((with_reducible refine .setCell ?_ ?_ _); rotate_left; focus (first | (left; simp; done) | (right; simp; (first | done | omega)))) | with_reducible (first | assumption | exact .refl _ _ | refine .trans0 ?_ ‹_›)))); (focus exact krow2 (b := w3.heap.size) (alloc_heap_new w3 _) (fun h => by have := hF1 _ h; omega) (hA1.keep (by repeat (first | with_reducible (first | refine .alloc ?_ _ | refine .drewN ?_ _ | refine .drew ?_) | ((with_reducible refine .setCell ?_ ?_ _); rotate_left; focus (first | (left; simp; done) | (right; simp; (first | done | omega)))) | with_reducible (first | assumption | exact .refl _ _ | refine .trans0 ?_ ‹_›)))) (HNUM.out _ _)); rintro e w6 ⟨rfl, TO⟩; obtain ⟨G6, F6', hs6, F6, m3, m4, m5⟩ := id TO; skip)); have FK : Frm G V w6 := Frm.trans' (Frm.mono (F := []) (by repeat (first | with_reducible (first | refine .alloc ?_ _ | refine .drewN ?_ _ | refine .drew ?_) | ((with_reducible refine .setCell ?_ ?_ _); rotate_left; focus (first | (left; simp; done) | (right; simp; (first | done | omega)))) | with_reducible (first | assumption | exact .refl _ _ | refine .trans0 ?_ ‹_›))) (by simp)) F6; simp only [toldV])
        refine hK.out _ _ (fun h => absurd h (by decide)) (fun _ => ?_)
        clear hK K'
        try simp only [Act.put, List.setIfInBounds_toArray, List.set_cons_zero, List.set_cons_succ]
        refine one 9 (by kernel_rfl) rfl (fun K' hK => ?_)
        go_simp
        refine hK.out _ _ (fun h => absurd h (by decide)) (fun _ => ?_)
        clear hK K'
        try simp only [Act.put, List.setIfInBounds_toArray, List.set_cons_zero, List.set_cons_succ]
        refine wpAnyU_done (by kernel_rfl) ?_ _
        (go_wp2; go_meet; (first | (refine IsMid.before HG2 ?_ ?_ ?_ TO hz6; (focus omega); (focus (first | omega | (simp; done) | (simp; omega))); (focus exact (by repeat (first | with_reducible (first | refine .alloc ?_ _ | refine .drewN ?_ _ | refine .drew ?_) | ((with_reducible refine .setCell ?_ ?_ _); rotate_left; focus (first | (left; simp; done) | (right; simp; (first | done | omega)))) | with_reducible (first | assumption | exact .refl _ _ | refine .trans0 ?_ ‹_›))))) | (refine IsMid.behind ?_ TO; exact (by repeat (first | with_reducible (first | refine .alloc ?_ _ | refine .drewN ?_ _ | refine .drew ?_) | ((with_reducible refine .setCell ?_ ?_ _); rotate_left; focus (first | (left; simp; done) | (right; simp; (first | done | omega)))) | with_reducible (first | assumption | exact .refl _ _ | refine .trans0 ?_ ‹_›))))))
    case rest =>
      obtain ⟨xb, G', F', rfl, hs', FX, k3, k4, k5, hxF, hxG, hxb, hbx⟩ := hcut
      have hszV := FW2.size
      have hszV2 : w.heap.size + 1 < V.heap.size := (Array.getElem?_eq_some_iff.1 hb2c).1
      have hb0x := FX.at_ hb0c hgbG
      have hs1G : w.heap.size + 1 ∉ G := fun h => by have := HG _ h; omega
      have hb2x := FX.at_ hb2c hs1G
      have hlx := hlc.frm FX hlG
      obtain ⟨r1, r2, r3, st'⟩ := r
      dsimp only at hbx hs' HT2
      clear p0 p1 p2 y0 y1 y2 y3 y4 t0 t1 t2 t3
      obtain ⟨p0, p1, p2⟩ := blk2 hb0x
      obtain ⟨y0, y1, y2, y3, y4⟩ := blk3 hb2x
      obtain ⟨x0, x1, x2, x3, x4⟩ := blk3 hbx
      go_wp2_with (go_at_call 47; refine (lat_join l lb _ _ _ (hlx.frm0 (by repeat (first | with_reducible (first | refine .alloc ?_ _ | refine .drewN ?_ _ | refine .drew ?_) | ((with_reducible refine .setCell ?_ ?_ _); rotate_left; focus (first | (left; simp; done) | (right; simp; (first | done | omega)))) | with_reducible (first | assumption | exact .refl _ _ | refine .trans0 ?_ ‹_›))))).mono ?_; rintro e w7 ⟨rfl, hd⟩; have F7 := hd.frm []; have hb2x7 := F7.at0 hb2x; have hbx7 := F7.at0 hbx; obtain ⟨Y0, Y1, Y2, Y3, Y4⟩ := blk3 hb2x7; obtain ⟨X0, X1, X2, X3, X4⟩ := blk3 hbx7)
      have F5 : Frm [xb] w7 (w7.setCell ⟨xb, 1, none⟩ (.int .i64 (l.join r2 lev))) := (by repeat (first | with_reducible (first | refine .alloc ?_ _ | refine .drewN ?_ _ | refine .drew ?_) | ((with_reducible refine .setCell ?_ ?_ _); rotate_left; focus (first | (left; simp; done) | (right; simp; (first | done | omega)))) | with_reducible (first | assumption | exact .refl _ _ | refine .trans0 ?_ ‹_›)))
      have hb25 := F5.at_ hb2x7 (by simp; omega)
      obtain ⟨hz1, hz2⟩ := told_store hb25 (.bool r1) (.int .i64 (l.join r2 lev)) (.int .i64 r3)
      generalize World.setCell (World.setCell _ _ _) _ _ = W5 at *
      obtain ⟨q0, q1, q2, q3, q4⟩ := blk3 hz1
      refine bodyPost_ret (v := toldV R) (by simp [toldV, results, Try.results35, go_sem, q0, q1, q2, HT2.out]) rfl ?_
      refine ⟨rfl, ?_⟩
      rw [HT2.out]
      have F6 : Frm [xb, w.heap.size + 1] wc W5 := ((F7.mono (by simp)).trans' (F5.mono (by simp))).trans' (hz2.mono (by simp))
      refine ⟨G', F', hs'.frm F6 (fun b hb => ?_) (fun b hb => ?_), (((FW2.mono (by simp)).trans' FX).trans F6 (fun b hb => ?_)), fun b hb => k3 b (List.mem_cons_of_mem _ hb), fun b hb => ?_, fun b hb => (k5 b hb).imp id (fun h => by omega)⟩
      · simp only [List.mem_cons, List.not_mem_nil, or_false] at hb
        rcases hb with rfl | rfl
        · exact hxG
        · exact fun h => (k5 _ h).elim hs1G (fun h => by omega)
      · simp only [List.mem_cons, List.not_mem_nil, or_false] at hb
        rcases hb with rfl | rfl
        · exact hxF
        · exact k3 _ (by simp)
      · simp only [List.mem_cons, List.not_mem_nil, or_false] at hb
        rcases hb with rfl | rfl <;> exact .inr (by omega)
      · rcases k4 b hb with h | h
        · rcases List.mem_cons.1 h with rfl | h
          · exact .inr (by omega)
          · exact .inl h
        · exact .inr (by omega)
  · have ha' : (eb != 0) = true := by simpa using ha
    have HT2 : Hid (R = (false, lev, eb, st)) := by show _ = _; rw [HT.out, if_neg ha]
    clear ha HT
    go_wp2
    obtain ⟨hz1, hz2⟩ := told_store hb2c (.bool false) (.int .i64 lev) (.int .i64 eb)
    generalize World.setCell (World.setCell _ _ _) _ _ = W5 at *
    obtain ⟨r0, r1, r2, r3, r4⟩ := blk3 hz1
    refine bodyPost_ret (v := toldV R) (by simp [toldV, results, Try.results35, go_sem, r0, r1, r2, HT2.out]) rfl ?_
    refine ⟨rfl, ?_⟩
    rw [HT2.out]
    exact StoreTo.quiet hs (FW2.trans hz2 (fun b hb => by rw [List.mem_singleton.1 hb]; exact .inr (by omega)))
end Go.Proofs.Ytkiofaojokofbaa
