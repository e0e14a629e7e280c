/- Contracts and plain laws: Goals3 MatchP Goals4 Shift Parts TermBox. -/
import Derived.Test.YtkiofaojokofbaaBuiltF
import Derived.WalkSpells
import Derived.WalkLawsBesides
import Derived.Deep.QuietTactic
import Derived.BigQuiet
import Derived.Deep.DeepCutAuto
import Derived.Deep.RegionHeld3
import Derived.Lib.Hide
import Derived.Handy
import Derived.Test.YtkiofaojokofbaaBuiltE
import Derived.Test.YtkiofaojokofbaaBuiltB
import Derived.Test.YtkiofaojokofbaaBuiltA
import Derived.RangeFuncNested
import Derived.RangeFuncBound
import Derived.RangeFuncCalls
import Derived.RangeFuncLeaves
import Derived.RangeFuncBox
import Derived.Shelf.Abstract
import Derived.Shelf.RegionOpen
import Derived.WalkKit
import Derived.OwnWalkIn
import Derived.TacticsInMore
import Derived.LoopNIn
import Derived.LoopIn
import Derived.RangeFuncFrom
namespace Go.Proofs.Ytkiofaojokofbaa
open Go.RowKit

def PStore.cmpT (l : Lat) (st : PStore) (p : Int → Bool) (a b : Term) : Bool × Int × Int × PStore :=
  if (st.full a).2 = 0 then
    (if (st.full b).2 = 0 then (p (bareF (st.full a).1.erase (st.full b).1.erase), l.join (l.joinT (st.full a).1) (l.joinT (st.full b).1), 0, st) else (false, l.bottom, (st.full b).2, st))
  else (false, l.bottom, (st.full a).2, st)

set_option maxRecDepth 100000 in
set_option maxHeartbeats 4000000 in
theorem goal_compare (G F : List Nat) (sb lb gb hb : Nat) (hf : FuncId) (p : Int → Bool) (eg : ∀ args w, (callFunc hf args).run Try.prog w = .ok (.enter hf args) w)
    (hp : ∀ (c : Int) (w : World), Calls Try.prog hf #[.int .i64 c] w fun e w' => e = .returned (.bool (p c)) ∧ w = w') (l : Lat) (st : PStore) (a b : Term) (A : Option Addr) (cap : Nat) (w : World) (hl : LatAt w lb l) (hs : StoreAt G F w sb st) (hk : KidsV F w [a, b] A 0)
    (hg : GoalsAt w gb sb lb) (ho : w.heap[hb]? = some (.cells #[.func (.func hf) #[] #[]] 73 (0, 0))) :
    Calls Try.prog 51 #[.slice A 2 cap, .pointer (some ⟨gb, 0, none⟩), .pointer (some ⟨hb, 0, none⟩)] w fun e w' => e = .returned (toldV (st.cmpT l p a b)) ∧ Frm [] w w' := by
  have hF := hs.lt
  obtain ⟨g, off, A1, c1, A2, c2, rfl, hgg, hgF, e0, e1, e2, e3, d0, d1, d2, d3, hA, hB⟩ := hk.pair
  obtain ⟨q0, q1, hgb⟩ := hg.c
  have hob : w.cell? ⟨hb, 0, none⟩ = some (.func (.func hf) #[] #[]) := by simp [World.cell?, ho]
  have hobl := (Array.getElem?_eq_some_iff.1 ho).1
  have HW1 := Lib.hid (fun F v w1 => store_full G F sb st a v w1)
  have HW2 := Lib.hid (fun F v w1 => store_full G F sb st b v w1)
  have HT : Hid (st.cmpT l p a b = if (st.full a).2 = 0 then
    (if (st.full b).2 = 0 then (p (bareF (st.full a).1.erase (st.full b).1.erase), l.join (l.joinT (st.full a).1) (l.joinT (st.full b).1), 0, st) else (false, l.bottom, (st.full b).2, st))
    else (false, l.bottom, (st.full a).2, st)) := rfl
  have HP := Lib.hid hp
  clear hp
  generalize st.cmpT l p a b = R at *
  generalize st.full a = q at *
  generalize st.full b = qb at *
  go_enter Try.func51, Try.ntmps51
  go_upto_region 1 with (fail)
  generalize hW : World.alloc _ _ = W
  have hb2 : W.heap[w.heap.size]? = some (.cells #[.bool false, .int .i64 0, .int .i64 0] 59 (0, 0)) := by subst hW; exact (by repeat (first | rw [heap_alloc_at] | rw [heap_size_alloc] | rfl | rw [if_pos (by omega)] | rw [if_neg (by omega)]))
  have FW : Frm [] w W := by subst hW; exact (by repeat (first | with_reducible (first | refine .alloc ?_ _ | refine .drewN ?_ _ | refine .drew ?_) | ((with_reducible refine .setCell ?_ ?_ _); rotate_left; focus (first | (left; simp; done) | (right; simp; (first | done | omega)))) | with_reducible (first | assumption | exact .refl _ _ | refine .trans0 ?_ ‹_›)))
  clear hW
  have p0 := (FW.cell hgb (by simp)).trans q0
  have p1 := (FW.cell hgb (by simp)).trans q1
  have s0 := (FW.cell hgg (by simp)).trans e0
  have s1 := (FW.cell hgg (by simp)).trans e1
  have s2 := (FW.cell hgg (by simp)).trans e2
  have s3 := (FW.cell hgg (by simp)).trans e3
  have hsz := FW.size
  have hFW : ∀ b, b ∈ F → b < W.heap.size := fun b hb => Nat.lt_of_lt_of_le (hF b hb) hsz
  have hgbW := Nat.lt_of_lt_of_le hgb hsz
  have hggW := Nat.lt_of_lt_of_le hgg hsz
  go_cut [5, 6] (fun x5 x6 wx => KindMid F W q x5 x6 wx)
  case first =>
    have HW := HW1
    refine wp_region_U (fun w' => Frm [] W w') (fun i => List.contains [0, 1, 2, 3, 4, 5, 9] i) (by kernel_rfl) ?rgnS1 (fun hHeld => ?rgnB1)
    case rgnS1 => (first | (dsimp only; (first | exact (by repeat (first | with_reducible (first | refine .alloc ?_ _ | refine .drewN ?_ _ | refine .drew ?_) | ((with_reducible refine .setCell ?_ ?_ _); rotate_left; focus (first | (left; simp; done) | (right; simp; (first | done | omega)))) | with_reducible (first | assumption | exact .refl _ _ | refine .trans0 ?_ ‹_›))) | exact F02)) | (first | exact (by repeat (first | with_reducible (first | refine .alloc ?_ _ | refine .drewN ?_ _ | refine .drew ?_) | ((with_reducible refine .setCell ?_ ?_ _); rotate_left; focus (first | (left; simp; done) | (right; simp; (first | done | omega)))) | with_reducible (first | assumption | exact .refl _ _ | refine .trans0 ?_ ‹_›))) | exact F02))
    case' rgnB1 => skip
    refine Pend.start [0, 1, 2, 3, 4] ?_
    iterate 5 (refine tk (v := ?_) rfl (by kernel_rfl) (by rfl) (fun _ _ _ h => h) (by assumption) ?_ ?_; rotate_left; (focus (intro wq hSw; (try dsimp only at hSw); have P0 := (hSw.cell hgbW (by simp)).trans p0; have P1 := (hSw.cell hgbW (by simp)).trans p1; have S0 := (hSw.cell hggW (by simp)).trans s0; have S1 := (hSw.cell hggW (by simp)).trans s1; have S2 := (hSw.cell hggW (by simp)).trans s2; have S3 := (hSw.cell hggW (by simp)).trans s3; go_simp; (first | done | with_reducible rfl))); try simp only [Act.put, List.setIfInBounds_toArray, List.set_cons_zero, List.set_cons_succ])
    refine Pend.done ?_
    refine two 5 9 (by kernel_rfl) rfl rfl (fun K' hK => ?_) (fun K' hK => ?_)
    · skip
      (go_simp; (first | (with_reducible refine (HW.out (W.heap.size :: F) _ (World.drew (World.alloc _ _)) ?_ ?_).mono ?_; (focus exact (hs.keep FW).more (F' := W.heap.size :: F) (H := []) (by repeat (first | with_reducible (first | refine .alloc ?_ _ | refine .drewN ?_ _ | refine .drew ?_) | ((with_reducible refine .setCell ?_ ?_ _); rotate_left; focus (first | (left; simp; done) | (right; simp; (first | done | omega)))) | with_reducible (first | assumption | exact .refl _ _ | refine .trans0 ?_ ‹_›))) (by simp) (by simp) (new_one (Nat.le_refl _)) (fun b hb => by simp [hb]) (lt_one hFW (by simp) (by simp))); (focus exact ((hA.keep FW).away (F' := W.heap.size :: F) (new_one (Nat.le_refl _))).keep (by repeat (first | with_reducible (first | refine .alloc ?_ _ | refine .drewN ?_ _ | refine .drew ?_) | ((with_reducible refine .setCell ?_ ?_ _); rotate_left; focus (first | (left; simp; done) | (right; simp; (first | done | omega)))) | with_reducible (first | assumption | exact .refl _ _ | refine .trans0 ?_ ‹_›))))) | (refine (HW.out F _ _ ((hs.keep FW).keep (by repeat (first | with_reducible (first | refine .alloc ?_ _ | refine .drewN ?_ _ | refine .drew ?_) | ((with_reducible refine .setCell ?_ ?_ _); rotate_left; focus (first | (left; simp; done) | (right; simp; (first | done | omega)))) | with_reducible (first | assumption | exact .refl _ _ | refine .trans0 ?_ ‹_›)))) ((hA.keep FW).keep (by repeat (first | with_reducible (first | refine .alloc ?_ _ | refine .drewN ?_ _ | refine .drew ?_) | ((with_reducible refine .setCell ?_ ?_ _); rotate_left; focus (first | (left; simp; done) | (right; simp; (first | done | omega)))) | with_reducible (first | assumption | exact .refl _ _ | refine .trans0 ?_ ‹_›))))).mono ?_)); rintro e w2 ⟨⟨v2, rfl, hv2⟩, F2⟩; obtain ⟨A3, cap3, rfl⟩ := hv2.form; (try (have hz3 := F2.at0 (alloc_heap_new _ _); obtain ⟨z0, z1, z2, z3, z4, z5⟩ := blk4 hz3)); have F02 : Frm [] W w2 := Frm.trans0 (by repeat (first | with_reducible (first | refine .alloc ?_ _ | refine .drewN ?_ _ | refine .drew ?_) | ((with_reducible refine .setCell ?_ ?_ _); rotate_left; focus (first | (left; simp; done) | (right; simp; (first | done | omega)))) | with_reducible (first | assumption | exact .refl _ _ | refine .trans0 ?_ ‹_›))) F2; have hsz2 := F02.size; dsimp only)
      refine hK.out _ _ (fun _ => ?rgnS2) (fun hH => ?rgnB2)
      case rgnS2 => (first | (dsimp only; (first | exact (by repeat (first | with_reducible (first | refine .alloc ?_ _ | refine .drewN ?_ _ | refine .drew ?_) | ((with_reducible refine .setCell ?_ ?_ _); rotate_left; focus (first | (left; simp; done) | (right; simp; (first | done | omega)))) | with_reducible (first | assumption | exact .refl _ _ | refine .trans0 ?_ ‹_›))) | exact F02)) | (first | exact (by repeat (first | with_reducible (first | refine .alloc ?_ _ | refine .drewN ?_ _ | refine .drew ?_) | ((with_reducible refine .setCell ?_ ?_ _); rotate_left; focus (first | (left; simp; done) | (right; simp; (first | done | omega)))) | with_reducible (first | assumption | exact .refl _ _ | refine .trans0 ?_ ‹_›))) | exact F02))
      case' rgnB2 => ((try clear hHeld); have hHeld := hH (by decide); clear hH)
      clear hK K'
      try simp only [Act.put, List.setIfInBounds_toArray, List.set_cons_zero, List.set_cons_succ]
      refine Pend.start [6, 7, 8] ?_
      iterate 3 (refine tkl (v := ?_) rfl (by kernel_rfl) (by rfl) (fun _ _ _ h => h) ?_ ?_; rotate_left; (focus (intro wq hSw; go_simp; (first | done | with_reducible rfl))); try simp only [Act.put, List.setIfInBounds_toArray, List.set_cons_zero, List.set_cons_succ])
      refine Pend.done ?_
      refine one 9 (by kernel_rfl) rfl (fun K' hK => ?_)
      go_simp
      refine hK.out _ _ (fun _ => ?rgnS3) (fun hH => ?rgnB3)
      case rgnS3 => (first | (dsimp only; (first | exact (by repeat (first | with_reducible (first | refine .alloc ?_ _ | refine .drewN ?_ _ | refine .drew ?_) | ((with_reducible refine .setCell ?_ ?_ _); rotate_left; focus (first | (left; simp; done) | (right; simp; (first | done | omega)))) | with_reducible (first | assumption | exact .refl _ _ | refine .trans0 ?_ ‹_›))) | exact F02)) | (first | exact (by repeat (first | with_reducible (first | refine .alloc ?_ _ | refine .drewN ?_ _ | refine .drew ?_) | ((with_reducible refine .setCell ?_ ?_ _); rotate_left; focus (first | (left; simp; done) | (right; simp; (first | done | omega)))) | with_reducible (first | assumption | exact .refl _ _ | refine .trans0 ?_ ‹_›))) | exact F02))
      case' rgnB3 => ((try clear hHeld); have hHeld := hH (by decide); clear hH)
      clear hK K'
      try simp only [Act.put, List.setIfInBounds_toArray, List.set_cons_zero, List.set_cons_succ]
      refine one 10 (by kernel_rfl) rfl (fun K' hK => ?_)
      go_simp
      refine hK.out _ _ (fun h => absurd h (by decide)) (fun _ => ?_)
      clear hK K'
      try simp only [Act.put, List.setIfInBounds_toArray, List.set_cons_zero, List.set_cons_succ]
      refine Pend.start [11] ?_
      (refine tkl (v := ?_) rfl (by kernel_rfl) (by rfl) (fun _ _ _ h => h) ?_ ?_; rotate_left; (focus (intro wq hSw; go_simp; (first | done | with_reducible rfl))); try simp only [Act.put, List.setIfInBounds_toArray, List.set_cons_zero, List.set_cons_succ])
      refine Pend.done ?_
      refine wpAnyU_done (by kernel_rfl) ?_ _
      (go_wp2; go_meet; (first | exact ⟨_, rfl, rfl, ⟨A3, cap3, box_store4 hz3 _ _ _ _, TermV.away (hv2.frm (box4_frm' _ _ _ _ _ _) (by simp)) (fun b hb => .inl (by simp [hb]))⟩, F02.trans (box4_frm' _ _ _ _ _ _) (fun b hb => by rw [List.mem_singleton.1 hb]; exact .inr (by omega))⟩ | exact ⟨_, rfl, rfl, ⟨A3, cap3, alloc_heap_new _ _, hv2.keep (by repeat (first | with_reducible (first | refine .alloc ?_ _ | refine .drewN ?_ _ | refine .drew ?_) | ((with_reducible refine .setCell ?_ ?_ _); rotate_left; focus (first | (left; simp; done) | (right; simp; (first | done | omega)))) | with_reducible (first | assumption | exact .refl _ _ | refine .trans0 ?_ ‹_›)))⟩, F02.alloc _⟩))
    · skip
      go_simp
      refine hK.out _ _ (fun _ => ?rgnS4) (fun hH => ?rgnB4)
      case rgnS4 => (first | (dsimp only; (first | exact (by repeat (first | with_reducible (first | refine .alloc ?_ _ | refine .drewN ?_ _ | refine .drew ?_) | ((with_reducible refine .setCell ?_ ?_ _); rotate_left; focus (first | (left; simp; done) | (right; simp; (first | done | omega)))) | with_reducible (first | assumption | exact .refl _ _ | refine .trans0 ?_ ‹_›))) | exact F02)) | (first | exact (by repeat (first | with_reducible (first | refine .alloc ?_ _ | refine .drewN ?_ _ | refine .drew ?_) | ((with_reducible refine .setCell ?_ ?_ _); rotate_left; focus (first | (left; simp; done) | (right; simp; (first | done | omega)))) | with_reducible (first | assumption | exact .refl _ _ | refine .trans0 ?_ ‹_›))) | exact F02))
      case' rgnB4 => ((try clear hHeld); have hHeld := hH (by decide); clear hH)
      clear hK K'
      try simp only [Act.put, List.setIfInBounds_toArray, List.set_cons_zero, List.set_cons_succ]
      refine one 5 (by kernel_rfl) rfl (fun K' hK => ?_)
      (go_simp; (first | (with_reducible refine (HW.out (W.heap.size :: F) _ (World.drew (World.alloc _ _)) ?_ ?_).mono ?_; (focus exact (hs.keep FW).more (F' := W.heap.size :: F) (H := []) (by repeat (first | with_reducible (first | refine .alloc ?_ _ | refine .drewN ?_ _ | refine .drew ?_) | ((with_reducible refine .setCell ?_ ?_ _); rotate_left; focus (first | (left; simp; done) | (right; simp; (first | done | omega)))) | with_reducible (first | assumption | exact .refl _ _ | refine .trans0 ?_ ‹_›))) (by simp) (by simp) (new_one (Nat.le_refl _)) (fun b hb => by simp [hb]) (lt_one hFW (by simp) (by simp))); (focus exact ((hA.keep FW).away (F' := W.heap.size :: F) (new_one (Nat.le_refl _))).keep (by repeat (first | with_reducible (first | refine .alloc ?_ _ | refine .drewN ?_ _ | refine .drew ?_) | ((with_reducible refine .setCell ?_ ?_ _); rotate_left; focus (first | (left; simp; done) | (right; simp; (first | done | omega)))) | with_reducible (first | assumption | exact .refl _ _ | refine .trans0 ?_ ‹_›))))) | (refine (HW.out F _ _ ((hs.keep FW).keep (by repeat (first | with_reducible (first | refine .alloc ?_ _ | refine .drewN ?_ _ | refine .drew ?_) | ((with_reducible refine .setCell ?_ ?_ _); rotate_left; focus (first | (left; simp; done) | (right; simp; (first | done | omega)))) | with_reducible (first | assumption | exact .refl _ _ | refine .trans0 ?_ ‹_›)))) ((hA.keep FW).keep (by repeat (first | with_reducible (first | refine .alloc ?_ _ | refine .drewN ?_ _ | refine .drew ?_) | ((with_reducible refine .setCell ?_ ?_ _); rotate_left; focus (first | (left; simp; done) | (right; simp; (first | done | omega)))) | with_reducible (first | assumption | exact .refl _ _ | refine .trans0 ?_ ‹_›))))).mono ?_)); rintro e w2 ⟨⟨v2, rfl, hv2⟩, F2⟩; obtain ⟨A3, cap3, rfl⟩ := hv2.form; (try (have hz3 := F2.at0 (alloc_heap_new _ _); obtain ⟨z0, z1, z2, z3, z4, z5⟩ := blk4 hz3)); have F02 : Frm [] W w2 := Frm.trans0 (by repeat (first | with_reducible (first | refine .alloc ?_ _ | refine .drewN ?_ _ | refine .drew ?_) | ((with_reducible refine .setCell ?_ ?_ _); rotate_left; focus (first | (left; simp; done) | (right; simp; (first | done | omega)))) | with_reducible (first | assumption | exact .refl _ _ | refine .trans0 ?_ ‹_›))) F2; have hsz2 := F02.size; dsimp only)
      refine hK.out _ _ (fun _ => ?rgnS5) (fun hH => ?rgnB5)
      case rgnS5 => (first | (dsimp only; (first | exact (by repeat (first | with_reducible (first | refine .alloc ?_ _ | refine .drewN ?_ _ | refine .drew ?_) | ((with_reducible refine .setCell ?_ ?_ _); rotate_left; focus (first | (left; simp; done) | (right; simp; (first | done | omega)))) | with_reducible (first | assumption | exact .refl _ _ | refine .trans0 ?_ ‹_›))) | exact F02)) | (first | exact (by repeat (first | with_reducible (first | refine .alloc ?_ _ | refine .drewN ?_ _ | refine .drew ?_) | ((with_reducible refine .setCell ?_ ?_ _); rotate_left; focus (first | (left; simp; done) | (right; simp; (first | done | omega)))) | with_reducible (first | assumption | exact .refl _ _ | refine .trans0 ?_ ‹_›))) | exact F02))
      case' rgnB5 => ((try clear hHeld); have hHeld := hH (by decide); clear hH)
      clear hK K'
      try simp only [Act.put, List.setIfInBounds_toArray, List.set_cons_zero, List.set_cons_succ]
      refine Pend.start [6, 7, 8] ?_
      iterate 3 (refine tkl (v := ?_) rfl (by kernel_rfl) (by rfl) (fun _ _ _ h => h) ?_ ?_; rotate_left; (focus (intro wq hSw; go_simp; (first | done | with_reducible rfl))); try simp only [Act.put, List.setIfInBounds_toArray, List.set_cons_zero, List.set_cons_succ])
      refine Pend.done ?_
      refine one 10 (by kernel_rfl) rfl (fun K' hK => ?_)
      go_simp
      refine hK.out _ _ (fun h => absurd h (by decide)) (fun _ => ?_)
      clear hK K'
      try simp only [Act.put, List.setIfInBounds_toArray, List.set_cons_zero, List.set_cons_succ]
      refine Pend.start [11] ?_
      (refine tkl (v := ?_) rfl (by kernel_rfl) (by rfl) (fun _ _ _ h => h) ?_ ?_; rotate_left; (focus (intro wq hSw; go_simp; (first | done | with_reducible rfl))); try simp only [Act.put, List.setIfInBounds_toArray, List.set_cons_zero, List.set_cons_succ])
      refine Pend.done ?_
      refine wpAnyU_done (by kernel_rfl) ?_ _
      (go_wp2; go_meet; (first | exact ⟨_, rfl, rfl, ⟨A3, cap3, box_store4 hz3 _ _ _ _, TermV.away (hv2.frm (box4_frm' _ _ _ _ _ _) (by simp)) (fun b hb => .inl (by simp [hb]))⟩, F02.trans (box4_frm' _ _ _ _ _ _) (fun b hb => by rw [List.mem_singleton.1 hb]; exact .inr (by omega))⟩ | exact ⟨_, rfl, rfl, ⟨A3, cap3, alloc_heap_new _ _, hv2.keep (by repeat (first | with_reducible (first | refine .alloc ?_ _ | refine .drewN ?_ _ | refine .drew ?_) | ((with_reducible refine .setCell ?_ ?_ _); rotate_left; focus (first | (left; simp; done) | (right; simp; (first | done | omega)))) | with_reducible (first | assumption | exact .refl _ _ | refine .trans0 ?_ ‹_›)))⟩, F02.alloc _⟩))
  case rest =>
    rename World => V3
    obtain ⟨xb, rfl, rfl, ⟨A3, cap3, hbx, hv3⟩, F3⟩ := hcut
    have FW3 := FW.trans0 F3
    clear p0 p1 s0 s1 s2 s3 HW1
    have hb3 := F3.at0 hb2
    obtain ⟨y0, y1, y2, y3, y4⟩ := blk3 hb3
    have p0 := (FW3.cell hgb (by simp)).trans q0
    have p1 := (FW3.cell hgb (by simp)).trans q1
    by_cases ha : q.2 = 0
    · have ha' : (q.2 != 0) = false := by simpa using ha
      have HT2 : Hid (R = if qb.2 = 0 then (p (bareF q.1.erase qb.1.erase), l.join (l.joinT q.1) (l.joinT qb.1), 0, st) else (false, l.bottom, qb.2, st)) := by show _ = _; rw [HT.out, if_pos ha]
      clear ha HT
      have FW := FW3
      have hsz := FW.size
      have hszc := F3.size
      have hFW : ∀ b, b ∈ F → b < V3.heap.size := fun b hb => Nat.lt_of_lt_of_le (hF b hb) hsz
      have hgbW := Nat.lt_of_lt_of_le hgb hsz
      have hggW := Nat.lt_of_lt_of_le hgg hsz
      have s0 := (FW3.cell hgg (by simp)).trans d0
      have s1 := (FW3.cell hgg (by simp)).trans d1
      have s2 := (FW3.cell hgg (by simp)).trans d2
      have s3 := (FW3.cell hgg (by simp)).trans d3
      go_upto_region 4 with (fail)
      go_cut [7, 6] (fun x5 x6 wx => KindMid F V3 qb x5 x6 wx)
      case first =>
        have HW := HW2
        refine wp_region_U (fun w' => Frm [] V3 w') (fun i => List.contains [0, 1, 2, 3, 4, 5, 9] i) (by kernel_rfl) ?rgnS6 (fun hHeld => ?rgnB6)
        case rgnS6 => (first | (dsimp only; (first | exact (by repeat (first | with_reducible (first | refine .alloc ?_ _ | refine .drewN ?_ _ | refine .drew ?_) | ((with_reducible refine .setCell ?_ ?_ _); rotate_left; focus (first | (left; simp; done) | (right; simp; (first | done | omega)))) | with_reducible (first | assumption | exact .refl _ _ | refine .trans0 ?_ ‹_›))) | exact F02)) | (first | exact (by repeat (first | with_reducible (first | refine .alloc ?_ _ | refine .drewN ?_ _ | refine .drew ?_) | ((with_reducible refine .setCell ?_ ?_ _); rotate_left; focus (first | (left; simp; done) | (right; simp; (first | done | omega)))) | with_reducible (first | assumption | exact .refl _ _ | refine .trans0 ?_ ‹_›))) | exact F02))
        case' rgnB6 => skip
        refine Pend.start [0, 1, 2, 3, 4] ?_
        iterate 5 (refine tk (v := ?_) rfl (by kernel_rfl) (by rfl) (fun _ _ _ h => h) (by assumption) ?_ ?_; rotate_left; (focus (intro wq hSw; (try dsimp only at hSw); have P0 := (hSw.cell hgbW (by simp)).trans p0; have P1 := (hSw.cell hgbW (by simp)).trans p1; have S0 := (hSw.cell hggW (by simp)).trans s0; have S1 := (hSw.cell hggW (by simp)).trans s1; have S2 := (hSw.cell hggW (by simp)).trans s2; have S3 := (hSw.cell hggW (by simp)).trans s3; go_simp; (first | done | with_reducible rfl))); try simp only [Act.put, List.setIfInBounds_toArray, List.set_cons_zero, List.set_cons_succ])
        refine Pend.done ?_
        refine two 5 9 (by kernel_rfl) rfl rfl (fun K' hK => ?_) (fun K' hK => ?_)
        · skip
          (go_simp; (first | (with_reducible refine (HW.out (V3.heap.size :: F) _ (World.drew (World.alloc _ _)) ?_ ?_).mono ?_; (focus exact (hs.keep FW).more (F' := V3.heap.size :: F) (H := []) (by repeat (first | with_reducible (first | refine .alloc ?_ _ | refine .drewN ?_ _ | refine .drew ?_) | ((with_reducible refine .setCell ?_ ?_ _); rotate_left; focus (first | (left; simp; done) | (right; simp; (first | done | omega)))) | with_reducible (first | assumption | exact .refl _ _ | refine .trans0 ?_ ‹_›))) (by simp) (by simp) (new_one (Nat.le_refl _)) (fun b hb => by simp [hb]) (lt_one hFW (by simp) (by simp))); (focus exact ((hB.keep FW).away (F' := V3.heap.size :: F) (new_one (Nat.le_refl _))).keep (by repeat (first | with_reducible (first | refine .alloc ?_ _ | refine .drewN ?_ _ | refine .drew ?_) | ((with_reducible refine .setCell ?_ ?_ _); rotate_left; focus (first | (left; simp; done) | (right; simp; (first | done | omega)))) | with_reducible (first | assumption | exact .refl _ _ | refine .trans0 ?_ ‹_›))))) | (refine (HW.out F _ _ ((hs.keep FW).keep (by repeat (first | with_reducible (first | refine .alloc ?_ _ | refine .drewN ?_ _ | refine .drew ?_) | ((with_reducible refine .setCell ?_ ?_ _); rotate_left; focus (first | (left; simp; done) | (right; simp; (first | done | omega)))) | with_reducible (first | assumption | exact .refl _ _ | refine .trans0 ?_ ‹_›)))) ((hB.keep FW).keep (by repeat (first | with_reducible (first | refine .alloc ?_ _ | refine .drewN ?_ _ | refine .drew ?_) | ((with_reducible refine .setCell ?_ ?_ _); rotate_left; focus (first | (left; simp; done) | (right; simp; (first | done | omega)))) | with_reducible (first | assumption | exact .refl _ _ | refine .trans0 ?_ ‹_›))))).mono ?_)); rintro e w2 ⟨⟨v2, rfl, hv2⟩, F2⟩; obtain ⟨A3, cap3, rfl⟩ := hv2.form; (try (have hz3 := F2.at0 (alloc_heap_new _ _); obtain ⟨z0, z1, z2, z3, z4, z5⟩ := blk4 hz3)); have F02 : Frm [] V3 w2 := Frm.trans0 (by repeat (first | with_reducible (first | refine .alloc ?_ _ | refine .drewN ?_ _ | refine .drew ?_) | ((with_reducible refine .setCell ?_ ?_ _); rotate_left; focus (first | (left; simp; done) | (right; simp; (first | done | omega)))) | with_reducible (first | assumption | exact .refl _ _ | refine .trans0 ?_ ‹_›))) F2; have hsz2 := F02.size; dsimp only)
          refine hK.out _ _ (fun _ => ?rgnS7) (fun hH => ?rgnB7)
          case rgnS7 => (first | (dsimp only; (first | exact (by repeat (first | with_reducible (first | refine .alloc ?_ _ | refine .drewN ?_ _ | refine .drew ?_) | ((with_reducible refine .setCell ?_ ?_ _); rotate_left; focus (first | (left; simp; done) | (right; simp; (first | done | omega)))) | with_reducible (first | assumption | exact .refl _ _ | refine .trans0 ?_ ‹_›))) | exact F02)) | (first | exact (by repeat (first | with_reducible (first | refine .alloc ?_ _ | refine .drewN ?_ _ | refine .drew ?_) | ((with_reducible refine .setCell ?_ ?_ _); rotate_left; focus (first | (left; simp; done) | (right; simp; (first | done | omega)))) | with_reducible (first | assumption | exact .refl _ _ | refine .trans0 ?_ ‹_›))) | exact F02))
          case' rgnB7 => ((try clear hHeld); have hHeld := hH (by decide); clear hH)
          clear hK K'
          try simp only [Act.put, List.setIfInBounds_toArray, List.set_cons_zero, List.set_cons_succ]
          refine Pend.start [6, 7, 8] ?_
          iterate 3 (refine tkl (v := ?_) rfl (by kernel_rfl) (by rfl) (fun _ _ _ h => h) ?_ ?_; rotate_left; (focus (intro wq hSw; go_simp; (first | done | with_reducible rfl))); try simp only [Act.put, List.setIfInBounds_toArray, List.set_cons_zero, List.set_cons_succ])
          refine Pend.done ?_
          refine one 9 (by kernel_rfl) rfl (fun K' hK => ?_)
          go_simp
          refine hK.out _ _ (fun _ => ?rgnS8) (fun hH => ?rgnB8)
          case rgnS8 => (first | (dsimp only; (first | exact (by repeat (first | with_reducible (first | refine .alloc ?_ _ | refine .drewN ?_ _ | refine .drew ?_) | ((with_reducible refine .setCell ?_ ?_ _); rotate_left; focus (first | (left; simp; done) | (right; simp; (first | done | omega)))) | with_reducible (first | assumption | exact .refl _ _ | refine .trans0 ?_ ‹_›))) | exact F02)) | (first | exact (by repeat (first | with_reducible (first | refine .alloc ?_ _ | refine .drewN ?_ _ | refine .drew ?_) | ((with_reducible refine .setCell ?_ ?_ _); rotate_left; focus (first | (left; simp; done) | (right; simp; (first | done | omega)))) | with_reducible (first | assumption | exact .refl _ _ | refine .trans0 ?_ ‹_›))) | exact F02))
          case' rgnB8 => ((try clear hHeld); have hHeld := hH (by decide); clear hH)
          clear hK K'
          try simp only [Act.put, List.setIfInBounds_toArray, List.set_cons_zero, List.set_cons_succ]
          refine one 10 (by kernel_rfl) rfl (fun K' hK => ?_)
          go_simp
          refine hK.out _ _ (fun h => absurd h (by decide)) (fun _ => ?_)
          clear hK K'
          try simp only [Act.put, List.setIfInBounds_toArray, List.set_cons_zero, List.set_cons_succ]
          refine Pend.start [11] ?_
          (refine tkl (v := ?_) rfl (by kernel_rfl) (by rfl) (fun _ _ _ h => h) ?_ ?_; rotate_left; (focus (intro wq hSw; go_simp; (first | done | with_reducible rfl))); try simp only [Act.put, List.setIfInBounds_toArray, List.set_cons_zero, List.set_cons_succ])
          refine Pend.done ?_
          refine wpAnyU_done (by kernel_rfl) ?_ _
          (go_wp2; go_meet; (first | exact ⟨_, rfl, rfl, ⟨A3, cap3, box_store4 hz3 _ _ _ _, TermV.away (hv2.frm (box4_frm' _ _ _ _ _ _) (by simp)) (fun b hb => .inl (by simp [hb]))⟩, F02.trans (box4_frm' _ _ _ _ _ _) (fun b hb => by rw [List.mem_singleton.1 hb]; exact .inr (by omega))⟩ | exact ⟨_, rfl, rfl, ⟨A3, cap3, alloc_heap_new _ _, hv2.keep (by repeat (first | with_reducible (first | refine .alloc ?_ _ | refine .drewN ?_ _ | refine .drew ?_) | ((with_reducible refine .setCell ?_ ?_ _); rotate_left; focus (first | (left; simp; done) | (right; simp; (first | done | omega)))) | with_reducible (first | assumption | exact .refl _ _ | refine .trans0 ?_ ‹_›)))⟩, F02.alloc _⟩))
        · skip
          go_simp
          refine hK.out _ _ (fun _ => ?rgnS9) (fun hH => ?rgnB9)
          case rgnS9 => (first | (dsimp only; (first | exact (by repeat (first | with_reducible (first | refine .alloc ?_ _ | refine .drewN ?_ _ | refine .drew ?_) | ((with_reducible refine .setCell ?_ ?_ _); rotate_left; focus (first | (left; simp; done) | (right; simp; (first | done | omega)))) | with_reducible (first | assumption | exact .refl _ _ | refine .trans0 ?_ ‹_›))) | exact F02)) | (first | exact (by repeat (first | with_reducible (first | refine .alloc ?_ _ | refine .drewN ?_ _ | refine .drew ?_) | ((with_reducible refine .setCell ?_ ?_ _); rotate_left; focus (first | (left; simp; done) | (right; simp; (first | done | omega)))) | with_reducible (first | assumption | exact .refl _ _ | refine .trans0 ?_ ‹_›))) | exact F02))
          case' rgnB9 => ((try clear hHeld); have hHeld := hH (by decide); clear hH)
          clear hK K'
          try simp only [Act.put, List.setIfInBounds_toArray, List.set_cons_zero, List.set_cons_succ]
          refine one 5 (by kernel_rfl) rfl (fun K' hK => ?_)
          (go_simp; (first | (with_reducible refine (HW.out (V3.heap.size :: F) _ (World.drew (World.alloc _ _)) ?_ ?_).mono ?_; (focus exact (hs.keep FW).more (F' := V3.heap.size :: F) (H := []) (by repeat (first | with_reducible (first | refine .alloc ?_ _ | refine .drewN ?_ _ | refine .drew ?_) | ((with_reducible refine .setCell ?_ ?_ _); rotate_left; focus (first | (left; simp; done) | (right; simp; (first | done | omega)))) | with_reducible (first | assumption | exact .refl _ _ | refine .trans0 ?_ ‹_›))) (by simp) (by simp) (new_one (Nat.le_refl _)) (fun b hb => by simp [hb]) (lt_one hFW (by simp) (by simp))); (focus exact ((hB.keep FW).away (F' := V3.heap.size :: F) (new_one (Nat.le_refl _))).keep (by repeat (first | with_reducible (first | refine .alloc ?_ _ | refine .drewN ?_ _ | refine .drew ?_) | ((with_reducible refine .setCell ?_ ?_ _); rotate_left; focus (first | (left; simp; done) | (right; simp; (first | done | omega)))) | with_reducible (first | assumption | exact .refl _ _ | refine .trans0 ?_ ‹_›))))) | (refine (HW.out F _ _ ((hs.keep FW).keep (by repeat (first | with_reducible (first | refine .alloc ?_ _ | refine .drewN ?_ _ | refine .drew ?_) | ((with_reducible refine .setCell ?_ ?_ _); rotate_left; focus (first | (left; simp; done) | (right; simp; (first | done | omega)))) | with_reducible (first | assumption | exact .refl _ _ | refine .trans0 ?_ ‹_›)))) ((hB.keep FW).keep (by repeat (first | with_reducible (first | refine .alloc ?_ _ | refine .drewN ?_ _ | refine .drew ?_) | ((with_reducible refine .setCell ?_ ?_ _); rotate_left; focus (first | (left; simp; done) | (right; simp; (first | done | omega)))) | with_reducible (first | assumption | exact .refl _ _ | refine .trans0 ?_ ‹_›))))).mono ?_)); rintro e w2 ⟨⟨v2, rfl, hv2⟩, F2⟩; obtain ⟨A3, cap3, rfl⟩ := hv2.form; (try (have hz3 := F2.at0 (alloc_heap_new _ _); obtain ⟨z0, z1, z2, z3, z4, z5⟩ := blk4 hz3)); have F02 : Frm [] V3 w2 := Frm.trans0 (by repeat (first | with_reducible (first | refine .alloc ?_ _ | refine .drewN ?_ _ | refine .drew ?_) | ((with_reducible refine .setCell ?_ ?_ _); rotate_left; focus (first | (left; simp; done) | (right; simp; (first | done | omega)))) | with_reducible (first | assumption | exact .refl _ _ | refine .trans0 ?_ ‹_›))) F2; have hsz2 := F02.size; dsimp only)
          refine hK.out _ _ (fun _ => ?rgnS10) (fun hH => ?rgnB10)
          case rgnS10 => (first | (dsimp only; (first | exact (by repeat (first | with_reducible (first | refine .alloc ?_ _ | refine .drewN ?_ _ | refine .drew ?_) | ((with_reducible refine .setCell ?_ ?_ _); rotate_left; focus (first | (left; simp; done) | (right; simp; (first | done | omega)))) | with_reducible (first | assumption | exact .refl _ _ | refine .trans0 ?_ ‹_›))) | exact F02)) | (first | exact (by repeat (first | with_reducible (first | refine .alloc ?_ _ | refine .drewN ?_ _ | refine .drew ?_) | ((with_reducible refine .setCell ?_ ?_ _); rotate_left; focus (first | (left; simp; done) | (right; simp; (first | done | omega)))) | with_reducible (first | assumption | exact .refl _ _ | refine .trans0 ?_ ‹_›))) | exact F02))
          case' rgnB10 => ((try clear hHeld); have hHeld := hH (by decide); clear hH)
          clear hK K'
          try simp only [Act.put, List.setIfInBounds_toArray, List.set_cons_zero, List.set_cons_succ]
          refine Pend.start [6, 7, 8] ?_
          iterate 3 (refine tkl (v := ?_) rfl (by kernel_rfl) (by rfl) (fun _ _ _ h => h) ?_ ?_; rotate_left; (focus (intro wq hSw; go_simp; (first | done | with_reducible rfl))); try simp only [Act.put, List.setIfInBounds_toArray, List.set_cons_zero, List.set_cons_succ])
          refine Pend.done ?_
          refine one 10 (by kernel_rfl) rfl (fun K' hK => ?_)
          go_simp
          refine hK.out _ _ (fun h => absurd h (by decide)) (fun _ => ?_)
          clear hK K'
          try simp only [Act.put, List.setIfInBounds_toArray, List.set_cons_zero, List.set_cons_succ]
          refine Pend.start [11] ?_
          (refine tkl (v := ?_) rfl (by kernel_rfl) (by rfl) (fun _ _ _ h => h) ?_ ?_; rotate_left; (focus (intro wq hSw; go_simp; (first | done | with_reducible rfl))); try simp only [Act.put, List.setIfInBounds_toArray, List.set_cons_zero, List.set_cons_succ])
          refine Pend.done ?_
          refine wpAnyU_done (by kernel_rfl) ?_ _
          (go_wp2; go_meet; (first | exact ⟨_, rfl, rfl, ⟨A3, cap3, box_store4 hz3 _ _ _ _, TermV.away (hv2.frm (box4_frm' _ _ _ _ _ _) (by simp)) (fun b hb => .inl (by simp [hb]))⟩, F02.trans (box4_frm' _ _ _ _ _ _) (fun b hb => by rw [List.mem_singleton.1 hb]; exact .inr (by omega))⟩ | exact ⟨_, rfl, rfl, ⟨A3, cap3, alloc_heap_new _ _, hv2.keep (by repeat (first | with_reducible (first | refine .alloc ?_ _ | refine .drewN ?_ _ | refine .drew ?_) | ((with_reducible refine .setCell ?_ ?_ _); rotate_left; focus (first | (left; simp; done) | (right; simp; (first | done | omega)))) | with_reducible (first | assumption | exact .refl _ _ | refine .trans0 ?_ ‹_›)))⟩, F02.alloc _⟩))
      case rest =>
        obtain ⟨yb, rfl, rfl, ⟨A4, cap4, hby, hv4⟩, F4⟩ := hcut
        have FW4 := FW.trans0 F4
        clear p0 p1 s0 s1 s2 s3 HW2
        have hb4 := F4.at0 hb3
        have hbx4 := F4.at0 hbx
        obtain ⟨y0, y1, y2, y3, y4⟩ := blk3 hb4
        obtain ⟨x0, x1, x2, x3, x4, x5⟩ := blk4 hbx4
        obtain ⟨t0, t1, t2, t3, t4, t5⟩ := blk4 hby
        have hv3' := hv3.keep F4
        have p0 := (FW4.cell hgb (by simp)).trans q0
        have p1 := (FW4.cell hgb (by simp)).trans q1
        have ho4 := (FW4.cell hobl (by simp)).trans hob
        have hgb4 := Nat.lt_of_lt_of_le hgb FW4.size
        have hob4 := Nat.lt_of_lt_of_le hobl FW4.size
        have hF4 : ∀ b, b ∈ F → b < wc.heap.size := fun b hb => Nat.lt_of_lt_of_le (hF b hb) FW4.size
        have HC := Lib.hid (fun w1 F1 => order_Compare q.1 qb.1 F _ _ w1 (hv3'.keep F1) (hv4.keep F1))
        have HTO := Lib.hid (fun w1 hl F1 => order_Touch l lb q.1 qb.1 F _ _ w1 hl (hv3'.keep F1) (hv4.keep F1))
        by_cases hqb : qb.2 = 0
        · have hb' : (qb.2 != 0) = false := by simpa using hqb
          have HT3 : Hid (R = (p (bareF q.1.erase qb.1.erase), l.join (l.joinT q.1) (l.joinT qb.1), 0, st)) := by show _ = _; rw [HT2.out, if_pos hqb]
          clear hqb HT2
          go_upto_region 7 with (fail)
          refine wp_region_U (fun w' => w'.cell? ⟨gb, 1, none⟩ = some (.pointer (some ⟨lb, 0, none⟩)) ∧ w'.cell? ⟨hb, 0, none⟩ = some (.func (.func hf) #[] #[]) ∧ w'.cell? ⟨xb, 0, none⟩ = some (.int .i64 q.1.kind) ∧ w'.cell? ⟨xb, 1, none⟩ = some (.int .i64 q.1.n) ∧ w'.cell? ⟨xb, 2, none⟩ = some (.string q.1.s) ∧ w'.cell? ⟨xb, 3, none⟩ = some (.slice A3 q.1.kids.length cap3) ∧ w'.cell? ⟨yb, 0, none⟩ = some (.int .i64 qb.1.kind) ∧ w'.cell? ⟨yb, 1, none⟩ = some (.int .i64 qb.1.n) ∧ w'.cell? ⟨yb, 2, none⟩ = some (.string qb.1.s) ∧ w'.cell? ⟨yb, 3, none⟩ = some (.slice A4 qb.1.kids.length cap4)) (fun i => Nat.blt i 9) (by kernel_rfl) ?rgnS11 (fun hHeld => ?rgnB11)
          case rgnS11 => (first | (dsimp only; go_keep) | go_keep)
          case' rgnB11 => skip
          refine Pend.start [0, 1, 2, 5, 6, 7, 8] ?_
          iterate 7 (refine tk (v := ?_) rfl (by kernel_rfl) (by rfl) (fun _ _ _ h => h) (by assumption) ?_ ?_; rotate_left; (focus (intro wq hSw; (try dsimp only at hSw); go_simp; (first | done | with_reducible rfl))); try simp only [Act.put, List.setIfInBounds_toArray, List.set_cons_zero, List.set_cons_succ])
          refine Pend.done ?_
          refine one 3 (by kernel_rfl) rfl (fun K' hK => ?_)
          (go_simp; refine (HC.out _ (by repeat (first | with_reducible (first | refine .alloc ?_ _ | refine .drewN ?_ _ | refine .drew ?_) | ((with_reducible refine .setCell ?_ ?_ _); rotate_left; focus (first | (left; simp; done) | (right; simp; (first | done | omega)))) | with_reducible (first | assumption | exact .refl _ _ | refine .trans0 ?_ ‹_›))) (fun b hb => by have := hF4 b hb; simpa using this)).mono ?_; rintro e w5 ⟨rfl, F5⟩; have F05 : Frm [] wc w5 := Frm.trans0 (by repeat (first | with_reducible (first | refine .alloc ?_ _ | refine .drewN ?_ _ | refine .drew ?_) | ((with_reducible refine .setCell ?_ ?_ _); rotate_left; focus (first | (left; simp; done) | (right; simp; (first | done | omega)))) | with_reducible (first | assumption | exact .refl _ _ | refine .trans0 ?_ ‹_›))) F5; obtain ⟨x0, x1, x2, x3, x4, x5⟩ := blk4 (F05.at0 hbx4); obtain ⟨t0, t1, t2, t3, t4, t5⟩ := blk4 (F05.at0 hby); have p1 := (F05.cell hgb4 (by simp)).trans p1; have ho5 := (F05.cell hob4 (by simp)).trans ho4; dsimp only)
          refine hK.out _ _ (fun _ => ?rgnS12) (fun hH => ?rgnB12)
          case rgnS12 => (first | (dsimp only; go_keep) | go_keep)
          case' rgnB12 => ((try clear hHeld); have hHeld := hH (by decide); clear hH)
          clear hK K'
          try simp only [Act.put, List.setIfInBounds_toArray, List.set_cons_zero, List.set_cons_succ]
          refine one 4 (by kernel_rfl) rfl (fun K' hK => ?_)
          (go_simp; refine (HP.out _ _).mono ?_; rintro e w6 ⟨rfl, rfl⟩; dsimp only)
          refine hK.out _ _ (fun _ => ?rgnS13) (fun hH => ?rgnB13)
          case rgnS13 => (first | (dsimp only; go_keep) | go_keep)
          case' rgnB13 => ((try clear hHeld); have hHeld := hH (by decide); clear hH)
          clear hK K'
          try simp only [Act.put, List.setIfInBounds_toArray, List.set_cons_zero, List.set_cons_succ]
          refine one 9 (by kernel_rfl) rfl (fun K' hK => ?_)
          (go_simp; refine (HTO.out _ (hl.frm0 (FW4.trans0 (F05.trans0 (by repeat (first | with_reducible (first | refine .alloc ?_ _ | refine .drewN ?_ _ | refine .drew ?_) | ((with_reducible refine .setCell ?_ ?_ _); rotate_left; focus (first | (left; simp; done) | (right; simp; (first | done | omega)))) | with_reducible (first | assumption | exact .refl _ _ | refine .trans0 ?_ ‹_›)))))) (F05.trans0 (by repeat (first | with_reducible (first | refine .alloc ?_ _ | refine .drewN ?_ _ | refine .drew ?_) | ((with_reducible refine .setCell ?_ ?_ _); rotate_left; focus (first | (left; simp; done) | (right; simp; (first | done | omega)))) | with_reducible (first | assumption | exact .refl _ _ | refine .trans0 ?_ ‹_›))))).mono ?_; rintro e w7 ⟨rfl, F7⟩; have F07 : Frm [] wc w7 := F05.trans0 (Frm.trans0 (by repeat (first | with_reducible (first | refine .alloc ?_ _ | refine .drewN ?_ _ | refine .drew ?_) | ((with_reducible refine .setCell ?_ ?_ _); rotate_left; focus (first | (left; simp; done) | (right; simp; (first | done | omega)))) | with_reducible (first | assumption | exact .refl _ _ | refine .trans0 ?_ ‹_›))) F7); have hb7 := F07.at0 hb4; obtain ⟨y0, y1, y2, y3, y4⟩ := blk3 hb7; dsimp only)
          refine hK.out _ _ (fun h => absurd h (by decide)) (fun _ => ?_)
          clear hK K'
          try simp only [Act.put, List.setIfInBounds_toArray, List.set_cons_zero, List.set_cons_succ]
          refine Pend.start [10] ?_
          (refine tkl (v := ?_) rfl (by kernel_rfl) (by rfl) (fun _ _ _ h => h) ?_ ?_; rotate_left; (focus (intro wq hSw; go_simp; (first | done | with_reducible rfl))); try simp only [Act.put, List.setIfInBounds_toArray, List.set_cons_zero, List.set_cons_succ])
          refine Pend.done ?_
          refine one 11 (by kernel_rfl) rfl (fun K' hK => ?_)
          go_simp
          refine hK.out _ _ (fun h => absurd h (by decide)) (fun _ => ?_)
          clear hK K'
          try simp only [Act.put, List.setIfInBounds_toArray, List.set_cons_zero, List.set_cons_succ]
          refine wpAnyU_done (by kernel_rfl) ?_ _
          go_wp2
          obtain ⟨hz1, hz2⟩ := told_store hb7 (.bool (p (bareF q.1.erase qb.1.erase))) (.int .i64 (l.join (l.joinT q.1) (l.joinT qb.1))) (.int .i64 0)
          generalize World.setCell (World.setCell _ _ _) _ _ = W5 at *
          obtain ⟨r0, r1, r2, r3, r4⟩ := blk3 hz1
          refine bodyPost_ret (v := toldV R) (by simp [toldV, results, Try.results51, go_sem, r0, r1, r2, HT3.out]) rfl ?_
          exact ⟨rfl, (FW4.trans0 F07).trans hz2 (fun b hb => by rw [List.mem_singleton.1 hb]; exact .inr (Nat.le_refl _))⟩
        · have hb' : (qb.2 != 0) = true := by simpa using hqb
          have HT3 : Hid (R = (false, l.bottom, qb.2, st)) := by show _ = _; rw [HT2.out, if_neg hqb]
          clear hqb HT2
          go_wp2_with (go_at_call 21; refine (lat_bottom l lb _ (hl.frm0 (FW4.trans0 (by repeat (first | with_reducible (first | refine .alloc ?_ _ | refine .drewN ?_ _ | refine .drew ?_) | ((with_reducible refine .setCell ?_ ?_ _); rotate_left; focus (first | (left; simp; done) | (right; simp; (first | done | omega)))) | with_reducible (first | assumption | exact .refl _ _ | refine .trans0 ?_ ‹_›)))))).mono ?_; rintro e w' ⟨rfl, rfl⟩)
          obtain ⟨hz1, hz2⟩ := told_store hb4 (.bool false) (.int .i64 l.bottom) (.int .i64 qb.2)
          generalize World.setCell (World.setCell _ _ _) _ _ = W5 at *
          obtain ⟨r0, r1, r2, r3, r4⟩ := blk3 hz1
          refine bodyPost_ret (v := toldV R) (by simp [toldV, results, Try.results51, go_sem, r0, r1, r2, HT3.out]) rfl ?_
          exact ⟨rfl, FW4.trans hz2 (fun b hb => by rw [List.mem_singleton.1 hb]; exact .inr (Nat.le_refl _))⟩
    · have ha' : (q.2 != 0) = true := by simpa using ha
      have HT2 : Hid (R = (false, l.bottom, q.2, st)) := by show _ = _; rw [HT.out, if_neg ha]
      clear ha HT
      go_wp2_with (go_at_call 21; refine (lat_bottom l lb _ (hl.frm0 (FW3.trans0 (by repeat (first | with_reducible (first | refine .alloc ?_ _ | refine .drewN ?_ _ | refine .drew ?_) | ((with_reducible refine .setCell ?_ ?_ _); rotate_left; focus (first | (left; simp; done) | (right; simp; (first | done | omega)))) | with_reducible (first | assumption | exact .refl _ _ | refine .trans0 ?_ ‹_›)))))).mono ?_; rintro e w' ⟨rfl, rfl⟩)
      obtain ⟨hz1, hz2⟩ := told_store hb3 (.bool false) (.int .i64 l.bottom) (.int .i64 q.2)
      generalize World.setCell (World.setCell _ _ _) _ _ = W5 at *
      obtain ⟨r0, r1, r2, r3, r4⟩ := blk3 hz1
      refine bodyPost_ret (v := toldV R) (by simp [toldV, results, Try.results51, go_sem, r0, r1, r2, HT2.out]) rfl ?_
      exact ⟨rfl, FW3.trans hz2 (fun b hb => by rw [List.mem_singleton.1 hb]; exact .inr (Nat.le_refl _))⟩
end Go.Proofs.Ytkiofaojokofbaa
namespace Go.Proofs.Ytkiofaojokofbaa
open Go.RowKit
namespace PStore
/-- A store that has more bound than another one. -/
def Ext (s s' : PStore) : Prop :=
  ∃ l, s'.trail = s.trail ++ l ∧ s'.cells.length = s.cells.length ∧ ∀ x, (x ∉ l ∧ s'.cells[x]? = s.cells[x]?) ∨ (x ∈ l ∧ s.cells[x]? = some none)
theorem Ext.refl (s : PStore) : s.Ext s := ⟨[], by simp, rfl, fun x => .inl ⟨by simp, rfl⟩⟩
theorem Ext.trans {a b c : PStore} (h : a.Ext b) (k : b.Ext c) : a.Ext c := by
  obtain ⟨l, h1, h2, h3⟩ := h
  obtain ⟨m, k1, k2, k3⟩ := k
  refine ⟨l ++ m, by rw [k1, h1, List.append_assoc], k2.trans h2, fun x => ?_⟩
  rcases h3 x with ⟨f0, f⟩ | ⟨f1, f2⟩
  · rcases k3 x with ⟨e0, e⟩ | ⟨e1, e2⟩
    · exact .inl ⟨by simp [f0, e0], e.trans f⟩
    · exact .inr ⟨by simp [e1], f ▸ e2⟩
  · exact .inr ⟨by simp [f1], f2⟩
theorem Ext.trail_le {a b : PStore} (h : a.Ext b) : a.trail.length ≤ b.trail.length := by
  obtain ⟨l, h1, _⟩ := h; rw [h1]; simp
theorem Ext.len {a b : PStore} (h : a.Ext b) : b.cells.length = a.cells.length := by
  obtain ⟨l, _, h2, _⟩ := h; exact h2
/-- What was bound stays bound to the same. -/
theorem Ext.keep {a b : PStore} (h : a.Ext b) {x : Nat} {t : Term} (hx : a.cells[x]? = some (some t)) : b.cells[x]? = some (some t) := by
  obtain ⟨l, _, _, h3⟩ := h
  rcases h3 x with ⟨_, e⟩ | ⟨_, e⟩
  · rw [e]; exact hx
  · rw [hx] at e; cases e
theorem Ext.undo {a b : PStore} (h : a.Ext b) : b.undo a.trail.length = a := by
  obtain ⟨l, h1, h2, h3⟩ := h
  obtain ⟨ca, ta⟩ := a
  obtain ⟨cb, tb⟩ := b
  dsimp only at h1 h2 h3
  subst h1
  unfold PStore.undo
  dsimp only
  rw [List.drop_left, List.take_left]
  congr 1
  apply List.ext_getElem?
  intro x
  rw [unset_get]
  rcases h3 x with ⟨e0, e⟩ | ⟨e1, e2⟩
  · rw [if_neg e0, e]
  · rw [if_pos e1, e2]
    have hlt : x < cb.length := by rw [h2]; exact (List.getElem?_eq_some_iff.1 e2).1
    rw [List.getElem?_eq_getElem hlt]
    rfl
theorem bind_ext (s : PStore) (v : Nat) (t : Term) (h : s.cells[v]? = some none) : s.Ext (s.bind v t) := by
  refine ⟨[v], rfl, by simp [PStore.bind], fun x => ?_⟩
  by_cases hx : x = v
  · subst hx; exact .inr ⟨by simp, h⟩
  · exact .inl ⟨by simpa using hx, by simp [PStore.bind, List.getElem?_set_ne (Ne.symm hx)]⟩
theorem binds_ext {s s' : PStore} {v : Int} {t : Term} {c : Int} (h : s.Binds v t c s') : s.Ext s' := by
  rcases h with ⟨_, rfl, _⟩ | ⟨u, _, rfl, _⟩ | ⟨_, rfl, _⟩ | ⟨_, rfl, _, h2, _⟩
  · exact Ext.refl _
  · exact Ext.refl _
  · exact Ext.refl _
  · exact bind_ext _ _ _ h2
theorem bindP_ext (s : PStore) (a b : Term) : s.Ext (s.bindP a b).2.2 := by
  unfold bindP
  split
  · exact Ext.refl _
  split
  · exact binds_ext (bindF_spec s a.n b)
  split
  · exact binds_ext (bindF_spec s b.n a)
  · exact Ext.refl _
theorem matchF_ext (l : Lat) : ∀ (k : Nat) (s : PStore) (ps : List (Term × Term)) (lev : Int), s.Ext (matchF l k s ps lev).2.2.2
  | k, s, [], lev => by rw [matchF_nil]; exact Ext.refl _
  | 0, s, p :: ps, lev => by rw [matchF_full]; exact Ext.refl _
  | k + 1, s, p :: ps, lev => by
    rw [matchF]
    split
    · split
      · exact (bindP_ext s _ _).trans (matchF_ext l k _ ps lev)
      · exact bindP_ext s _ _
    split
    · exact matchF_ext l k s ps _
    split
    · exact matchF_ext l k s _ _
    · exact Ext.refl _
theorem matchT_ext (l : Lat) (s : PStore) (xa bs : List Term) : s.Ext (s.matchT l xa bs).2.2.2 := by
  unfold matchT
  split
  · exact matchF_ext l _ s _ _
  · exact Ext.refl _
end PStore
end Go.Proofs.Ytkiofaojokofbaa
namespace Go.Proofs.Ytkiofaojokofbaa
open Go.RowKit

noncomputable def PStore.unequalT (l : Lat) (st : PStore) (a b : Term) : Bool × Int × Int × PStore :=
  (!(st.matchT l [a] [b]).1 && ((st.matchT l [a] [b]).2.2.1 == 0), (st.matchT l [a] [b]).2.1, (st.matchT l [a] [b]).2.2.1, st)

set_option maxRecDepth 100000 in
set_option maxHeartbeats 1000000 in
theorem goal_unequal (G F : List Nat) (sb lb : Nat) (l : Lat) (st : PStore) (a b : Term) (A : Option Addr) (cap : Nat) (w : World) (hl : LatAt w lb l) (hlG : lb ∉ G) (hs : StoreAt G F w sb st) (hk : KidsV F w [a, b] A 0) :
    Calls Try.prog 30 #[.agg #[.pointer (some ⟨sb, 0, none⟩), .pointer (some ⟨lb, 0, none⟩)], .slice A 2 cap] w fun e w' => e = .returned (toldV (st.unequalT l a b)) ∧ StoreTo G F w w' sb st := by
  have hF := hs.lt
  have hGF := hs.sub
  have HG : ∀ b, b ∈ G → b < w.heap.size := fun b hb => hF b (hGF b hb)
  have hlbl := hl.lt
  have HM := Lib.hid (fun w1 h => store_mark G (w.heap.size :: (w.heap.size + 1) :: F) sb st w1 h)
  have HE := Lib.hid (fun w1 h1 h2 h3 => goal_equal G (w.heap.size :: (w.heap.size + 1) :: F) sb lb l st a b A cap w1 h1 hlG h2 h3)
  have HX := Lib.hid (PStore.matchT_ext l st [a] [b])
  have HT : Hid (st.unequalT l a b = (!(st.matchT l [a] [b]).1 && ((st.matchT l [a] [b]).2.2.1 == 0), (st.matchT l [a] [b]).2.1, (st.matchT l [a] [b]).2.2.1, st)) := rfl
  generalize st.unequalT l a b = R at *
  generalize st.matchT l [a] [b] = r at *
  obtain ⟨r1, r2, r3, st'⟩ := r
  dsimp only at HE HX HT
  have HU := Lib.hid (fun G F w1 h => store_undo G F sb st' st.trail.length w1 h HX.out.trail_le)
  have HUX : Hid (st'.undo st.trail.length = st) := HX.out.undo
  have hs1 := hs.more (F' := w.heap.size :: (w.heap.size + 1) :: F) (H := []) (w' := (w.alloc (.cells #[.pointer (some ⟨sb, 0, none⟩), .pointer (some ⟨lb, 0, none⟩)] 54)).alloc (.cells #[.bool false, .int .i64 0, .int .i64 0] 59)) (by repeat (first | with_reducible (first | refine .alloc ?_ _ | refine .drewN ?_ _ | refine .drew ?_) | ((with_reducible refine .setCell ?_ ?_ _); rotate_left; focus (first | (left; simp; done) | (right; simp; (first | done | omega)))) | with_reducible (first | assumption | exact .refl _ _ | refine .trans0 ?_ ‹_›))) (by simp) (by simp) (new_two (Nat.le_refl _) (by omega)) (fun b hb => by simp [hb]) (lt_two hF (by simp; omega) (by simp) (by simp; omega))
  have hk1 := (hk.away (F' := w.heap.size :: (w.heap.size + 1) :: F) (new_two (Nat.le_refl _) (by omega))).keep (w' := (w.alloc (.cells #[.pointer (some ⟨sb, 0, none⟩), .pointer (some ⟨lb, 0, none⟩)] 54)).alloc (.cells #[.bool false, .int .i64 0, .int .i64 0] 59)) (by repeat (first | with_reducible (first | refine .alloc ?_ _ | refine .drewN ?_ _ | refine .drew ?_) | ((with_reducible refine .setCell ?_ ?_ _); rotate_left; focus (first | (left; simp; done) | (right; simp; (first | done | omega)))) | with_reducible (first | assumption | exact .refl _ _ | refine .trans0 ?_ ‹_›)))
  have hb0 : ((w.alloc (.cells #[.pointer (some ⟨sb, 0, none⟩), .pointer (some ⟨lb, 0, none⟩)] 54)).alloc (.cells #[.bool false, .int .i64 0, .int .i64 0] 59)).heap[w.heap.size]? = some (.cells #[.pointer (some ⟨sb, 0, none⟩), .pointer (some ⟨lb, 0, none⟩)] 54 (0, 0)) := (by repeat (first | rw [heap_alloc_at] | rw [heap_size_alloc] | rfl | rw [if_pos (by omega)] | rw [if_neg (by omega)]))
  have hb1 : ((w.alloc (.cells #[.pointer (some ⟨sb, 0, none⟩), .pointer (some ⟨lb, 0, none⟩)] 54)).alloc (.cells #[.bool false, .int .i64 0, .int .i64 0] 59)).heap[w.heap.size + 1]? = some (.cells #[.bool false, .int .i64 0, .int .i64 0] 59 (0, 0)) := (by repeat (first | rw [heap_alloc_at] | rw [heap_size_alloc] | rfl | rw [if_pos (by omega)] | rw [if_neg (by omega)]))
  have F01 : Frm [] w ((w.alloc (.cells #[.pointer (some ⟨sb, 0, none⟩), .pointer (some ⟨lb, 0, none⟩)] 54)).alloc (.cells #[.bool false, .int .i64 0, .int .i64 0] 59)) := (by repeat (first | with_reducible (first | refine .alloc ?_ _ | refine .drewN ?_ _ | refine .drew ?_) | ((with_reducible refine .setCell ?_ ?_ _); rotate_left; focus (first | (left; simp; done) | (right; simp; (first | done | omega)))) | with_reducible (first | assumption | exact .refl _ _ | refine .trans0 ?_ ‹_›)))
  have HS1 := Lib.hid hs1
  have HK1 := Lib.hid hk1
  clear hs1 hk1
  by_cases h3 : r3 = 0
  · subst h3
    have HT2 : Hid (R = (!r1, r2, 0, st)) := by show _ = _; rw [HT.out]; simp
    clear HT
    cases r1
    all_goals
      go_enter Try.func30, Try.ntmps30
      go_wp2_with (first
        | (go_at_call 9; refine (HM.out _ HS1.out).mono ?_; rintro e w2 ⟨rfl, F2⟩; have F02 := F01.trans0 F2; have hb02 := F2.at0 hb0; have hb12 := F2.at0 hb1; obtain ⟨x0, x1, x2, x3⟩ := blk2 hb02; have hs2 := HS1.out.keep F2; have hk2 := HK1.out.keep F2; have HS2 := Lib.hid hs2; have HK2 := Lib.hid hk2; clear hs2 hk2; have hsz2 := F2.size; simp only [heap_size_alloc] at hsz2)
        | (go_at_call 29; refine (HE.out _ (hl.frm0 F02) HS2.out HK2.out).mono ?_; rintro e w3 ⟨rfl, TO⟩; obtain ⟨G3, F3', hs3, F3, k3, k4, k5⟩ := id TO; have hb03 := F3.at_ hb02 (fun h => by have := HG _ h; omega); have hb13 := F3.at_ hb12 (fun h => by have := HG _ h; omega); obtain ⟨y0, y1, y2, y3⟩ := blk2 hb03; simp only [toldV]; have HS3 := Lib.hid hs3; clear hs3)
        | (go_at_call 50; refine (HU.out G3 (w3.heap.size :: F3') _ (HS3.out.more (F' := w3.heap.size :: F3') (H := []) (by repeat (first | with_reducible (first | refine .alloc ?_ _ | refine .drewN ?_ _ | refine .drew ?_) | ((with_reducible refine .setCell ?_ ?_ _); rotate_left; focus (first | (left; simp; done) | (right; simp; (first | done | omega)))) | with_reducible (first | assumption | exact .refl _ _ | refine .trans0 ?_ ‹_›))) (by simp) (by simp) (new_one (Nat.le_refl _)) (fun b hb => by simp [hb]) (lt_one HS3.out.lt (by simp) (by simp)))).mono ?_; rintro e w4 ⟨⟨v4, rfl⟩, TO4⟩; rw [HUX.out] at TO4; obtain ⟨G4, F4', hs4, F4, m3, m4, m5⟩ := id TO4; have HS4 := Lib.hid hs4; clear hs4; have hg3 : ∀ b, b ∈ G3 → b < w3.heap.size := fun b hb => HS3.out.lt b (HS3.out.sub b hb); have hsz3 := F3.size; have hbx := F4.at_ (alloc_heap_new w3 _) (fun h => by have := hg3 _ h; omega); have hb14 := F4.at_ (((Frm.refl [] w3).alloc _).at0 hb13) (fun h => by rcases k5 _ h with h | h; (have := HG _ h; omega); omega); obtain ⟨z0, z1, z2, z3, z4⟩ := blk3 hbx; obtain ⟨q0, q1, q2, q3, q4⟩ := blk3 hb14))
    · skip
      have F5 : Frm [w3.heap.size] w4 (w4.setCell ⟨w3.heap.size, 0, none⟩ (.bool true)) := (by repeat (first | with_reducible (first | refine .alloc ?_ _ | refine .drewN ?_ _ | refine .drew ?_) | ((with_reducible refine .setCell ?_ ?_ _); rotate_left; focus (first | (left; simp; done) | (right; simp; (first | done | omega)))) | with_reducible (first | assumption | exact .refl _ _ | refine .trans0 ?_ ‹_›)))
      have hb15 := F5.at_ hb14 (by simp; omega)
      obtain ⟨hz, hzf⟩ := told_store hb15 (.bool true) (.int .i64 r2) (.int .i64 0)
      generalize World.setCell (World.setCell _ _ _) _ _ = W6 at *
      obtain ⟨t0, t1, t2, t3, t4⟩ := blk3 hz
      have F56 : Frm [w3.heap.size, w.heap.size + 1] w4 W6 := (F5.mono (by simp)).trans' (hzf.mono (by simp))
      refine bodyPost_ret (v := toldV R) (by simp [toldV, results, Try.results30, go_sem, t0, t1, t2, HT2.out]) rfl ?_
      simp only [heap_size_alloc] at m4 m5
      have hszz := F02.size
      refine ⟨rfl, G4, F4', HS4.out.frm F56 (fun b hb hg => ?_) (fun b hb => ?_), ?_, fun b hb => m3 b (List.mem_cons_of_mem _ (k3 b (by simp [hb]))), fun b hb => ?_, fun b hb => ?_⟩
      · rcases m5 b hg with h | h
        · have h4 := hg3 b h
          simp only [List.mem_cons, List.not_mem_nil, or_false] at hb
          rcases hb with rfl | rfl
          · omega
          · rcases k5 _ h with h | h
            · have := HG _ h; omega
            · omega
        · simp only [List.mem_cons, List.not_mem_nil, or_false] at hb
          rcases hb with rfl | rfl <;> omega
      · simp only [List.mem_cons, List.not_mem_nil, or_false] at hb
        rcases hb with rfl | rfl
        · exact m3 _ (by simp)
        · exact m3 _ (List.mem_cons_of_mem _ (k3 _ (by simp)))
      · refine ((((F02.mono (by simp)).trans' F3).alloc _).trans F4 (fun b hb => ?_)).trans F56 (fun b hb => ?_)
        · rcases k5 b hb with h | h
          · exact .inl h
          · exact .inr (by omega)
        · simp only [List.mem_cons, List.not_mem_nil, or_false] at hb
          rcases hb with rfl | rfl <;> exact .inr (by omega)
      · rcases m4 b hb with h | h
        · rcases List.mem_cons.1 h with rfl | h
          · exact .inr (by omega)
          · rcases k4 b h with h | h
            · simp only [List.mem_cons] at h
              rcases h with rfl | rfl | h
              · exact .inr (by omega)
              · exact .inr (by omega)
              · exact .inl h
            · exact .inr (by omega)
        · exact .inr (by omega)
      · rcases m5 b hb with h | h
        · rcases k5 b h with h | h
          · exact .inl h
          · exact .inr (by omega)
        · exact .inr (by omega)
    · skip
      have F5 : Frm [w3.heap.size] w4 (w4.setCell ⟨w3.heap.size, 0, none⟩ (.bool false)) := (by repeat (first | with_reducible (first | refine .alloc ?_ _ | refine .drewN ?_ _ | refine .drew ?_) | ((with_reducible refine .setCell ?_ ?_ _); rotate_left; focus (first | (left; simp; done) | (right; simp; (first | done | omega)))) | with_reducible (first | assumption | exact .refl _ _ | refine .trans0 ?_ ‹_›)))
      have hb15 := F5.at_ hb14 (by simp; omega)
      obtain ⟨hz, hzf⟩ := told_store hb15 (.bool false) (.int .i64 r2) (.int .i64 0)
      generalize World.setCell (World.setCell _ _ _) _ _ = W6 at *
      obtain ⟨t0, t1, t2, t3, t4⟩ := blk3 hz
      have F56 : Frm [w3.heap.size, w.heap.size + 1] w4 W6 := (F5.mono (by simp)).trans' (hzf.mono (by simp))
      refine bodyPost_ret (v := toldV R) (by simp [toldV, results, Try.results30, go_sem, t0, t1, t2, HT2.out]) rfl ?_
      simp only [heap_size_alloc] at m4 m5
      have hszz := F02.size
      refine ⟨rfl, G4, F4', HS4.out.frm F56 (fun b hb hg => ?_) (fun b hb => ?_), ?_, fun b hb => m3 b (List.mem_cons_of_mem _ (k3 b (by simp [hb]))), fun b hb => ?_, fun b hb => ?_⟩
      · rcases m5 b hg with h | h
        · have h4 := hg3 b h
          simp only [List.mem_cons, List.not_mem_nil, or_false] at hb
          rcases hb with rfl | rfl
          · omega
          · rcases k5 _ h with h | h
            · have := HG _ h; omega
            · omega
        · simp only [List.mem_cons, List.not_mem_nil, or_false] at hb
          rcases hb with rfl | rfl <;> omega
      · simp only [List.mem_cons, List.not_mem_nil, or_false] at hb
        rcases hb with rfl | rfl
        · exact m3 _ (by simp)
        · exact m3 _ (List.mem_cons_of_mem _ (k3 _ (by simp)))
      · refine ((((F02.mono (by simp)).trans' F3).alloc _).trans F4 (fun b hb => ?_)).trans F56 (fun b hb => ?_)
        · rcases k5 b hb with h | h
          · exact .inl h
          · exact .inr (by omega)
        · simp only [List.mem_cons, List.not_mem_nil, or_false] at hb
          rcases hb with rfl | rfl <;> exact .inr (by omega)
      · rcases m4 b hb with h | h
        · rcases List.mem_cons.1 h with rfl | h
          · exact .inr (by omega)
          · rcases k4 b h with h | h
            · simp only [List.mem_cons] at h
              rcases h with rfl | rfl | h
              · exact .inr (by omega)
              · exact .inr (by omega)
              · exact .inl h
            · exact .inr (by omega)
        · exact .inr (by omega)
      · rcases m5 b hb with h | h
        · rcases k5 b h with h | h
          · exact .inl h
          · exact .inr (by omega)
        · exact .inr (by omega)
  · have h3' : (r3 == 0) = false := by simpa using h3
    have HT2 : Hid (R = (false, r2, r3, st)) := by show _ = _; rw [HT.out, h3']; simp
    clear h3 HT
    cases r1
    all_goals
      go_enter Try.func30, Try.ntmps30
    go_wp2_with (first
        | (go_at_call 9; refine (HM.out _ HS1.out).mono ?_; rintro e w2 ⟨rfl, F2⟩; have F02 := F01.trans0 F2; have hb02 := F2.at0 hb0; have hb12 := F2.at0 hb1; obtain ⟨x0, x1, x2, x3⟩ := blk2 hb02; have hs2 := HS1.out.keep F2; have hk2 := HK1.out.keep F2; have HS2 := Lib.hid hs2; have HK2 := Lib.hid hk2; clear hs2 hk2; have hsz2 := F2.size; simp only [heap_size_alloc] at hsz2)
        | (go_at_call 29; refine (HE.out _ (hl.frm0 F02) HS2.out HK2.out).mono ?_; rintro e w3 ⟨rfl, TO⟩; obtain ⟨G3, F3', hs3, F3, k3, k4, k5⟩ := id TO; have hb03 := F3.at_ hb02 (fun h => by have := HG _ h; omega); have hb13 := F3.at_ hb12 (fun h => by have := HG _ h; omega); obtain ⟨y0, y1, y2, y3⟩ := blk2 hb03; simp only [toldV]; have HS3 := Lib.hid hs3; clear hs3)
        | (go_at_call 50; refine (HU.out G3 (w3.heap.size :: F3') _ (HS3.out.more (F' := w3.heap.size :: F3') (H := []) (by repeat (first | with_reducible (first | refine .alloc ?_ _ | refine .drewN ?_ _ | refine .drew ?_) | ((with_reducible refine .setCell ?_ ?_ _); rotate_left; focus (first | (left; simp; done) | (right; simp; (first | done | omega)))) | with_reducible (first | assumption | exact .refl _ _ | refine .trans0 ?_ ‹_›))) (by simp) (by simp) (new_one (Nat.le_refl _)) (fun b hb => by simp [hb]) (lt_one HS3.out.lt (by simp) (by simp)))).mono ?_; rintro e w4 ⟨⟨v4, rfl⟩, TO4⟩; rw [HUX.out] at TO4; obtain ⟨G4, F4', hs4, F4, m3, m4, m5⟩ := id TO4; have HS4 := Lib.hid hs4; clear hs4; have hg3 : ∀ b, b ∈ G3 → b < w3.heap.size := fun b hb => HS3.out.lt b (HS3.out.sub b hb); have hsz3 := F3.size; have hbx := F4.at_ (alloc_heap_new w3 _) (fun h => by have := hg3 _ h; omega); have hb14 := F4.at_ (((Frm.refl [] w3).alloc _).at0 hb13) (fun h => by rcases k5 _ h with h | h; (have := HG _ h; omega); omega); obtain ⟨z0, z1, z2, z3, z4⟩ := blk3 hbx; obtain ⟨q0, q1, q2, q3, q4⟩ := blk3 hb14))
    · skip
      have F5 : Frm [w3.heap.size] w4 (w4.setCell ⟨w3.heap.size, 0, none⟩ (.bool false)) := (by repeat (first | with_reducible (first | refine .alloc ?_ _ | refine .drewN ?_ _ | refine .drew ?_) | ((with_reducible refine .setCell ?_ ?_ _); rotate_left; focus (first | (left; simp; done) | (right; simp; (first | done | omega)))) | with_reducible (first | assumption | exact .refl _ _ | refine .trans0 ?_ ‹_›)))
      have hb15 := F5.at_ hb14 (by simp; omega)
      obtain ⟨hz, hzf⟩ := told_store hb15 (.bool false) (.int .i64 r2) (.int .i64 r3)
      generalize World.setCell (World.setCell _ _ _) _ _ = W6 at *
      obtain ⟨t0, t1, t2, t3, t4⟩ := blk3 hz
      have F56 : Frm [w3.heap.size, w.heap.size + 1] w4 W6 := (F5.mono (by simp)).trans' (hzf.mono (by simp))
      refine bodyPost_ret (v := toldV R) (by simp [toldV, results, Try.results30, go_sem, t0, t1, t2, HT2.out]) rfl ?_
      simp only [heap_size_alloc] at m4 m5
      have hszz := F02.size
      refine ⟨rfl, G4, F4', HS4.out.frm F56 (fun b hb hg => ?_) (fun b hb => ?_), ?_, fun b hb => m3 b (List.mem_cons_of_mem _ (k3 b (by simp [hb]))), fun b hb => ?_, fun b hb => ?_⟩
      · rcases m5 b hg with h | h
        · have h4 := hg3 b h
          simp only [List.mem_cons, List.not_mem_nil, or_false] at hb
          rcases hb with rfl | rfl
          · omega
          · rcases k5 _ h with h | h
            · have := HG _ h; omega
            · omega
        · simp only [List.mem_cons, List.not_mem_nil, or_false] at hb
          rcases hb with rfl | rfl <;> omega
      · simp only [List.mem_cons, List.not_mem_nil, or_false] at hb
        rcases hb with rfl | rfl
        · exact m3 _ (by simp)
        · exact m3 _ (List.mem_cons_of_mem _ (k3 _ (by simp)))
      · refine ((((F02.mono (by simp)).trans' F3).alloc _).trans F4 (fun b hb => ?_)).trans F56 (fun b hb => ?_)
        · rcases k5 b hb with h | h
          · exact .inl h
          · exact .inr (by omega)
        · simp only [List.mem_cons, List.not_mem_nil, or_false] at hb
          rcases hb with rfl | rfl <;> exact .inr (by omega)
      · rcases m4 b hb with h | h
        · rcases List.mem_cons.1 h with rfl | h
          · exact .inr (by omega)
          · rcases k4 b h with h | h
            · simp only [List.mem_cons] at h
              rcases h with rfl | rfl | h
              · exact .inr (by omega)
              · exact .inr (by omega)
              · exact .inl h
            · exact .inr (by omega)
        · exact .inr (by omega)
      · rcases m5 b hb with h | h
        · rcases k5 b h with h | h
          · exact .inl h
          · exact .inr (by omega)
        · exact .inr (by omega)
    · skip
      have F5 : Frm [w3.heap.size] w4 (w4.setCell ⟨w3.heap.size, 0, none⟩ (.bool false)) := (by repeat (first | with_reducible (first | refine .alloc ?_ _ | refine .drewN ?_ _ | refine .drew ?_) | ((with_reducible refine .setCell ?_ ?_ _); rotate_left; focus (first | (left; simp; done) | (right; simp; (first | done | omega)))) | with_reducible (first | assumption | exact .refl _ _ | refine .trans0 ?_ ‹_›)))
      have hb15 := F5.at_ hb14 (by simp; omega)
      obtain ⟨hz, hzf⟩ := told_store hb15 (.bool false) (.int .i64 r2) (.int .i64 r3)
      generalize World.setCell (World.setCell _ _ _) _ _ = W6 at *
      obtain ⟨t0, t1, t2, t3, t4⟩ := blk3 hz
      have F56 : Frm [w3.heap.size, w.heap.size + 1] w4 W6 := (F5.mono (by simp)).trans' (hzf.mono (by simp))
      refine bodyPost_ret (v := toldV R) (by simp [toldV, results, Try.results30, go_sem, t0, t1, t2, HT2.out]) rfl ?_
      simp only [heap_size_alloc] at m4 m5
      have hszz := F02.size
      refine ⟨rfl, G4, F4', HS4.out.frm F56 (fun b hb hg => ?_) (fun b hb => ?_), ?_, fun b hb => m3 b (List.mem_cons_of_mem _ (k3 b (by simp [hb]))), fun b hb => ?_, fun b hb => ?_⟩
      · rcases m5 b hg with h | h
        · have h4 := hg3 b h
          simp only [List.mem_cons, List.not_mem_nil, or_false] at hb
          rcases hb with rfl | rfl
          · omega
          · rcases k5 _ h with h | h
            · have := HG _ h; omega
            · omega
        · simp only [List.mem_cons, List.not_mem_nil, or_false] at hb
          rcases hb with rfl | rfl <;> omega
      · simp only [List.mem_cons, List.not_mem_nil, or_false] at hb
        rcases hb with rfl | rfl
        · exact m3 _ (by simp)
        · exact m3 _ (List.mem_cons_of_mem _ (k3 _ (by simp)))
      · refine ((((F02.mono (by simp)).trans' F3).alloc _).trans F4 (fun b hb => ?_)).trans F56 (fun b hb => ?_)
        · rcases k5 b hb with h | h
          · exact .inl h
          · exact .inr (by omega)
        · simp only [List.mem_cons, List.not_mem_nil, or_false] at hb
          rcases hb with rfl | rfl <;> exact .inr (by omega)
      · rcases m4 b hb with h | h
        · rcases List.mem_cons.1 h with rfl | h
          · exact .inr (by omega)
          · rcases k4 b h with h | h
            · simp only [List.mem_cons] at h
              rcases h with rfl | rfl | h
              · exact .inr (by omega)
              · exact .inr (by omega)
              · exact .inl h
            · exact .inr (by omega)
        · exact .inr (by omega)
      · rcases m5 b hb with h | h
        · rcases k5 b h with h | h
          · exact .inl h
          · exact .inr (by omega)
        · exact .inr (by omega)
end Go.Proofs.Ytkiofaojokofbaa
namespace Go.Proofs.Ytkiofaojokofbaa
open Go.RowKit

namespace Term
mutual
/-- A term with other numbers of variables. -/
def ren (f : Int → Int) : Term → Term
  | mk k n s ts => mk k (if k = 1 then f n else n) s (rens f ts)
def rens (f : Int → Int) : List Term → List Term
  | [] => []
  | t :: ts => ren f t :: rens f ts
end
theorem rens_map (f : Int → Int) (ts : List Term) : rens f ts = ts.map (ren f) := by
  induction ts with
  | nil => rfl
  | cons t ts ih => simp [rens, ih]
theorem ren_mk (f : Int → Int) (k n : Int) (s : ByteArray) (ts : List Term) : ren f (mk k n s ts) = mk k (if k = 1 then f n else n) s (ts.map (ren f)) := by rw [ren, rens_map]
def shift (b : Int) (t : Term) : Term := t.ren fun n => wrap64 (n + b)
end Term
theorem i64_wrap (x : Int) : I64 (wrap64 x) := by
  unfold wrap64 I64; omega
theorem i64_ren {F : List Nat} {w : World} {k n : Int} {s : ByteArray} {ts : List Term} {v : Value} (h : TermV F w (.mk k n s ts) v) (b : Int) : I64 (if k = 1 then wrap64 (n + b) else n) := by
  simp only [TermV] at h
  obtain ⟨A, cap, rfl, h1, h2, _⟩ := h
  split
  · exact i64_wrap _
  · exact h2

set_option maxHeartbeats 1000000 in
theorem term_Shift (by_ : Int) : ∀ (t : Term) (F : List Nat) (v : Value) (w : World), TermV F w t v → (∀ b, b ∈ F → b < w.heap.size) →
    Calls Try.prog 84 #[v, .int .i64 by_] w fun e w' => (∃ v', e = .returned v' ∧ TermV F w' (t.shift by_) v') ∧ Frm [] w w' := by
  intro t
  induction t using Term.induct with
  | h k n s ts ih =>
    intro F v w h hF
    have hv := h
    have IH := Lib.hid ih
    clear ih
    have HN := i64_ren h by_
    simp only [TermV] at h
    obtain ⟨A, cap, rfl, hk1, hn1, hs1, hl1, hc, hc2, hk⟩ := h
    have hE : Hid (Term.shift by_ (.mk k n s ts) = .mk k (if k = 1 then wrap64 (n + by_) else n) s (ts.map (Term.shift by_))) := Term.ren_mk _ _ _ _ _
    generalize hm : (if k = 1 then wrap64 (n + by_) else n) = m at *
    have HM := Lib.hid hm
    clear hm
    obtain ⟨i0, hi, hz0, hz1, hz2⟩ := info_parts Try.infoTerm
    by_cases h1 : k = 1
    · have hk' : (k == 1) = true := by simpa using h1
      have Hm : Hid (m = wrap64 (n + by_)) := by have := HM.out; rw [if_pos h1] at this; exact this.symm
      clear h1 HM
      go_enter Try.func84, Try.ntmps84
      go_wp2
      rw [← Hm.out]
      generalize hW : World.alloc _ _ = W
      have hb0 : W.heap[w.heap.size]? = some (.cells #[.int .i64 k, .int .i64 m, .string s, .slice A ts.length cap] 26 (0, 0)) := by subst hW; exact (by repeat (first | rw [heap_alloc_at] | rw [heap_size_alloc] | rfl | rw [if_pos (by omega)] | rw [if_neg (by omega)]))
      have hb1 : W.heap[w.heap.size + 1]? = some (.cells #[.int .i64 0, .int .i64 0, .string ⟨#[]⟩, .slice none 0 0] 26 (0, 0)) := by subst hW; exact (by repeat (first | rw [heap_alloc_at] | rw [heap_size_alloc] | rfl | rw [if_pos (by omega)] | rw [if_neg (by omega)]))
      have FW : Frm [] w W := by subst hW; exact (by repeat (first | with_reducible (first | refine .alloc ?_ _ | refine .drewN ?_ _ | refine .drew ?_) | ((with_reducible refine .setCell ?_ ?_ _); rotate_left; focus (first | (left; simp; done) | (right; simp; (first | done | omega)))) | with_reducible (first | assumption | exact .refl _ _ | refine .trans0 ?_ ‹_›)))
      have hsW : W.heap.size = w.heap.size + 1 + 1 := by subst hW; simp
      clear hW
      go_loopw [5, 19] (fun a i wr => ∃ (j : Nat) (xs : List Value), j ≤ ts.length ∧ i = .int .i64 j ∧ Frm [] W wr ∧ OwnTerms (w.heap.size :: (w.heap.size + 1) :: F) wr W.heap.size a ((ts.take j).map (Term.shift by_)) xs) (fun _ i _ => ts.length - (intOf i).toNat)
      case atStart => exact ⟨0, [], Nat.zero_le _, rfl, Frm.refl _ _, OwnTerms.nil _ _ _⟩
      case round =>
        obtain ⟨j, xs, hj, rfl, FR, hown⟩ := hrel
        have F0 : Frm [] w wr := FW.trans0 FR
        have HOWN := Lib.hid hown
        clear hown
        by_cases hlt : j < ts.length
        · have hF1 : ∀ b, b ∈ u5.ownBlock.toList ++ (w.heap.size :: (w.heap.size + 1) :: F) → b < wr.heap.size := by
            intro b hb
            rcases List.mem_append.1 hb with hb | hb
            · exact (HOWN.out.own_lt b hb).2
            · have h3 := FR.size
              rcases List.mem_cons.1 hb with rfl | hb
              · omega
              rcases List.mem_cons.1 hb with rfl | hb
              · omega
              have := hF b hb; omega
          obtain ⟨b', off, A', cap', rfl, hb1', hb2', e0, e1, e2, e3, hkid⟩ := ((hk.away (F' := u5.ownBlock.toList ++ (w.heap.size :: (w.heap.size + 1) :: F)) (fun b hb => by
            rcases List.mem_append.1 hb with hb | hb
            · exact .inr (by have := (HOWN.out.own_lt b hb).1; omega)
            · rcases List.mem_cons.1 hb with rfl | hb
              · exact .inr (by omega)
              rcases List.mem_cons.1 hb with rfl | hb
              · exact .inr (by omega)
              exact .inl hb)).keep F0).kid j hlt
          have HT := Lib.hid (take_succ_get hlt)
          have HM : Hid (ts[j] ∈ ts) := List.getElem_mem hlt
          have hsz := F0.size
          have hsz1 := FR.size
          generalize ts[j] = t at *
          go_wp2_with (first
            | (go_at_call 84; refine (IH.out t HM.out (u5.ownBlock.toList ++ (w.heap.size :: (w.heap.size + 1) :: F)) _ _ (hkid.keep (by repeat (first | with_reducible (first | refine .alloc ?_ _ | refine .drewN ?_ _ | refine .drew ?_) | ((with_reducible refine .setCell ?_ ?_ _); rotate_left; focus (first | (left; simp; done) | (right; simp; (first | done | omega)))) | with_reducible (first | assumption | exact .refl _ _ | refine .trans0 ?_ ‹_›)))) (fun b hb => by have := hF1 b hb; simp; omega)).mono ?_; rintro e w2 ⟨⟨v2, rfl, hv2⟩, F2⟩; obtain ⟨A2, cap2, rfl⟩ := hv2.form; have HV2 := Lib.hid hv2; clear hv2; obtain ⟨hc2', hf2'⟩ := F2.reads; have hsz2 := F2.size; simp at hsz2; have F2' : Frm [] wr w2 := (by repeat (first | with_reducible (first | refine .alloc ?_ _ | refine .drewN ?_ _ | refine .drew ?_) | ((with_reducible refine .setCell ?_ ?_ _); rotate_left; focus (first | (left; simp; done) | (right; simp; (first | done | omega)))) | with_reducible (first | assumption | exact .refl _ _ | refine .trans0 ?_ ‹_›))); have hown2 := Lib.hid (fun o => HOWN.out.keep (F2'.alloc o)))
            | (at_builtin; go_must (refine wpList_append_own_at _ rfl _ _ 22 rfl W.heap.size 26 i0 _ 4 56 Try.underlying22 hi hz0 hz1 hz2 rfl (by decide) u5 _ _ rfl (hown2.out _).1 ⟨w2.heap.size, 0, none⟩ 1 1 [.int .i64 (t.shift by_).kind, .int .i64 (t.shift by_).n, .string (t.shift by_).s, .slice A2 (t.shift by_).kids.length cap2] rfl rfl ?c1x ?c2x ?c3x ?c4x ?c5x ?_); (case c1x => exact cells_new _ _ _); (case c2x => simp [Value.oneCell']); (case c3x => simp [maxLen]; omega); (case c4x => simp; omega); (case c5x => simp; omega); intro v3 w3 how3 hgw3 _ hatw3))
          go_roundw
          case rel =>
            refine ⟨j + 1, xs ++ [.int .i64 (t.shift by_).kind, .int .i64 (t.shift by_).n, .string (t.shift by_).s, .slice A2 (t.shift by_).kids.length cap2], by omega, by go_num, ?_, ?_⟩
            · refine Frm.grown ((FR.trans0 F2').alloc _) hgw3 (fun b hb => .inr (HOWN.out.own_lt b (by simpa using hb)).1)
            · rw [HT.out, List.map_append]
              refine (hown2.out _).snoc ?_ how3 hgw3 hatw3
              exact HV2.out.keep (by repeat (first | with_reducible (first | refine .alloc ?_ _ | refine .drewN ?_ _ | refine .drew ?_) | ((with_reducible refine .setCell ?_ ?_ _); rotate_left; focus (first | (left; simp; done) | (right; simp; (first | done | omega)))) | with_reducible (first | assumption | exact .refl _ _ | refine .trans0 ?_ ‹_›)))
          case measure => simp [intOf]; omega
        · have : j = ts.length := by omega
          subst this
          obtain ⟨A3, cap3, rfl, hle3, hcap3, hk3⟩ := HOWN.out.kids (fun b hb => by
            rcases List.mem_cons.1 hb with rfl | hb
            · omega
            rcases List.mem_cons.1 hb with rfl | hb
            · omega
            have := hF b hb; omega)
          obtain ⟨q0, q1, q2, q3, q4, q5⟩ := blk4 (FR.at0 hb0)
          obtain ⟨r0, r1, r2, r3, r4, r5⟩ := blk4 (FR.at0 hb1)
          clear hb0 hb1
          go_wp2
          refine bodyPost_ret (v := .agg #[.int .i64 k, .int .i64 m, .string s, .slice A3 ts.length cap3]) (by simp [results, Try.results84, go_sem, r0, r1, r2, r3]) rfl ?_
          rw [hE.out]
          rw [List.take_length] at hle3 hk3
          refine ⟨⟨_, rfl, TermV.of_kids (G := [w.heap.size, w.heap.size + 1]) hk1 HN hs1 (by simpa using hl1) hle3 hcap3 hk3 (by repeat (first | with_reducible (first | refine .alloc ?_ _ | refine .drewN ?_ _ | refine .drew ?_) | ((with_reducible refine .setCell ?_ ?_ _); rotate_left; focus (first | (left; simp; done) | (right; simp; (first | done | omega)))) | with_reducible (first | assumption | exact .refl _ _ | refine .trans0 ?_ ‹_›))) (by simp) (fun b hb => by simp [hb]) (by simp)⟩, (by repeat (first | with_reducible (first | refine .alloc ?_ _ | refine .drewN ?_ _ | refine .drew ?_) | ((with_reducible refine .setCell ?_ ?_ _); rotate_left; focus (first | (left; simp; done) | (right; simp; (first | done | omega)))) | with_reducible (first | assumption | exact .refl _ _ | refine .trans0 ?_ ‹_›)))⟩
    · have hk' : (k == 1) = false := by simpa using h1
      have Hm : Hid (n = m) := by have := HM.out; rw [if_neg h1] at this; exact this
      clear h1 HM
      go_enter Try.func84, Try.ntmps84
      go_wp2
      rw [Hm.out]
      generalize hW : World.alloc _ _ = W
      have hb0 : W.heap[w.heap.size]? = some (.cells #[.int .i64 k, .int .i64 m, .string s, .slice A ts.length cap] 26 (0, 0)) := by subst hW; exact (by repeat (first | rw [heap_alloc_at] | rw [heap_size_alloc] | rfl | rw [if_pos (by omega)] | rw [if_neg (by omega)]))
      have hb1 : W.heap[w.heap.size + 1]? = some (.cells #[.int .i64 0, .int .i64 0, .string ⟨#[]⟩, .slice none 0 0] 26 (0, 0)) := by subst hW; exact (by repeat (first | rw [heap_alloc_at] | rw [heap_size_alloc] | rfl | rw [if_pos (by omega)] | rw [if_neg (by omega)]))
      have FW : Frm [] w W := by subst hW; exact (by repeat (first | with_reducible (first | refine .alloc ?_ _ | refine .drewN ?_ _ | refine .drew ?_) | ((with_reducible refine .setCell ?_ ?_ _); rotate_left; focus (first | (left; simp; done) | (right; simp; (first | done | omega)))) | with_reducible (first | assumption | exact .refl _ _ | refine .trans0 ?_ ‹_›)))
      have hsW : W.heap.size = w.heap.size + 1 + 1 := by subst hW; simp
      clear hW
      go_loopw [5, 19] (fun a i wr => ∃ (j : Nat) (xs : List Value), j ≤ ts.length ∧ i = .int .i64 j ∧ Frm [] W wr ∧ OwnTerms (w.heap.size :: (w.heap.size + 1) :: F) wr W.heap.size a ((ts.take j).map (Term.shift by_)) xs) (fun _ i _ => ts.length - (intOf i).toNat)
      case atStart => exact ⟨0, [], Nat.zero_le _, rfl, Frm.refl _ _, OwnTerms.nil _ _ _⟩
      case round =>
        obtain ⟨j, xs, hj, rfl, FR, hown⟩ := hrel
        have F0 : Frm [] w wr := FW.trans0 FR
        have HOWN := Lib.hid hown
        clear hown
        by_cases hlt : j < ts.length
        · have hF1 : ∀ b, b ∈ u5.ownBlock.toList ++ (w.heap.size :: (w.heap.size + 1) :: F) → b < wr.heap.size := by
            intro b hb
            rcases List.mem_append.1 hb with hb | hb
            · exact (HOWN.out.own_lt b hb).2
            · have h3 := FR.size
              rcases List.mem_cons.1 hb with rfl | hb
              · omega
              rcases List.mem_cons.1 hb with rfl | hb
              · omega
              have := hF b hb; omega
          obtain ⟨b', off, A', cap', rfl, hb1', hb2', e0, e1, e2, e3, hkid⟩ := ((hk.away (F' := u5.ownBlock.toList ++ (w.heap.size :: (w.heap.size + 1) :: F)) (fun b hb => by
            rcases List.mem_append.1 hb with hb | hb
            · exact .inr (by have := (HOWN.out.own_lt b hb).1; omega)
            · rcases List.mem_cons.1 hb with rfl | hb
              · exact .inr (by omega)
              rcases List.mem_cons.1 hb with rfl | hb
              · exact .inr (by omega)
              exact .inl hb)).keep F0).kid j hlt
          have HT := Lib.hid (take_succ_get hlt)
          have HM : Hid (ts[j] ∈ ts) := List.getElem_mem hlt
          have hsz := F0.size
          have hsz1 := FR.size
          generalize ts[j] = t at *
          go_wp2_with (first
            | (go_at_call 84; refine (IH.out t HM.out (u5.ownBlock.toList ++ (w.heap.size :: (w.heap.size + 1) :: F)) _ _ (hkid.keep (by repeat (first | with_reducible (first | refine .alloc ?_ _ | refine .drewN ?_ _ | refine .drew ?_) | ((with_reducible refine .setCell ?_ ?_ _); rotate_left; focus (first | (left; simp; done) | (right; simp; (first | done | omega)))) | with_reducible (first | assumption | exact .refl _ _ | refine .trans0 ?_ ‹_›)))) (fun b hb => by have := hF1 b hb; simp; omega)).mono ?_; rintro e w2 ⟨⟨v2, rfl, hv2⟩, F2⟩; obtain ⟨A2, cap2, rfl⟩ := hv2.form; have HV2 := Lib.hid hv2; clear hv2; obtain ⟨hc2', hf2'⟩ := F2.reads; have hsz2 := F2.size; simp at hsz2; have F2' : Frm [] wr w2 := (by repeat (first | with_reducible (first | refine .alloc ?_ _ | refine .drewN ?_ _ | refine .drew ?_) | ((with_reducible refine .setCell ?_ ?_ _); rotate_left; focus (first | (left; simp; done) | (right; simp; (first | done | omega)))) | with_reducible (first | assumption | exact .refl _ _ | refine .trans0 ?_ ‹_›))); have hown2 := Lib.hid (fun o => HOWN.out.keep (F2'.alloc o)))
            | (at_builtin; go_must (refine wpList_append_own_at _ rfl _ _ 22 rfl W.heap.size 26 i0 _ 4 56 Try.underlying22 hi hz0 hz1 hz2 rfl (by decide) u5 _ _ rfl (hown2.out _).1 ⟨w2.heap.size, 0, none⟩ 1 1 [.int .i64 (t.shift by_).kind, .int .i64 (t.shift by_).n, .string (t.shift by_).s, .slice A2 (t.shift by_).kids.length cap2] rfl rfl ?c1x ?c2x ?c3x ?c4x ?c5x ?_); (case c1x => exact cells_new _ _ _); (case c2x => simp [Value.oneCell']); (case c3x => simp [maxLen]; omega); (case c4x => simp; omega); (case c5x => simp; omega); intro v3 w3 how3 hgw3 _ hatw3))
          go_roundw
          case rel =>
            refine ⟨j + 1, xs ++ [.int .i64 (t.shift by_).kind, .int .i64 (t.shift by_).n, .string (t.shift by_).s, .slice A2 (t.shift by_).kids.length cap2], by omega, by go_num, ?_, ?_⟩
            · refine Frm.grown ((FR.trans0 F2').alloc _) hgw3 (fun b hb => .inr (HOWN.out.own_lt b (by simpa using hb)).1)
            · rw [HT.out, List.map_append]
              refine (hown2.out _).snoc ?_ how3 hgw3 hatw3
              exact HV2.out.keep (by repeat (first | with_reducible (first | refine .alloc ?_ _ | refine .drewN ?_ _ | refine .drew ?_) | ((with_reducible refine .setCell ?_ ?_ _); rotate_left; focus (first | (left; simp; done) | (right; simp; (first | done | omega)))) | with_reducible (first | assumption | exact .refl _ _ | refine .trans0 ?_ ‹_›)))
          case measure => simp [intOf]; omega
        · have : j = ts.length := by omega
          subst this
          obtain ⟨A3, cap3, rfl, hle3, hcap3, hk3⟩ := HOWN.out.kids (fun b hb => by
            rcases List.mem_cons.1 hb with rfl | hb
            · omega
            rcases List.mem_cons.1 hb with rfl | hb
            · omega
            have := hF b hb; omega)
          obtain ⟨q0, q1, q2, q3, q4, q5⟩ := blk4 (FR.at0 hb0)
          obtain ⟨r0, r1, r2, r3, r4, r5⟩ := blk4 (FR.at0 hb1)
          clear hb0 hb1
          go_wp2
          refine bodyPost_ret (v := .agg #[.int .i64 k, .int .i64 m, .string s, .slice A3 ts.length cap3]) (by simp [results, Try.results84, go_sem, r0, r1, r2, r3]) rfl ?_
          rw [hE.out]
          rw [List.take_length] at hle3 hk3
          refine ⟨⟨_, rfl, TermV.of_kids (G := [w.heap.size, w.heap.size + 1]) hk1 HN hs1 (by simpa using hl1) hle3 hcap3 hk3 (by repeat (first | with_reducible (first | refine .alloc ?_ _ | refine .drewN ?_ _ | refine .drew ?_) | ((with_reducible refine .setCell ?_ ?_ _); rotate_left; focus (first | (left; simp; done) | (right; simp; (first | done | omega)))) | with_reducible (first | assumption | exact .refl _ _ | refine .trans0 ?_ ‹_›))) (by simp) (fun b hb => by simp [hb]) (by simp)⟩, (by repeat (first | with_reducible (first | refine .alloc ?_ _ | refine .drewN ?_ _ | refine .drew ?_) | ((with_reducible refine .setCell ?_ ?_ _); rotate_left; focus (first | (left; simp; done) | (right; simp; (first | done | omega)))) | with_reducible (first | assumption | exact .refl _ _ | refine .trans0 ?_ ‹_›)))⟩
end Go.Proofs.Ytkiofaojokofbaa
namespace Go.Proofs.Ytkiofaojokofbaa
open Go.RowKit Go.Shelf

attribute [local go_sem] Oper.semAt_some

theorem room_none {F : Fence} (hd : F.depth = none) (k : Nat) : F.room k := fun d h => by rw [hd] at h; cases h
theorem RoundIn.anyDepth {F : Fence} (hd : F.depth = none) {m m' : Nat} {P : Program} {l : Nat} {f : FuncId} {tmps : Array Value} {assign body : Code} {w : World} {R : Ending → World → Prop}
    (h : RoundIn F m P l f tmps assign body w R) : RoundIn F m' P l f tmps assign body w R := ⟨h.1, fun c cs _ => h.2 c cs (room_none hd _)⟩
theorem YieldAt.anyDepth {F : Fence} (hd : F.depth = none) {m : Nat} (m' : Nat) {P : Program} {l : Nat} {args : Array Value} {W : World} {R : Ending → World → Prop} (h : YieldAt F m P l args W R) : YieldAt F m' P l args W R := by
  obtain ⟨fn, tmps, assign, body, hy, hR⟩ := h
  exact ⟨fn, tmps, assign, body, hy, RoundIn.anyDepth hd hR⟩

/-- What a round keeps: what lay below n₀; and all cells of terms that were laid since the loop began (from m₀ on). -/
def Kept (n₀ m₀ : Nat) (A B : World) : Prop := Below n₀ A B ∧ ∀ k cs z, m₀ ≤ k → A.heap[k]? = some (.cells cs 26 z) → B.heap[k]? = some (.cells cs 26 z)
theorem Kept.refl (n₀ m₀ : Nat) (A : World) : Kept n₀ m₀ A A := ⟨Below.refl _ _, fun _ _ _ _ h => h⟩
theorem Kept.trans {n₀ m₀ : Nat} {A B C : World} (h : Kept n₀ m₀ A B) (k : Kept n₀ m₀ B C) : Kept n₀ m₀ A C := ⟨h.1.trans k.1, fun i cs z hi ho => k.2 i cs z hi (h.2 i cs z hi ho)⟩
theorem Kept.grown {n₀ m₀ : Nat} {A B C : World} {row : Option Nat} (h : Kept n₀ m₀ A B) (hn : n₀ ≤ B.heap.size) (hg : B.grownBy C row) (hr : ∀ r, row = some r → n₀ ≤ r ∧ (r < m₀ ∨ ∀ cs z, B.heap[r]? ≠ some (.cells cs 26 z))) : Kept n₀ m₀ A C :=
  ⟨h.1.grown hg hn (fun k e => (hr k e).1), fun i cs z hi ho => by
    have hB := h.2 i cs z hi ho
    refine (hg.block i (Array.getElem?_eq_some_iff.1 hB).1 (fun e => ?_)).trans hB
    rcases (hr i e.symm).2 with h1 | h1
    · omega
    · exact h1 cs z hB⟩
theorem Kept.alloc {n₀ m₀ : Nat} {A B : World} (h : Kept n₀ m₀ A B) (hn : n₀ ≤ B.heap.size) (o : Obj) : Kept n₀ m₀ A (B.alloc o) := h.grown hn (World.grownBy_alloc B o none) (fun r e => by cases e)
theorem Kept.setCell {n₀ m₀ : Nat} {A B : World} (h : Kept n₀ m₀ A B) (hs : n₀ ≤ B.heap.size) (b : Nat) (v : Value) (hn : n₀ ≤ b) (hm : b < m₀) : Kept n₀ m₀ A (B.setCell ⟨b, 0, none⟩ v) :=
  h.grown hs (grownBy_setCell' B b v) (fun r e => by cases e; exact ⟨hn, .inl hm⟩)
theorem Kept.frm {n₀ m₀ : Nat} {A B C : World} (h : Kept n₀ m₀ A B) (hn : n₀ ≤ B.heap.size) (hf : Frm [] B C) : Kept n₀ m₀ A C :=
  ⟨h.1.trans (hf.below.mono hn), fun i cs z hi ho => by
    have hB := h.2 i cs z hi ho
    exact (hf.below.block i (Array.getElem?_eq_some_iff.1 hB).1).trans hB⟩
theorem Kept.put {n₀ m₀ : Nat} {w : World} (hn : n₀ ≤ w.heap.size) (W : World) (l : Nat) (o o' : Obj) (hl : w.heap.size ≤ l) (h : W.heap[l]? = some o) (hc : o.isCells = false) (hw : o.isWalk = false) : Kept n₀ m₀ W (W.putObj l o') := by
  refine ⟨belowK_b hn W l o o' hl h hc hw, fun k cs z hk hx => ?_⟩
  by_cases e : l = k
  · subst e; rw [h] at hx; cases hx; cases hc
  · exact (World.putObj_heap_other (Ne.symm e)).trans hx
theorem Kept.block {n₀ m₀ : Nat} {A B : World} (h : Kept n₀ m₀ A B) {b : Nat} {cs : Array Value} {z : Nat × Nat} (hb : m₀ ≤ b) (hA : A.heap[b]? = some (.cells cs 26 z)) : B.heap[b]? = some (.cells cs 26 z) :=
  h.2 b _ _ hb hA

/-- A term with the value that stands for it in w0. -/
abbrev TV (w0 : World) := { x : Term × Value // TermV [] w0 x.1 x.2 ∧ x.1.size ≤ 1048576 }
def TV.tm {w0 : World} (x : TV w0) : Term := x.1.1
def tvEnc {w0 : World} (x : TV w0) : Array Value := #[x.1.2]

namespace Term
theorem partss_append (xs ys : List Term) : partss (xs ++ ys) = partss xs ++ partss ys := by simp [partss_eq]
theorem partss_take {ts : List Term} {j : Nat} (h : j < ts.length) : partss (ts.take (j + 1)) = partss (ts.take j) ++ ts[j].parts := by
  rw [List.take_succ_eq_append_getElem h, partss_append]; simp [partss]
theorem partss_length (ts : List Term) : (partss ts).length = sizes ts := by
  induction ts with
  | nil => rfl
  | cons t ts ih => simp [partss, sizes, ih, length_partss_and]
theorem sizes_take {ts : List Term} {j : Nat} (h : j < ts.length) : sizes (ts.take j) + ts[j].size ≤ sizes ts := by
  have h1 : ts.take (j + 1) ++ ts.drop (j + 1) = ts := List.take_append_drop _ _
  have h2 := congrArg sizes h1
  rw [List.take_succ_eq_append_getElem h, sizes_append, sizes_append] at h2
  simp [sizes] at h2
  omega
end Term

theorem TermV.below {w0 W : World} {t : Term} {v : Value} (h : TermV [] w0 t v) (b : Below w0.heap.size w0 W) : TermV [] W t v := h.keep (Frm.of_below b)

set_option maxRecDepth 100000 in
set_option maxHeartbeats 2000000 in
/-- term.walk, by induction on the term. -/
theorem term_walk (F : Fence) (hd : F.depth = none) (h46 : F.fn 100) (hro : F.round = none) (l m₀ N B : Nat) (w0 : World) (hm : w0.heap.size ≤ m₀) (J Jx : List (TV w0) → World → Prop) (hJ : AbidesFrom B J)
    (hY : ∀ m pre x W, J pre W → pre.length < N → YieldAt F m Try.prog l (tvEnc x) W fun e W' =>
      (e = .returned (.bool true) ∧ J (pre ++ [x]) W' ∧ Kept w0.heap.size m₀ W W') ∨ (e = .returned (.bool false) ∧ Jx (pre ++ [x]) W')) (T : Term) :
    ∀ (n : Nat) (v : Value) (pre : List (TV w0)) (W : World), TermV [] w0 T v → T.size ≤ 1048576 → Below w0.heap.size w0 W → m₀ ≤ W.heap.size → J pre W → pre.length + T.size ≤ N →
      CallsIn F n Try.prog 100 #[v, .func (.yield l) #[] #[]] W fun e W' =>
        (e = .returned (.bool true) ∧ ∃ xs : List (TV w0), xs.map TV.tm = T.parts ∧ J (pre ++ xs) W' ∧ Kept w0.heap.size m₀ W W') ∨ (e = .returned (.bool false) ∧ ∃ xs : List (TV w0), xs.map TV.tm <+: T.parts ∧ Jx (pre ++ xs) W') := by
  induction T using Term.induct with
  | h k z s ts ih =>
    intro n v pre W hv hz hb hmW hj hN
    have hv' := hv
    simp only [TermV] at hv'
    obtain ⟨A, cap, rfl, g1, g2, g3, g4, g5, g6, hk⟩ := hv'
    have hdd : ∀ k : Nat, (F.depth.isSome = true → 1 ≤ k) := fun k h => by rw [hd] at h; cases h
    simp only [Term.size] at hN
    refine callsIn_of_wp Try.func100 rfl h46 ?_ hro
    simp only [Try.ntmps100, List.size_toArray, List.length_cons, List.length_nil, Nat.reduceAdd, Nat.reduceSub, Array.replicate_succ, Array.replicate_zero, List.push_toArray, List.append_toArray, List.nil_append, List.cons_append]
    obtain ⟨fn, tmps, assign, body, hy, hR⟩ := hY (n - 1) pre ⟨(.mk k z s ts, _), hv, hz⟩ (W.alloc (.cells #[.int .i64 k, .int .i64 z, .string s, .slice A ts.length cap] 26)) (hJ _ _ _ none hj (World.grownBy_alloc _ _ _) (fun r e => by cases e)) (by omega)
    simp only [tvEnc] at hy
    gi_wp2_with ((try refine ⟨hdd _, ?_⟩); refine hR.mono ?_; clear hR; rintro e W2 (⟨rfl, hJ2, hk2⟩ | ⟨rfl, hx2⟩); have hbox := hk2.block hmW (World.alloc_heap_new W _); obtain ⟨z0, z1, z2, z3, z4, z5⟩ := blk4 hbox)
    · have hw2 : Below w0.heap.size w0 W2 := (hb.alloc (Nat.le_trans hm hmW) _).trans hk2.1
      have hkW : Kept w0.heap.size m₀ W W2 := ((Kept.refl _ _ W).alloc (Nat.le_trans hm hmW) _).trans hk2
      gi_loopw [14] (fun p wr => ∃ (j : Nat) (xs : List (TV w0)), j ≤ ts.length ∧ p = .int .i64 j ∧ xs.map TV.tm = (.mk k z s ts) :: Term.partss (ts.take j) ∧ J (pre ++ xs) wr ∧ Kept w0.heap.size m₀ W2 wr)
        (fun p _ => ts.length - (intOf p).toNat)
      case atStart => exact ⟨0, [⟨(.mk k z s ts, _), hv, hz⟩], Nat.zero_le _, rfl, by simp [TV.tm, Term.partss], hJ2, Kept.refl _ _ _⟩
      case round =>
        obtain ⟨j, xs, hj, rfl, hxs, hJr, hkr⟩ := hrel
        have hbr := hkr.block hmW hbox
        have hlen : xs.length = 1 + Term.sizes (ts.take j) := by have := congrArg List.length hxs; simpa [Term.partss_length, Nat.add_comm] using this
        by_cases hlt : j < ts.length
        · have hst := Term.sizes_take hlt
          obtain ⟨b, off, A', cap', rfl, -, hbl, e0, e1, e2, e3, hkv⟩ := hk.kid j hlt
          have hbw : Below w0.heap.size w0 wr := hw2.trans hkr.1
          have d0 := (hbw.cell (p := ⟨b, off + j * 4, none⟩) hbl).trans e0
          have d1 := (hbw.cell (p := ⟨b, off + j * 4 + 1, none⟩) hbl).trans e1
          have d2 := (hbw.cell (p := ⟨b, off + j * 4 + 2, none⟩) hbl).trans e2
          have d3 := (hbw.cell (p := ⟨b, off + j * 4 + 3, none⟩) hbl).trans e3
          have hmr : m₀ ≤ wr.heap.size := Nat.le_trans hmW (Nat.le_of_lt (Array.getElem?_eq_some_iff.1 hbr).1)
          have hkid := ih ts[j] (List.getElem_mem _) (n - 1) _ (pre ++ xs) (wr.alloc (.cells #[.int .i64 ts[j].kind, .int .i64 ts[j].n, .string ts[j].s, .slice A' ts[j].kids.length cap'] 26)) hkv (by have := Term.size_mem (List.getElem_mem hlt); simp only [Term.size] at hz; omega) (hbw.alloc (Nat.le_trans hm hmr) _) (by simp; omega)
            (hJ _ _ _ none hJr (World.grownBy_alloc _ _ _) (fun r e => by cases e)) (by simp; omega)
          gi_wp2_with ((try refine ⟨hdd _, ?_⟩); gi_at_call 100; refine hkid.mono ?_; clear hkid; rintro e W3 (⟨rfl, ys, hys, hJ3, hk3⟩ | ⟨rfl, ys, hys, hJ3⟩))
          · have HT := Term.partss_take hlt
            refine ⟨⟨j + 1, xs ++ ys, by omega, by simp, ?_, ?_, ?_⟩, by simp [intOf]; omega⟩
            · rw [List.map_append, hxs, hys, HT]; rfl
            · rw [← List.append_assoc]; exact hJ3
            · exact (hkr.alloc (Nat.le_trans hm hmr) _).trans hk3
          · go_ret
            refine .inr ⟨rfl, xs ++ ys, ?_, by rw [← List.append_assoc]; exact hJ3⟩
            rw [List.map_append, hxs]
            obtain ⟨r, hr⟩ := hys
            have HT := Term.partss_take hlt
            have HD : Term.partss ts = Term.partss (ts.take (j + 1)) ++ Term.partss (ts.drop (j + 1)) := by rw [← Term.partss_append, List.take_append_drop]
            refine ⟨r ++ Term.partss (ts.drop (j + 1)), ?_⟩
            rw [Term.parts, HD, HT, ← hr]; simp [List.append_assoc]
        · obtain rfl : j = ts.length := by omega
          gi_wp2
          go_ret
          rw [List.take_length] at hxs
          exact .inl ⟨rfl, xs, hxs, hJr, hkW.trans hkr⟩
    · go_ret
      exact .inr ⟨rfl, [⟨(.mk k z s ts, _), hv, hz⟩], ⟨Term.partss ts, rfl⟩, hx2⟩

set_option maxHeartbeats 1000000 in
/-- The function that parts hands back. -/
theorem parts_1 (F : Fence) (hd : F.depth = none) (n : Nat) (h45 : F.fn 99) (h46 : F.fn 100) (hro : F.round = none) (l Bt m₀ B : Nat) (w0 : World) (hm : w0.heap.size ≤ m₀) (T : Term) (v : Value) (hv : TermV [] w0 T v) (hz : T.size ≤ 1048576) (J Jx : List (TV w0) → World → Prop) (hJ : AbidesFrom B J)
    (hY : ∀ pre x W, J pre W → pre.length < T.size → YieldAt F (n - 1) Try.prog l (tvEnc x) W fun e W' =>
      (e = .returned (.bool true) ∧ J (pre ++ [x]) W' ∧ Kept w0.heap.size m₀ W W') ∨ (e = .returned (.bool false) ∧ Jx (pre ++ [x]) W'))
    (W : World) (hW : Below w0.heap.size w0 W) (hmW : m₀ ≤ W.heap.size) (hBt : W.heap[Bt]? = some (.cells v.cells 26 (0, 0))) (h0 : J [] W) :
    CallsIn F n Try.prog 99 #[.func (.yield l) #[] #[], .pointer (some ⟨Bt, 0, none⟩)] W fun e W' => (∃ v, e = .returned v) ∧
      ((∃ ys : List (TV w0), ys.map TV.tm = T.parts ∧ J ys W') ∨ (∃ pre : List (TV w0), pre.map TV.tm <+: T.parts ∧ Jx pre W')) := by
  have hdd : ∀ k : Nat, (F.depth.isSome = true → 1 ≤ k) := fun k h => by rw [hd] at h; cases h
  have hp := term_walk F hd h46 hro l m₀ T.size B w0 hm J Jx hJ (fun m pre x W hj hl => YieldAt.anyDepth hd m (hY pre x W hj hl)) T (n - 1) v [] W hv hz hW hmW h0 (by simp)
  obtain ⟨A, cap, rfl⟩ := hv.form
  simp only [Value.cells] at hBt
  obtain ⟨z0, z1, z2, z3, z4, z5⟩ := blk4 hBt
  refine callsIn_of_wp Try.func99 rfl h45 ?_ hro
  simp only [Try.ntmps99, List.size_toArray, List.length_cons, List.length_nil, Nat.reduceAdd, Nat.reduceSub, Array.replicate_succ, Array.replicate_zero, List.push_toArray, List.append_toArray, List.nil_append, List.cons_append]
  gi_wp2_with ((try refine ⟨hdd _, ?_⟩); gi_at_call 100; refine hp.mono ?_; clear hp; rintro e W1 (⟨rfl, xs, hxs, hJ1, _⟩ | ⟨rfl, q, hq, hx⟩))
  · go_end0
    exact ⟨⟨_, rfl⟩, .inl ⟨xs, hxs, by simpa using hJ1⟩⟩
  · go_end0
    exact ⟨⟨_, rfl⟩, .inr ⟨q, hq, by simpa using hx⟩⟩

set_option maxHeartbeats 1000000 in
theorem term_parts (F : Fence) (n : Nat) (h35 : F.fn 93) (hro : F.round = none) (T : Term) (v : Value) (w0 w : World) (hv : TermV [] w0 T v) :
    CallsIn F n Try.prog 93 #[v] w fun e w' => e = .returned (.func (.func 99) #[] #[.pointer (some ⟨w.heap.size, 0, none⟩)]) ∧ w' = w.alloc (.cells v.cells 26) := by
  obtain ⟨A, cap, rfl⟩ := hv.form
  refine callsIn_of_wp Try.func93 rfl h35 ?_ hro
  simp only [Try.ntmps93, List.size_toArray, List.length_cons, List.length_nil, Nat.reduceAdd, Nat.reduceSub, Array.replicate_succ, Array.replicate_zero, List.push_toArray, List.append_toArray, List.nil_append, List.cons_append]
  gi_wp2
  go_ret
  exact ⟨rfl, rfl⟩

/-- What parts hands back goes through the term's parts. -/
theorem parts_stops (F : Fence) (hd : F.depth = none) (n : Nat) (h45 : F.fn 99) (h46 : F.fn 100) (hro : F.round = none) (Bt : Nat) (w0 w : World) (T : Term) (v : Value) (hv : TermV [] w0 T v) (hz : T.size ≤ 1048576) (hw : Below w0.heap.size w0 w) (hBt : w.heap[Bt]? = some (.cells v.cells 26 (0, 0))) :
    SeqStopsK F n Try.prog 99 #[.pointer (some ⟨Bt, 0, none⟩)] (tvEnc (w0 := w0)) (Kept w0.heap.size w.heap.size) (fun ys => ys.map TV.tm = T.parts) (fun pre => pre.map TV.tm <+: T.parts) T.size w := fun l J Jx W hW hJ _ hY h0 =>
  parts_1 F hd n h45 h46 hro l Bt w.heap.size _ w0 hw.size T v hv hz J Jx hJ hY W (hw.trans (hW.mono hw.size)) hW.size ((hW.block Bt (Array.getElem?_eq_some_iff.1 hBt).1).trans hBt) h0
end Go.Proofs.Ytkiofaojokofbaa
namespace Go.Proofs.Ytkiofaojokofbaa
open Go.RowKit Go.Shelf

theorem box_at (w : World) (cs : Array Value) (t : TypeId) {k : Nat} (h : k = w.heap.size) : (w.alloc (.cells cs t)).heap[k]? = some (.cells cs t (0, 0)) := by
  subst h; exact alloc_heap_new _ _
theorem cell_of_box {W : World} {B : Nat} {v : Value} {t : TypeId} (h : W.heap[B]? = some (.cells #[v] t (0, 0))) : W.cell? ⟨B, 0, none⟩ = some v ∧ W.frozen? ⟨B, 0, none⟩ = false := by
  constructor <;> simp [World.cell?, World.frozen?, h]
end Go.Proofs.Ytkiofaojokofbaa
