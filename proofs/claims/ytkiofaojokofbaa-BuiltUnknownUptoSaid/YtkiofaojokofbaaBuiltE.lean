/- Contracts and plain laws: Match Unify Goals1 ArithD Small. -/
import Derived.Test.YtkiofaojokofbaaBuiltD
import Derived.WalkSpells
import Derived.WalkLawsBesides
import Derived.Deep.QuietTactic
import Derived.BigQuiet
import Derived.Deep.DeepCutAuto
import Derived.Deep.RegionHeld3
import Derived.Lib.Hide
import Derived.Handy
import Derived.Defers
import Derived.Recover
import Derived.Test.YtkiofaojokofbaaBuiltA
namespace Go.Proofs.Ytkiofaojokofbaa
open Go.RowKit

namespace PStore
noncomputable def matchF (l : Lat) : Nat → PStore → List (Term × Term) → Int → Bool × Int × Int × PStore
  | _, s, [], lev => (true, lev, 0, s)
  | 0, s, _ :: _, lev => (false, lev, 3, s)
  | k + 1, s, p :: rest, lev =>
    if (s.bindP (s.walk p.1) (s.walk p.2)).1 = true then
      (if (s.bindP (s.walk p.1) (s.walk p.2)).2.1 = true then matchF l k (s.bindP (s.walk p.1) (s.walk p.2)).2.2 rest lev else (false, lev, 0, (s.bindP (s.walk p.1) (s.walk p.2)).2.2))
    else if (l.opened (s.walk p.1)).1.kind = 2 ∧ (l.opened (s.walk p.2)).1.kind = 2 ∧ (l.opened (s.walk p.1)).1.n = (l.opened (s.walk p.2)).1.n then
      matchF l k s rest (l.join lev (l.join (l.opened (s.walk p.1)).2 (l.opened (s.walk p.2)).2))
    else if (l.opened (s.walk p.1)).1.kind = 3 ∧ (l.opened (s.walk p.2)).1.kind = 3 ∧ (l.opened (s.walk p.1)).1.s.toList = (l.opened (s.walk p.2)).1.s.toList ∧ (l.opened (s.walk p.1)).1.kids.length = (l.opened (s.walk p.2)).1.kids.length then
      matchF l k s ((l.opened (s.walk p.1)).1.kids.zip (l.opened (s.walk p.2)).1.kids ++ rest) (l.join lev (l.join (l.opened (s.walk p.1)).2 (l.opened (s.walk p.2)).2))
    else (false, l.join lev (l.join (l.opened (s.walk p.1)).2 (l.opened (s.walk p.2)).2), 0, s)
theorem matchF_nil (l : Lat) (k : Nat) (s : PStore) (lev : Int) : matchF l k s [] lev = (true, lev, 0, s) := by cases k <;> rfl
theorem matchF_full (l : Lat) (s : PStore) (p : Term × Term) (rest : List (Term × Term)) (lev : Int) : matchF l 0 s (p :: rest) lev = (false, lev, 3, s) := rfl
noncomputable def matchT (l : Lat) (s : PStore) (xa bs : List Term) : Bool × Int × Int × PStore :=
  if xa.length = bs.length then matchF l 2000 s (xa.zip bs) l.bottom else (false, l.bottom, 0, s)
end PStore

theorem bindP_no {s : PStore} {a b : Term} (h : (s.bindP a b).1 = false) : (s.bindP a b).2.2 = s := by
  unfold PStore.bindP at h ⊢
  split at h
  · cases h
  split at h
  · cases h
  split at h
  · cases h
  · rename_i h1 h2 h3
    rw [if_neg h1, if_neg h2, if_neg h3]
theorem StoreTo.from {G F G1 F1 : List Nat} {w w1 w2 : World} {sb : Nat} {st : PStore} (h : StoreTo G1 F1 w1 w2 sb st) (f : Frm G w w1) (h1 : ∀ b, b ∈ F → b ∈ F1) (h2 : ∀ b, b ∈ F1 → b ∈ F ∨ w.heap.size ≤ b) (h3 : ∀ b, b ∈ G1 → b ∈ G ∨ w.heap.size ≤ b) : StoreTo G F w w2 sb st := by
  obtain ⟨G', F', k1, k2, k3, k4, k5⟩ := h
  have hsz := f.size
  exact ⟨G', F', k1, f.trans k2 h3, fun b hb => k3 b (h1 b hb), fun b hb => (k4 b hb).elim (h2 b) (fun h => .inr (by omega)), fun b hb => (k5 b hb).elim (h3 b) (fun h => .inr (by omega))⟩
theorem box_store8 {w : World} {b : Nat} {c0 c1 c2 c3 c4 c5 c6 c7 : Value} {ty : TypeId} (h : w.heap[b]? = some (.cells #[c0, c1, c2, c3, c4, c5, c6, c7] ty (0, 0))) (d0 d1 d2 d3 d4 d5 d6 d7 : Value) :
    ((((((((w.setCell ⟨b, 0, none⟩ d0).setCell ⟨b, 1, none⟩ d1).setCell ⟨b, 2, none⟩ d2).setCell ⟨b, 3, none⟩ d3).setCell ⟨b, 4, none⟩ d4).setCell ⟨b, 5, none⟩ d5).setCell ⟨b, 6, none⟩ d6).setCell ⟨b, 7, none⟩ d7).heap[b]? = some (.cells #[d0, d1, d2, d3, d4, d5, d6, d7] ty (0, 0)) := by
  have h0 := heap_setCell_at h 0 d0
  have h1 := heap_setCell_at h0 1 d1
  have h2 := heap_setCell_at h1 2 d2
  have h3 := heap_setCell_at h2 3 d3
  have h4 := heap_setCell_at h3 4 d4
  have h5 := heap_setCell_at h4 5 d5
  have h6 := heap_setCell_at h5 6 d6
  have h7 := heap_setCell_at h6 7 d7
  simp only [List.setIfInBounds_toArray, List.set_cons_succ, List.set_cons_zero] at h7
  exact h7
theorem box8_frm (w : World) (b : Nat) (d0 d1 d2 d3 d4 d5 d6 d7 : Value) : Frm [b] w ((((((((w.setCell ⟨b, 0, none⟩ d0).setCell ⟨b, 1, none⟩ d1).setCell ⟨b, 2, none⟩ d2).setCell ⟨b, 3, none⟩ d3).setCell ⟨b, 4, none⟩ d4).setCell ⟨b, 5, none⟩ d5).setCell ⟨b, 6, none⟩ d6).setCell ⟨b, 7, none⟩ d7) :=
  by
  have f0 := (Frm.refl [b] w).setCell (p := ⟨b, 0, none⟩) (.inl (List.mem_singleton.2 rfl)) d0
  have f1 := f0.setCell (p := ⟨b, 1, none⟩) (.inl (List.mem_singleton.2 rfl)) d1
  have f2 := f1.setCell (p := ⟨b, 2, none⟩) (.inl (List.mem_singleton.2 rfl)) d2
  have f3 := f2.setCell (p := ⟨b, 3, none⟩) (.inl (List.mem_singleton.2 rfl)) d3
  have f4 := f3.setCell (p := ⟨b, 4, none⟩) (.inl (List.mem_singleton.2 rfl)) d4
  have f5 := f4.setCell (p := ⟨b, 5, none⟩) (.inl (List.mem_singleton.2 rfl)) d5
  have f6 := f5.setCell (p := ⟨b, 6, none⟩) (.inl (List.mem_singleton.2 rfl)) d6
  have f7 := f6.setCell (p := ⟨b, 7, none⟩) (.inl (List.mem_singleton.2 rfl)) d7
  exact f7

/-- The state of Match's loop. -/
def MatchAt (G F : List Nat) (w wr : World) (sb lb base : Nat) (l : Lat) (R : Bool × Int × Int × PStore) (k : Nat) (lf : Value) (lev : Int) : Prop :=
  ∃ G' F' st ps xs, R = PStore.matchF l k st ps lev ∧ StoreAt G' F' wr sb st ∧ Frm G w wr ∧ (∀ b, b ∈ F → b ∈ F') ∧ (∀ b, b ∈ F' → b ∈ F ∨ w.heap.size ≤ b) ∧ (∀ b, b ∈ G' → b ∈ G ∨ w.heap.size ≤ b) ∧
    OwnPairs F' wr base lf ps.reverse xs ∧ (∀ g, lf.ownBlock = some g → g ∈ F' ∧ g ∉ G') ∧ ps.length ≤ (2001 - k) * 1048576 ∧ LatAt wr lb l

set_option maxRecDepth 100000 in
set_option maxHeartbeats 4000000 in
theorem unify_match (G F : List Nat) (sb lb : Nat) (l : Lat) (st : PStore) (xa bs : List Term) (A B : Option Addr) (ca cb : Nat) (w : World) (hl : LatAt w lb l) (hlG : lb ∉ G) (hs : StoreAt G F w sb st) (hA : KidsV F w xa A 0) (hB : KidsV F w bs B 0)
    (hla : xa.length ≤ 1048576) (hlb : bs.length ≤ 1048576) :
    Calls Try.prog 61 #[.pointer (some ⟨sb, 0, none⟩), .pointer (some ⟨lb, 0, none⟩), .slice A xa.length ca, .slice B bs.length cb] w fun e w' =>
      e = .returned (.tuple #[.bool (st.matchT l xa bs).1, .int .i64 (st.matchT l xa bs).2.1, .int .i64 (st.matchT l xa bs).2.2.1]) ∧ StoreTo G F w w' sb (st.matchT l xa bs).2.2.2 := by
  have hF := hs.lt
  have _ := hlb
  have hGF := hs.sub
  have SQ := Lib.hid (fun w' => @StoreTo.quiet G F w w' sb st hs)
  by_cases hlen : xa.length = bs.length
  · have HR : Hid (st.matchT l xa bs = PStore.matchF l 2000 st (xa.zip bs) l.bottom) := by show _ = _; unfold PStore.matchT; rw [if_pos hlen]
    have hzl : (xa.zip bs).length ≤ 1048576 := by rw [List.length_zip]; omega
    have HL := Lib.hid hlen
    have hlen' : ((xa.length : Int) != (bs.length : Int)) = false := by rw [hlen]; simp
    generalize st.matchT l xa bs = R at *
    clear hlen
    go_enter Try.func61, Try.ntmps61
    go_wp2
    go_step3
    go_wp2_with (first
      | (go_at_call 21; refine (lat_bottom l lb _ (hl.frm0 (by repeat (first | with_reducible (first | refine .alloc ?_ _ | refine .drewN ?_ _ | refine .drew ?_) | ((with_reducible refine .setCell ?_ ?_ _); rotate_left; focus (first | (left; simp; done) | (right; simp; (first | done | omega)))) | with_reducible (first | assumption | exact .refl _ _ | refine .trans0 ?_ ‹_›))))).mono ?_; rintro e w' ⟨rfl, rfl⟩)
      | (go_at_call 72; refine (unify_pairs xa bs A B ca cb F _ (hA.keep (by repeat (first | with_reducible (first | refine .alloc ?_ _ | refine .drewN ?_ _ | refine .drew ?_) | ((with_reducible refine .setCell ?_ ?_ _); rotate_left; focus (first | (left; simp; done) | (right; simp; (first | done | omega)))) | with_reducible (first | assumption | exact .refl _ _ | refine .trans0 ?_ ‹_›)))) (hB.keep (by repeat (first | with_reducible (first | refine .alloc ?_ _ | refine .drewN ?_ _ | refine .drew ?_) | ((with_reducible refine .setCell ?_ ?_ _); rotate_left; focus (first | (left; simp; done) | (right; simp; (first | done | omega)))) | with_reducible (first | assumption | exact .refl _ _ | refine .trans0 ?_ ‹_›)))) HL.out hla).mono ?_; rintro e w1 ⟨⟨v1, xs1, rfl, hv1⟩, F1⟩))
    go_step3
    go_wp2
    go_loopw [11, 12, 13] (fun lv lf mn wr => ∃ (k : Nat) (lev : Int), k ≤ 2000 ∧ mn = .int .i64 ((2000 : Int) - k) ∧ lv = .int .i64 lev ∧ MatchAt G F w wr sb lb w.heap.size l R k lf lev) (fun _ _ mn _ => (2001 - intOf mn).toNat)
    case atStart =>
      refine ⟨2000, l.bottom, Nat.le_refl _, rfl, rfl, G, v1.ownBlock.toList ++ F, st, xa.zip bs, xs1, HR.out, ?_, F1.mono (by simp), fun b hb => List.mem_append.2 (.inr hb), ?_, fun b hb => .inl hb, hv1.self, ?_, by omega, hl.frm0 F1⟩
      · refine hs.more F1 (by simp) (by simp) ?_ (fun b hb => List.mem_append.2 (.inr hb)) ?_
        · intro b hb
          rcases List.mem_append.1 hb with hb | hb
          · exact .inr (hv1.own_lt b hb).1
          · exact .inl hb
        · intro b hb
          rcases List.mem_append.1 hb with hb | hb
          · exact (hv1.own_lt b hb).2
          · have := hF b hb; have := F1.size; omega
      · intro b hb
        rcases List.mem_append.1 hb with hb | hb
        · exact .inr (hv1.own_lt b hb).1
        · exact .inl hb
      · intro g hg
        refine ⟨by simp [hg], fun h => ?_⟩
        have := (hv1.own_lt g (by simp [hg])).1
        have := hF g (hGF g h)
        omega
    case round =>
      obtain ⟨k, lev, hk, rfl, rfl, G', F', st', ps, xs, hR, hs', fr, hF1, hF2, hG2, hown, hownF, hpl, hl'⟩ := hrel
      have HRR := Lib.hid hR
      clear hR
      cases ps with
      | nil =>
        obtain ⟨Al, cl, rfl⟩ := hown.form
        simp only [List.length_reverse, List.length_nil]
        go_wp2
        ((try simp only [Exit.noGoto]); refine bodyPost_ret (results_tmp3 rfl _ _ _) rfl ?_)
        have hR2 := HRR.out
        rw [PStore.matchF_nil] at hR2
        rw [hR2]
        exact ⟨rfl, G', F', hs', fr, hF1, hF2, hG2⟩
      | cons p rest =>
        rw [List.reverse_cons] at hown
        obtain ⟨g, cap, c0, c1, c2, c3, d0, d1, d2, d3, rfl, hcap, hpop, hgl, e0, e1, e2, e3, e4, e5, e6, e7, hta, htb⟩ := hown.pop
        simp only [List.length_reverse] at hcap hpop e0 e1 e2 e3 e4 e5 e6 e7 ⊢
        have hrb : rest.length ≤ 4000000000 := by
          rw [List.length_cons] at hpl
          have h9 : (2001 - k) * 1048576 ≤ 2001 * 1048576 := Nat.mul_le_mul_right _ (by omega)
          omega
        cases k with
        | zero =>
          go_wp2
          ((try simp only [Exit.noGoto]); refine bodyPost_ret (results_tmp3 rfl _ _ _) rfl ?_)
          have hR2 := HRR.out
          rw [PStore.matchF_full] at hR2
          rw [hR2]
          exact ⟨rfl, G', F', hs', fr, hF1, hF2, hG2⟩
        | succ k =>
          have hmany : ¬ ((2000 : Int) < 2000 - ((k + 1 : Nat) : Int) + 1) := by omega
          obtain ⟨A1, cc1, ea⟩ := hta.form
          obtain ⟨A2, cc2, eb⟩ := htb.form
          simp only [Value.agg.injEq, Array.mk.injEq, List.cons.injEq, and_true] at ea eb
          obtain ⟨rfl, rfl, rfl, rfl⟩ := ea
          obtain ⟨rfl, rfl, rfl, rfl⟩ := eb
          obtain ⟨pa, pb⟩ := p
          dsimp only at hta htb e0 e1 e2 e3 e4 e5 e6 e7
          go_wp2
          generalize hW : World.alloc wr _ = W
          have hbx : W.heap[wr.heap.size]? = some (.cells #[.int .i64 pa.kind, .int .i64 pa.n, .string pa.s, .slice A1 pa.kids.length cc1, .int .i64 pb.kind, .int .i64 pb.n, .string pb.s, .slice A2 pb.kids.length cc2] 113 (0, 0)) := by subst hW; exact alloc_heap_new _ _
          have FW : Frm [] wr W := by subst hW; exact (by repeat (first | with_reducible (first | refine .alloc ?_ _ | refine .drewN ?_ _ | refine .drew ?_) | ((with_reducible refine .setCell ?_ ?_ _); rotate_left; focus (first | (left; simp; done) | (right; simp; (first | done | omega)))) | with_reducible (first | assumption | exact .refl _ _ | refine .trans0 ?_ ‹_›)))
          have hszW : W.heap.size = wr.heap.size + 1 := by subst hW; simp
          have hF' := hs'.lt
          have hG' := hs'.sub
          have hF3 : ∀ b, b ∈ wr.heap.size :: F' → b < W.heap.size := lt_one hF' (by omega) (by omega)
          have hsW : StoreAt G' (wr.heap.size :: F') W sb st' := hs'.more FW (by simp) (by simp) (new_one (Nat.le_refl _)) (fun b hb => by simp [hb]) hF3
          have hsubg : ∀ b, b ∈ wr.heap.size :: F' → b ∈ g :: F' ∨ wr.heap.size ≤ b := fun b hb => by
            rcases List.mem_cons.1 hb with rfl | hb
            · exact .inr (Nat.le_refl _)
            · exact .inl (List.mem_cons_of_mem _ hb)
          have htaW := (hta.away hsubg).keep FW
          have htbW := (htb.away hsubg).keep FW
          have hpopW := hpop.over (G := []) (F' := wr.heap.size :: F') FW (by simp) (fun _ _ h => by cases h) (fun b hb => List.mem_cons_of_mem _ hb) (new_one (Nat.le_refl _))
          have hlW := hl'.frm0 FW
          have hgF : g ∈ F' ∧ g ∉ G' := hownF g rfl
          have frW := fr.trans0 FW
          clear hW hta htb hpop hl' e0 e1 e2 e3 e4 e5 e6 e7 hsubg
          obtain ⟨x0, x1, x2, x3, x4, x5, x6, x7, x8, x9⟩ := blk8 hbx
          refine wp_region_U (fun w' => w'.cell? ⟨wr.heap.size, 0, none⟩ = some (.int .i64 pa.kind) ∧ w'.cell? ⟨wr.heap.size, 1, none⟩ = some (.int .i64 pa.n) ∧ w'.cell? ⟨wr.heap.size, 2, none⟩ = some (.string pa.s) ∧ w'.cell? ⟨wr.heap.size, 3, none⟩ = some (.slice A1 pa.kids.length cc1) ∧ w'.cell? ⟨wr.heap.size, 4, none⟩ = some (.int .i64 pb.kind) ∧ w'.cell? ⟨wr.heap.size, 5, none⟩ = some (.int .i64 pb.n) ∧ w'.cell? ⟨wr.heap.size, 6, none⟩ = some (.string pb.s) ∧ w'.cell? ⟨wr.heap.size, 7, none⟩ = some (.slice A2 pb.kids.length cc2)) (fun i => Nat.blt i 7) (by kernel_rfl) ?rgnS1 (fun hHeld => ?rgnB1)
          case rgnS1 => (first | (dsimp only; go_keep) | go_keep)
          case' rgnB1 => skip
          refine Pend.start [0, 1, 2, 4, 5, 6] ?_
          iterate 6 (refine tk (v := ?_) rfl (by kernel_rfl) (by rfl) (fun _ _ _ h => h) (by assumption) ?_ ?_; rotate_left; (focus (intro wq hSw; (try dsimp only at hSw); go_simp; (first | done | with_reducible rfl))); try simp only [Act.put, List.setIfInBounds_toArray, List.set_cons_zero, List.set_cons_succ])
          refine Pend.done ?_
          refine one 3 (by kernel_rfl) rfl (fun K' hK => ?_)
          (go_simp; refine (store_walk G' (wr.heap.size :: F') sb st' pa _ _ (hsW.keep (by repeat (first | with_reducible (first | refine .alloc ?_ _ | refine .drewN ?_ _ | refine .drew ?_) | ((with_reducible refine .setCell ?_ ?_ _); rotate_left; focus (first | (left; simp; done) | (right; simp; (first | done | omega)))) | with_reducible (first | assumption | exact .refl _ _ | refine .trans0 ?_ ‹_›)))) (htaW.keep (by repeat (first | with_reducible (first | refine .alloc ?_ _ | refine .drewN ?_ _ | refine .drew ?_) | ((with_reducible refine .setCell ?_ ?_ _); rotate_left; focus (first | (left; simp; done) | (right; simp; (first | done | omega)))) | with_reducible (first | assumption | exact .refl _ _ | refine .trans0 ?_ ‹_›))))).mono ?_; rintro e w2 ⟨⟨va, rfl, hva⟩, F2⟩; obtain ⟨A3, cap3, rfl⟩ := hva.form; have hbx2 := F2.at0 hbx; obtain ⟨y0, y1, y2, y3, y4, y5, y6, y7, y8, y9⟩ := blk8 hbx2; dsimp only)
          refine hK.out _ _ (fun _ => ?rgnS2) (fun hH => ?rgnB2)
          case rgnS2 => (first | (dsimp only; go_keep) | go_keep)
          case' rgnB2 => ((try clear hHeld); have hHeld := hH (by decide); clear hH)
          clear hK K'
          try simp only [Act.put, List.setIfInBounds_toArray, List.set_cons_zero, List.set_cons_succ]
          refine one 7 (by kernel_rfl) rfl (fun K' hK => ?_)
          (go_simp; refine (store_walk G' (wr.heap.size :: F') sb st' pb _ _ (hsW.keep (by repeat (first | with_reducible (first | refine .alloc ?_ _ | refine .drewN ?_ _ | refine .drew ?_) | ((with_reducible refine .setCell ?_ ?_ _); rotate_left; focus (first | (left; simp; done) | (right; simp; (first | done | omega)))) | with_reducible (first | assumption | exact .refl _ _ | refine .trans0 ?_ ‹_›)))) (htbW.keep (by repeat (first | with_reducible (first | refine .alloc ?_ _ | refine .drewN ?_ _ | refine .drew ?_) | ((with_reducible refine .setCell ?_ ?_ _); rotate_left; focus (first | (left; simp; done) | (right; simp; (first | done | omega)))) | with_reducible (first | assumption | exact .refl _ _ | refine .trans0 ?_ ‹_›))))).mono ?_; rintro e w3 ⟨⟨vb, rfl, hvb⟩, F3⟩; obtain ⟨A4, cap4, rfl⟩ := hvb.form; have hbx3 := F3.at0 hbx2; obtain ⟨z0, z1, z2, z3, z4, z5, z6, z7, z8, z9⟩ := blk8 hbx3; dsimp only)
          refine hK.out _ _ (fun h => absurd h (by decide)) (fun _ => ?_)
          clear hK K'
          try simp only [Act.put, List.setIfInBounds_toArray, List.set_cons_zero, List.set_cons_succ]
          refine Pend.start [8] ?_
          (refine tkl (v := ?_) rfl (by kernel_rfl) (by rfl) (fun _ _ _ h => h) ?_ ?_; rotate_left; (focus (intro wq hSw; go_simp; (first | done | with_reducible rfl))); try simp only [Act.put, List.setIfInBounds_toArray, List.set_cons_zero, List.set_cons_succ])
          refine Pend.done ?_
          refine one 9 (by kernel_rfl) rfl (fun K' hK => ?_)
          go_simp
          refine hK.out _ _ (fun h => absurd h (by decide)) (fun _ => ?_)
          clear hK K'
          try simp only [Act.put, List.setIfInBounds_toArray, List.set_cons_zero, List.set_cons_succ]
          refine wpAnyU_done (by kernel_rfl) ?_ _
          have hMF := HRR.out
          rw [PStore.matchF] at hMF
          dsimp only at hMF
          generalize hta' : st'.walk pa = ta at *
          generalize htb' : st'.walk pb = tb at *
          clear hta' htb'
          have hbx8 := box_store8 hbx3 (.int .i64 ta.kind) (.int .i64 ta.n) (.string ta.s) (.slice A3 ta.kids.length cap3) (.int .i64 tb.kind) (.int .i64 tb.n) (.string tb.s) (.slice A4 tb.kids.length cap4)
          have FZ := box8_frm w3 wr.heap.size (.int .i64 ta.kind) (.int .i64 ta.n) (.string ta.s) (.slice A3 ta.kids.length cap3) (.int .i64 tb.kind) (.int .i64 tb.n) (.string tb.s) (.slice A4 tb.kids.length cap4)
          generalize (World.setCell (World.setCell (World.setCell _ _ _) _ _) _ _) = W8 at *
          have FW8 : Frm [wr.heap.size] W W8 := (((Frm.refl [] W).drew.trans0 F2).trans0 F3).mono (by simp) |>.trans' FZ
          have F03 : Frm [] W w3 := ((Frm.refl [] W).drew.trans0 F2).trans0 F3
          have hbxG : wr.heap.size ∉ G' := fun h => by have := hF' _ (hG' _ h); omega
          have hs8 : StoreAt G' (wr.heap.size :: F') W8 sb st' := hsW.frm FW8 (fun b hb => by rw [List.mem_singleton.1 hb]; exact hbxG) (by simp)
          have ha8 : TermV (wr.heap.size :: F') W8 ta (.agg #[.int .i64 ta.kind, .int .i64 ta.n, .string ta.s, .slice A3 ta.kids.length cap3]) := (hva.keep F3).frm FZ (by simp)
          have hb8 : TermV (wr.heap.size :: F') W8 tb (.agg #[.int .i64 tb.kind, .int .i64 tb.n, .string tb.s, .slice A4 tb.kids.length cap4]) := hvb.frm FZ (by simp)
          have hgx : g ≠ wr.heap.size := by omega
          have hp8 : OwnPairs (wr.heap.size :: F') W8 w.heap.size (.slice (some ⟨g, 0, none⟩) rest.length cap) rest.reverse (xs.take (rest.length * 8)) := hpopW.over (G := [wr.heap.size]) FW8 (by simp) (fun g' hg' h => by cases hg'; exact hgx (List.mem_singleton.1 h)) (fun _ h => h) (fun _ h => .inl h)
          have hl8 : LatAt W8 lb l := (hlW.frm0 F03).frm FZ (fun h => by have h1 := hl.lt; have h2 := fr.size; have h3 := List.mem_singleton.1 h; omega)
          have fr8 : Frm G w W8 := frW.trans FW8 (fun x hx => .inr (by rw [List.mem_singleton.1 hx]; have := fr.size; omega))
          clear hbx3 hbx2 hbx hva hvb FZ hsW htaW htbW hpopW hlW frW
          have hFx2 : ∀ b, b ∈ wr.heap.size :: F' → b ∈ F ∨ w.heap.size ≤ b := fun b hb => by
            rcases List.mem_cons.1 hb with rfl | hb
            · exact .inr fr.size
            · exact hF2 b hb
          have hgl8 : g < W8.heap.size := by have := FW8.size; omega
          have hlbG : lb ∉ G' := fun h => (hG2 lb h).elim hlG (fun h => by have := hl.lt; omega)
          have hrest : rest.length ≤ (2001 - k) * 1048576 := by
            rw [List.length_cons] at hpl
            have h9 : (2001 - (k + 1)) * 1048576 ≤ (2001 - k) * 1048576 := Nat.mul_le_mul_right _ (by omega)
            omega
          have hbn := @bindP_no st' ta tb
          have UB := Lib.hid (unify_bind G' (wr.heap.size :: F') sb st' ta tb _ _ _ _ _ _ _ _ W8 hs8 ha8 hb8)
          generalize hP : st'.bindP ta tb = P at *
          obtain ⟨d, o, st2⟩ := P
          obtain ⟨q0, q1, q2, q3, q4, q5, q6, q7, q8, q9⟩ := blk8 hbx8
          dsimp only at hMF hbn
          cases d with
          | true =>
            cases o with
            | false =>
              go_wp2_with (go_at_call 73; refine UB.out.mono ?_; rintro e w4 ⟨rfl, TO⟩)
              ((try simp only [Exit.noGoto]); refine bodyPost_ret (results_tmp3 rfl _ _ _) rfl ?_)
              rw [hMF]
              exact ⟨rfl, TO.from fr8 (fun b hb => List.mem_cons_of_mem _ (hF1 b hb)) hFx2 hG2⟩
            | true =>
              go_wp2_with (go_at_call 73; refine UB.out.mono ?_; rintro e w4 ⟨rfl, TO⟩)
              obtain ⟨G4, F4, hs4, f4, h41, h42, h43⟩ := TO
              refine ⟨⟨k, lev, by omega, by congr 1; omega, rfl, G4, F4, st2, rest, _, hMF, hs4, fr8.trans f4 hG2, fun b hb => h41 b (List.mem_cons_of_mem _ (hF1 b hb)), fun b hb => (h42 b hb).elim (hFx2 b) (fun h => .inr (Nat.le_trans fr8.size h)), fun b hb => (h43 b hb).elim (hG2 b) (fun h => .inr (Nat.le_trans fr8.size h)),
                hp8.over f4 (fun b hb => List.mem_cons_of_mem _ (hG' b hb)) (fun g' hg' => by cases hg'; exact hgF.2) h41 h42, fun g' hg' => by cases hg'; exact ⟨h41 g (List.mem_cons_of_mem _ hgF.1), fun h => (h43 g h).elim hgF.2 (fun h => by omega)⟩, ?_, hl8.frm f4 hlbG⟩, by simp [intOf]; omega⟩
              exact hrest
          | false =>
            obtain rfl : st2 = st' := hbn rfl
            rw [if_neg (by decide)] at hMF
            have hlG4 : ∀ (G4 : List Nat), (∀ b, b ∈ G4 → b ∈ G' ∨ W8.heap.size ≤ b) → lb ∉ G4 := fun G4 h43 h => (h43 lb h).elim hlbG (fun h => by have := hl8.lt; omega)
            generalize hox : l.opened ta = ox at *
            generalize hoy : l.opened tb = oy at *
            obtain ⟨⟨xk, xn, xS, xks⟩, lx⟩ := ox
            obtain ⟨⟨yk, yn, yS, yks⟩, ly⟩ := oy
            have HOX := Lib.hid hox
            have HOY := Lib.hid hoy
            clear hox hoy hbn hP
            dsimp only [Term.kind, Term.n, Term.s, Term.kids] at hMF
            have o1 : True := trivial
            have core : (R = PStore.matchF l k st2 rest (l.join lev (l.join lx ly)) ∧ (xk == 2) = true ∧ (yk == 2) = true ∧ (xn == yn) = true) ∨ (R = PStore.matchF l k st2 (xks.zip yks ++ rest) (l.join lev (l.join lx ly)) ∧ (xk == 2) = false ∧ (xk == 3) = true ∧ (yk == 3) = true ∧ xS.toList = yS.toList ∧ xks.length = yks.length) ∨
                (R = (false, l.join lev (l.join lx ly), 0, st2) ∧ (((xk == 2) = true ∧ (xk == 3) = false ∧ (yk == 2) = false) ∨ ((xk == 2) = true ∧ (xk == 3) = false ∧ (yk == 2) = true ∧ (xn == yn) = false) ∨ ((xk == 2) = false ∧ (xk == 3) = false) ∨ ((xk == 2) = false ∧ (xk == 3) = true ∧ (yk == 3) = false) ∨
                  ((xk == 2) = false ∧ (xk == 3) = true ∧ (yk == 3) = true ∧ ¬ xS.toList = yS.toList) ∨ ((xk == 2) = false ∧ (xk == 3) = true ∧ (yk == 3) = true ∧ xS.toList = yS.toList ∧ ((xks.length : Int) == (yks.length : Int)) = false))) := by
              simp only [beq_iff_eq, beq_eq_false_iff_ne]
              by_cases hA1 : xk = 2 ∧ yk = 2 ∧ xn = yn
              · exact .inl ⟨hMF.trans (if_pos hA1), hA1⟩
              replace hMF := hMF.trans (if_neg hA1)
              by_cases hB1 : xk = 3 ∧ yk = 3 ∧ xS.toList = yS.toList ∧ xks.length = yks.length
              · exact .inr (.inl ⟨hMF.trans (if_pos hB1), by omega, hB1⟩)
              replace hMF := hMF.trans (if_neg hB1)
              refine .inr (.inr ⟨hMF, ?_⟩)
              by_cases k2 : xk = 2
              · by_cases j2 : yk = 2
                · exact .inr (.inl ⟨k2, by omega, j2, fun h => hA1 ⟨k2, j2, h⟩⟩)
                · exact .inl ⟨k2, by omega, j2⟩
              refine .inr (.inr ?_)
              by_cases k3 : xk = 3
              · refine .inr ?_
                by_cases j3 : yk = 3
                · refine .inr ?_
                  by_cases hS : xS.toList = yS.toList
                  · exact .inr ⟨k2, k3, j3, hS, fun h => hB1 ⟨k3, j3, hS, by omega⟩⟩
                  · exact .inl ⟨k2, k3, j3, hS⟩
                · exact .inl ⟨k2, k3, j3⟩
              · exact .inl ⟨k2, k3⟩
            rcases core with ⟨hRA, b1, b2, b3⟩ | ⟨hRB, b1, b2, b3, b4, b5⟩ | ⟨hRC, hC⟩
            · have HRA := Lib.hid hRA
              clear hRA hMF
              go_wp2_with (first
                | (go_at_call 73; refine UB.out.mono ?_; rintro e w4 ⟨rfl, TO⟩; obtain ⟨G4, F4, hs4, f4, h41, h42, h43⟩ := id TO; have hbx4 := f4.at_ hbx8 hbxG; obtain ⟨q0, q1, q2, q3, q4, q5, q6, q7, q8, q9⟩ := blk8 hbx4; have ha4 := ha8.over (fun b hb => List.mem_cons_of_mem _ (hG' b hb)) f4 h41 h42; have hb4 := hb8.over (fun b hb => List.mem_cons_of_mem _ (hG' b hb)) f4 h41 h42; have hl4 := hl8.frm f4 hlbG; have hF4 := hs4.lt)
                | (go_at_call 57; clear o1; refine (seal_open F4 l lb ta _ _ (hl4.frm0 (by repeat (first | with_reducible (first | refine .alloc ?_ _ | refine .drewN ?_ _ | refine .drew ?_) | ((with_reducible refine .setCell ?_ ?_ _); rotate_left; focus (first | (left; simp; done) | (right; simp; (first | done | omega)))) | with_reducible (first | assumption | exact .refl _ _ | refine .trans0 ?_ ‹_›)))) (ha4.keep (by repeat (first | with_reducible (first | refine .alloc ?_ _ | refine .drewN ?_ _ | refine .drew ?_) | ((with_reducible refine .setCell ?_ ?_ _); rotate_left; focus (first | (left; simp; done) | (right; simp; (first | done | omega)))) | with_reducible (first | assumption | exact .refl _ _ | refine .trans0 ?_ ‹_›)))) hF4).mono ?_; rw [HOX.out]; rintro e w5 ⟨⟨vx, rfl, hvx⟩, F5⟩; obtain ⟨A5, cap5, rfl⟩ := hvx.form; dsimp only [Term.kind, Term.n, Term.s, Term.kids] at hvx ⊢; obtain ⟨q0, q1, q2, q3, q4, q5, q6, q7, q8, q9⟩ := blk8 (F5.at0 hbx4))
                | (go_at_call 57; refine (seal_open F4 l lb tb _ _ (hl4.frm0 (by repeat (first | with_reducible (first | refine .alloc ?_ _ | refine .drewN ?_ _ | refine .drew ?_) | ((with_reducible refine .setCell ?_ ?_ _); rotate_left; focus (first | (left; simp; done) | (right; simp; (first | done | omega)))) | with_reducible (first | assumption | exact .refl _ _ | refine .trans0 ?_ ‹_›)))) (hb4.keep (by repeat (first | with_reducible (first | refine .alloc ?_ _ | refine .drewN ?_ _ | refine .drew ?_) | ((with_reducible refine .setCell ?_ ?_ _); rotate_left; focus (first | (left; simp; done) | (right; simp; (first | done | omega)))) | with_reducible (first | assumption | exact .refl _ _ | refine .trans0 ?_ ‹_›)))) (fun b hb => by have h1 := hF4 b hb; have h2 := F5.size; simp; omega)).mono ?_; rw [HOY.out]; rintro e w6 ⟨⟨vy, rfl, hvy⟩, F6⟩; obtain ⟨A6, cap6, rfl⟩ := hvy.form; dsimp only [Term.kind, Term.n, Term.s, Term.kids] at hvy ⊢; have hbX := F6.at0 (alloc_heap_new w5 _); obtain ⟨t0, t1, t2, t3, t4, t5⟩ := blk4 hbX)
                | (go_at_call 47; refine (lat_join l lb _ _ _ (hl4.frm0 (by repeat (first | with_reducible (first | refine .alloc ?_ _ | refine .drewN ?_ _ | refine .drew ?_) | ((with_reducible refine .setCell ?_ ?_ _); rotate_left; focus (first | (left; simp; done) | (right; simp; (first | done | omega)))) | with_reducible (first | assumption | exact .refl _ _ | refine .trans0 ?_ ‹_›))))).mono ?_; rintro e w7 ⟨rfl, ⟨d7, rfl⟩⟩))
              refine ⟨⟨k, l.join lev (l.join lx ly), by omega, by congr 1; omega, rfl, G4, F4, st2, rest, _, HRA.out, hs4.keep (by repeat (first | with_reducible (first | refine .alloc ?_ _ | refine .drewN ?_ _ | refine .drew ?_) | ((with_reducible refine .setCell ?_ ?_ _); rotate_left; focus (first | (left; simp; done) | (right; simp; (first | done | omega)))) | with_reducible (first | assumption | exact .refl _ _ | refine .trans0 ?_ ‹_›))), (fr8.trans f4 hG2).trans0 (by repeat (first | with_reducible (first | refine .alloc ?_ _ | refine .drewN ?_ _ | refine .drew ?_) | ((with_reducible refine .setCell ?_ ?_ _); rotate_left; focus (first | (left; simp; done) | (right; simp; (first | done | omega)))) | with_reducible (first | assumption | exact .refl _ _ | refine .trans0 ?_ ‹_›))), fun b hb => h41 b (List.mem_cons_of_mem _ (hF1 b hb)), fun b hb => (h42 b hb).elim (hFx2 b) (fun h => .inr (Nat.le_trans fr8.size h)), fun b hb => (h43 b hb).elim (hG2 b) (fun h => .inr (Nat.le_trans fr8.size h)),
                (hp8.over f4 (fun b hb => List.mem_cons_of_mem _ (hG' b hb)) (fun g' hg' => by cases hg'; exact hgF.2) h41 h42).keep (by repeat (first | with_reducible (first | refine .alloc ?_ _ | refine .drewN ?_ _ | refine .drew ?_) | ((with_reducible refine .setCell ?_ ?_ _); rotate_left; focus (first | (left; simp; done) | (right; simp; (first | done | omega)))) | with_reducible (first | assumption | exact .refl _ _ | refine .trans0 ?_ ‹_›))), fun g' hg' => by cases hg'; exact ⟨h41 g (List.mem_cons_of_mem _ hgF.1), fun h => (h43 g h).elim hgF.2 (fun h => by omega)⟩, hrest, hl4.frm0 (by repeat (first | with_reducible (first | refine .alloc ?_ _ | refine .drewN ?_ _ | refine .drew ?_) | ((with_reducible refine .setCell ?_ ?_ _); rotate_left; focus (first | (left; simp; done) | (right; simp; (first | done | omega)))) | with_reducible (first | assumption | exact .refl _ _ | refine .trans0 ?_ ‹_›)))⟩, by simp [intOf]; omega⟩
            · have HRB := Lib.hid hRB
              clear hRB hMF
              have b5' : ((xks.length : Int) == (yks.length : Int)) = true := by rw [b5]; simp
              by_cases h0 : xks.length = 0
              · have hxe : xks = [] := List.length_eq_zero_iff.1 h0
                have hye : yks = [] := List.length_eq_zero_iff.1 (by omega)
                subst hxe
                subst hye
                clear b5 b5' h0
                have hcap' : ¬ (cap < rest.length) := by omega
                go_wp2_with (first
                  | (go_at_call 73; refine UB.out.mono ?_; rintro e w4 ⟨rfl, TO⟩; obtain ⟨G4, F4, hs4, f4, h41, h42, h43⟩ := id TO; have hbx4 := f4.at_ hbx8 hbxG; obtain ⟨q0, q1, q2, q3, q4, q5, q6, q7, q8, q9⟩ := blk8 hbx4; have ha4 := ha8.over (fun b hb => List.mem_cons_of_mem _ (hG' b hb)) f4 h41 h42; have hb4 := hb8.over (fun b hb => List.mem_cons_of_mem _ (hG' b hb)) f4 h41 h42; have hl4 := hl8.frm f4 hlbG; have hF4 := hs4.lt)
                  | (go_at_call 57; clear o1; refine (seal_open F4 l lb ta _ _ (hl4.frm0 (by repeat (first | with_reducible (first | refine .alloc ?_ _ | refine .drewN ?_ _ | refine .drew ?_) | ((with_reducible refine .setCell ?_ ?_ _); rotate_left; focus (first | (left; simp; done) | (right; simp; (first | done | omega)))) | with_reducible (first | assumption | exact .refl _ _ | refine .trans0 ?_ ‹_›)))) (ha4.keep (by repeat (first | with_reducible (first | refine .alloc ?_ _ | refine .drewN ?_ _ | refine .drew ?_) | ((with_reducible refine .setCell ?_ ?_ _); rotate_left; focus (first | (left; simp; done) | (right; simp; (first | done | omega)))) | with_reducible (first | assumption | exact .refl _ _ | refine .trans0 ?_ ‹_›)))) hF4).mono ?_; rw [HOX.out]; rintro e w5 ⟨⟨vx, rfl, hvx⟩, F5⟩; obtain ⟨A5, cap5, rfl⟩ := hvx.form; dsimp only [Term.kind, Term.n, Term.s, Term.kids] at hvx ⊢; obtain ⟨q0, q1, q2, q3, q4, q5, q6, q7, q8, q9⟩ := blk8 (F5.at0 hbx4))
                  | (go_at_call 57; refine (seal_open F4 l lb tb _ _ (hl4.frm0 (by repeat (first | with_reducible (first | refine .alloc ?_ _ | refine .drewN ?_ _ | refine .drew ?_) | ((with_reducible refine .setCell ?_ ?_ _); rotate_left; focus (first | (left; simp; done) | (right; simp; (first | done | omega)))) | with_reducible (first | assumption | exact .refl _ _ | refine .trans0 ?_ ‹_›)))) (hb4.keep (by repeat (first | with_reducible (first | refine .alloc ?_ _ | refine .drewN ?_ _ | refine .drew ?_) | ((with_reducible refine .setCell ?_ ?_ _); rotate_left; focus (first | (left; simp; done) | (right; simp; (first | done | omega)))) | with_reducible (first | assumption | exact .refl _ _ | refine .trans0 ?_ ‹_›)))) (fun b hb => by have h1 := hF4 b hb; have h2 := F5.size; simp; omega)).mono ?_; rw [HOY.out]; rintro e w6 ⟨⟨vy, rfl, hvy⟩, F6⟩; obtain ⟨A6, cap6, rfl⟩ := hvy.form; dsimp only [Term.kind, Term.n, Term.s, Term.kids] at hvy ⊢; have hbX := F6.at0 (alloc_heap_new w5 _); obtain ⟨t0, t1, t2, t3, t4, t5⟩ := blk4 hbX)
                  | (go_at_call 47; refine (lat_join l lb _ _ _ (hl4.frm0 (by repeat (first | with_reducible (first | refine .alloc ?_ _ | refine .drewN ?_ _ | refine .drew ?_) | ((with_reducible refine .setCell ?_ ?_ _); rotate_left; focus (first | (left; simp; done) | (right; simp; (first | done | omega)))) | with_reducible (first | assumption | exact .refl _ _ | refine .trans0 ?_ ‹_›))))).mono ?_; rintro e w7 ⟨rfl, ⟨d7, rfl⟩⟩)
                  | (go_at_call 72; refine (unify_pairs_nil _ _ _ _ _).mono ?_; rintro e w8 ⟨rfl, F8⟩))
                refine ⟨⟨k, l.join lev (l.join lx ly), by omega, by congr 1; omega, rfl, G4, F4, st2, rest, _, HRB.out, hs4.keep (by repeat (first | with_reducible (first | refine .alloc ?_ _ | refine .drewN ?_ _ | refine .drew ?_) | ((with_reducible refine .setCell ?_ ?_ _); rotate_left; focus (first | (left; simp; done) | (right; simp; (first | done | omega)))) | with_reducible (first | assumption | exact .refl _ _ | refine .trans0 ?_ ‹_›))), (fr8.trans f4 hG2).trans0 (by repeat (first | with_reducible (first | refine .alloc ?_ _ | refine .drewN ?_ _ | refine .drew ?_) | ((with_reducible refine .setCell ?_ ?_ _); rotate_left; focus (first | (left; simp; done) | (right; simp; (first | done | omega)))) | with_reducible (first | assumption | exact .refl _ _ | refine .trans0 ?_ ‹_›))), fun b hb => h41 b (List.mem_cons_of_mem _ (hF1 b hb)), fun b hb => (h42 b hb).elim (hFx2 b) (fun h => .inr (Nat.le_trans fr8.size h)), fun b hb => (h43 b hb).elim (hG2 b) (fun h => .inr (Nat.le_trans fr8.size h)),
                (hp8.over f4 (fun b hb => List.mem_cons_of_mem _ (hG' b hb)) (fun g' hg' => by cases hg'; exact hgF.2) h41 h42).keep (by repeat (first | with_reducible (first | refine .alloc ?_ _ | refine .drewN ?_ _ | refine .drew ?_) | ((with_reducible refine .setCell ?_ ?_ _); rotate_left; focus (first | (left; simp; done) | (right; simp; (first | done | omega)))) | with_reducible (first | assumption | exact .refl _ _ | refine .trans0 ?_ ‹_›))), fun g' hg' => by cases hg'; exact ⟨h41 g (List.mem_cons_of_mem _ hgF.1), fun h => (h43 g h).elim hgF.2 (fun h => by omega)⟩, hrest, hl4.frm0 (by repeat (first | with_reducible (first | refine .alloc ?_ _ | refine .drewN ?_ _ | refine .drew ?_) | ((with_reducible refine .setCell ?_ ?_ _); rotate_left; focus (first | (left; simp; done) | (right; simp; (first | done | omega)))) | with_reducible (first | assumption | exact .refl _ _ | refine .trans0 ?_ ‹_›)))⟩, by simp [intOf]; omega⟩
              · obtain ⟨i0, hi, hz0, hz1, hz2⟩ := info_parts Try.infoUPair
                have hpos : 0 < (xks.zip yks).reverse.length := by rw [List.length_reverse, List.length_zip]; omega
                have hzl2 : (xks.zip yks).reverse.length = xks.length := by rw [List.length_reverse, List.length_zip]; omega
                have B5 := Lib.hid b5
                clear b5 h0
                go_wp2_with (first
                  | (go_at_call 73; refine UB.out.mono ?_; rintro e w4 ⟨rfl, TO⟩; obtain ⟨G4, F4, hs4, f4, h41, h42, h43⟩ := id TO; have hbx4 := f4.at_ hbx8 hbxG; obtain ⟨q0, q1, q2, q3, q4, q5, q6, q7, q8, q9⟩ := blk8 hbx4; have ha4 := ha8.over (fun b hb => List.mem_cons_of_mem _ (hG' b hb)) f4 h41 h42; have hb4 := hb8.over (fun b hb => List.mem_cons_of_mem _ (hG' b hb)) f4 h41 h42; have hl4 := hl8.frm f4 hlbG; have hF4 := hs4.lt)
                  | (go_at_call 57; clear o1; refine (seal_open F4 l lb ta _ _ (hl4.frm0 (by repeat (first | with_reducible (first | refine .alloc ?_ _ | refine .drewN ?_ _ | refine .drew ?_) | ((with_reducible refine .setCell ?_ ?_ _); rotate_left; focus (first | (left; simp; done) | (right; simp; (first | done | omega)))) | with_reducible (first | assumption | exact .refl _ _ | refine .trans0 ?_ ‹_›)))) (ha4.keep (by repeat (first | with_reducible (first | refine .alloc ?_ _ | refine .drewN ?_ _ | refine .drew ?_) | ((with_reducible refine .setCell ?_ ?_ _); rotate_left; focus (first | (left; simp; done) | (right; simp; (first | done | omega)))) | with_reducible (first | assumption | exact .refl _ _ | refine .trans0 ?_ ‹_›)))) hF4).mono ?_; rw [HOX.out]; rintro e w5 ⟨⟨vx, rfl, hvx⟩, F5⟩; obtain ⟨A5, cap5, rfl⟩ := hvx.form; dsimp only [Term.kind, Term.n, Term.s, Term.kids] at hvx ⊢; obtain ⟨q0, q1, q2, q3, q4, q5, q6, q7, q8, q9⟩ := blk8 (F5.at0 hbx4))
                  | (go_at_call 57; refine (seal_open F4 l lb tb _ _ (hl4.frm0 (by repeat (first | with_reducible (first | refine .alloc ?_ _ | refine .drewN ?_ _ | refine .drew ?_) | ((with_reducible refine .setCell ?_ ?_ _); rotate_left; focus (first | (left; simp; done) | (right; simp; (first | done | omega)))) | with_reducible (first | assumption | exact .refl _ _ | refine .trans0 ?_ ‹_›)))) (hb4.keep (by repeat (first | with_reducible (first | refine .alloc ?_ _ | refine .drewN ?_ _ | refine .drew ?_) | ((with_reducible refine .setCell ?_ ?_ _); rotate_left; focus (first | (left; simp; done) | (right; simp; (first | done | omega)))) | with_reducible (first | assumption | exact .refl _ _ | refine .trans0 ?_ ‹_›)))) (fun b hb => by have h1 := hF4 b hb; have h2 := F5.size; simp; omega)).mono ?_; rw [HOY.out]; rintro e w6 ⟨⟨vy, rfl, hvy⟩, F6⟩; obtain ⟨A6, cap6, rfl⟩ := hvy.form; dsimp only [Term.kind, Term.n, Term.s, Term.kids] at hvy ⊢; have hbX := F6.at0 (alloc_heap_new w5 _); obtain ⟨t0, t1, t2, t3, t4, t5⟩ := blk4 hbX)
                  | (go_at_call 47; refine (lat_join l lb _ _ _ (hl4.frm0 (by repeat (first | with_reducible (first | refine .alloc ?_ _ | refine .drewN ?_ _ | refine .drew ?_) | ((with_reducible refine .setCell ?_ ?_ _); rotate_left; focus (first | (left; simp; done) | (right; simp; (first | done | omega)))) | with_reducible (first | assumption | exact .refl _ _ | refine .trans0 ?_ ‹_›))))).mono ?_; rintro e w7 ⟨rfl, ⟨d7, rfl⟩⟩)
                  | (go_at_call 72; refine (unify_pairs xks yks A5 A6 cap5 cap6 F4 _ (hvx.kidsOf.1.keep (by repeat (first | with_reducible (first | refine .alloc ?_ _ | refine .drewN ?_ _ | refine .drew ?_) | ((with_reducible refine .setCell ?_ ?_ _); rotate_left; focus (first | (left; simp; done) | (right; simp; (first | done | omega)))) | with_reducible (first | assumption | exact .refl _ _ | refine .trans0 ?_ ‹_›)))) (hvy.kidsOf.1.keep (by repeat (first | with_reducible (first | refine .alloc ?_ _ | refine .drewN ?_ _ | refine .drew ?_) | ((with_reducible refine .setCell ?_ ?_ _); rotate_left; focus (first | (left; simp; done) | (right; simp; (first | done | omega)))) | with_reducible (first | assumption | exact .refl _ _ | refine .trans0 ?_ ‹_›)))) B5.out hvx.kidsOf.2).mono ?_; rintro e w8 ⟨⟨v8, xs8, rfl, hv8⟩, F8⟩; obtain ⟨g8, cap8, rfl⟩ := hv8.nonnil hpos; have F48 : Frm [] w4 w8 := (by repeat (first | with_reducible (first | refine .alloc ?_ _ | refine .drewN ?_ _ | refine .drew ?_) | ((with_reducible refine .setCell ?_ ?_ _); rotate_left; focus (first | (left; simp; done) | (right; simp; (first | done | omega)))) | with_reducible (first | assumption | exact .refl _ _ | refine .trans0 ?_ ‹_›))); have hp9 := (hp8.over f4 (fun b hb => List.mem_cons_of_mem _ (hG' b hb)) (fun g' hg' => by cases hg'; exact hgF.2) h41 h42).keep F48; have hkl := hvx.kidsOf.2; have hszb := fr8.size; have hsz4 := f4.size; have hsz48 := F48.size)
                  | (at_builtin; go_must (refine wpList_append_own_at _ rfl _ _ 110 rfl w.heap.size 113 i0 _ 8 112 Try.underlying110 hi hz0 hz1 hz2 rfl (by decide) (.slice (some ⟨g, 0, none⟩) rest.length cap) _ _ rfl (by have := hp9.1; rw [List.length_reverse] at this; exact this) ⟨g8, 0, none⟩ _ cap8 xs8 rfl (hzl2 ▸ hv8.1.1) (hv8.1.cells (g := g8) rfl) hv8.one ?c3 ?c4 ?c5 ?_); (case c3 => (unfold maxLen; omega)); (case c4 => omega); (case c5 => omega); intro v9 w9 ho9 hg9 hn9 hat9))
                have hg4 : g ∈ F4 ∧ g ∉ G4 := ⟨h41 g (List.mem_cons_of_mem _ hgF.1), fun h => (h43 g h).elim hgF.2 (fun h => by omega)⟩
                have hgb : w.heap.size ≤ g := (hp9.own_lt g (by simp [Value.ownBlock])).1
                have f9 : Frm [g] w8 w9 := (Frm.refl [g] w8).grown hg9 (fun k hk => .inl (by cases hk; simp))
                have f49 : Frm [g] w4 w9 := (F48.mono (by simp)).trans' f9
                have hap := hp9.app (qs := (xks.zip yks).reverse) (ys := xs8) (fun j p hj => by
                  obtain ⟨c0, c1, c2, c3, d0, d1, d2, d3, e0, e1, e2, e3, e4, e5, e6, e7, t1, t2⟩ := hv8.2 j p hj
                  have sub : ∀ b, b ∈ Option.toList (Value.ownBlock (.slice (some ⟨g, 0, none⟩) rest.length cap)) ++ F4 → b ∈ Option.toList (Value.ownBlock (.slice (some ⟨g8, 0, none⟩) (xks.zip yks).reverse.length cap8)) ++ F4 ∨ w8.heap.size ≤ b := fun b hb => by
                    rcases List.mem_append.1 hb with hb | hb
                    · refine .inl (List.mem_append.2 (.inr ?_))
                      have : b = g := by simpa [Value.ownBlock, eq_comm] using hb
                      rw [this]; exact hg4.1
                    · exact .inl (List.mem_append.2 (.inr hb))
                  exact ⟨c0, c1, c2, c3, d0, d1, d2, d3, e0, e1, e2, e3, e4, e5, e6, e7, t1.away sub, t2.away sub⟩) (by rw [List.length_reverse, hzl2]; exact ho9) hg9 hat9
                have hown9 : ∀ b, v9.ownBlock = some b → b = g ∨ b = w8.heap.size := fun b hb => by
                  rcases hat9 with h | h
                  · rw [h] at hb; cases hb; exact .inl rfl
                  · rw [h] at hb; cases hb; exact .inr rfl
                have hnew9 : ∀ b, b ∈ v9.ownBlock.toList ++ F4 → b ∈ F4 ∨ w4.heap.size ≤ b := fun b hb => by
                  rcases List.mem_append.1 hb with hb | hb
                  · rcases hown9 b (by simpa [eq_comm] using hb) with h | h
                    · rw [h]; exact .inl hg4.1
                    · rw [h]; exact .inr hsz48
                  · exact .inl hb
                have hsub9 : ∀ b, b ∈ F4 → b ∈ v9.ownBlock.toList ++ F4 := fun b hb => List.mem_append.2 (.inr hb)
                have hlt9 : ∀ b, b ∈ v9.ownBlock.toList ++ F4 → b < w9.heap.size := fun b hb => by
                  rcases List.mem_append.1 hb with hb | hb
                  · exact (hap.own_lt b hb).2
                  · exact Nat.lt_of_lt_of_le (hF4 b hb) f49.size
                have hs9 := hs4.more (F' := v9.ownBlock.toList ++ F4) f49 (fun b hb => by rw [List.mem_singleton.1 hb]; exact hg4.2) (fun b hb => by rw [List.mem_singleton.1 hb]; exact hg4.1) hnew9 hsub9 hlt9
                have hl9 := hl4.frm f49 (fun h => by have h1 := hl.lt; have h2 := List.mem_singleton.1 h; omega)
                have fr9 : Frm G w w9 := (fr8.trans f4 hG2).trans f49 (fun x hx => .inr (by rw [List.mem_singleton.1 hx]; exact hgb))
                refine ⟨⟨k, l.join lev (l.join lx ly), by omega, by congr 1; omega, rfl, G4, v9.ownBlock.toList ++ F4, st2, xks.zip yks ++ rest, _, HRB.out, hs9, fr9, fun b hb => hsub9 b (h41 b (List.mem_cons_of_mem _ (hF1 b hb))), fun b hb => (hnew9 b hb).elim (fun h => (h42 b h).elim (hFx2 b) (fun h => .inr (by omega))) (fun h => .inr (by omega)), fun b hb => (h43 b hb).elim (hG2 b) (fun h => .inr (by omega)),
                  by rw [List.reverse_append]; exact hap.self, fun g' hg' => ⟨List.mem_append.2 (.inl (by simp [hg'])), fun h => ?_⟩, ?_, hl9⟩, by simp [intOf]; omega⟩
                · rcases hown9 g' hg' with h' | h'
                  · rw [h'] at h; exact hg4.2 h
                  · have := hF4 g' (hs4.sub g' h); omega
                · rw [List.length_append, List.length_zip]
                  rw [List.length_cons] at hpl
                  omega
            · have HRC := Lib.hid hRC
              clear hRC hMF
              rcases hC with ⟨b1, b2, b3⟩ | ⟨b1, b2, b3, b4⟩ | ⟨b1, b2⟩ | ⟨b1, b2, b3⟩ | ⟨b1, b2, b3, b4⟩ | ⟨b1, b2, b3, b4, b5⟩
              all_goals
                go_wp2_with (first
                  | (go_at_call 73; refine UB.out.mono ?_; rintro e w4 ⟨rfl, TO⟩; obtain ⟨G4, F4, hs4, f4, h41, h42, h43⟩ := id TO; have hbx4 := f4.at_ hbx8 hbxG; obtain ⟨q0, q1, q2, q3, q4, q5, q6, q7, q8, q9⟩ := blk8 hbx4; have ha4 := ha8.over (fun b hb => List.mem_cons_of_mem _ (hG' b hb)) f4 h41 h42; have hb4 := hb8.over (fun b hb => List.mem_cons_of_mem _ (hG' b hb)) f4 h41 h42; have hl4 := hl8.frm f4 hlbG; have hF4 := hs4.lt)
                  | (go_at_call 57; clear o1; refine (seal_open F4 l lb ta _ _ (hl4.frm0 (by repeat (first | with_reducible (first | refine .alloc ?_ _ | refine .drewN ?_ _ | refine .drew ?_) | ((with_reducible refine .setCell ?_ ?_ _); rotate_left; focus (first | (left; simp; done) | (right; simp; (first | done | omega)))) | with_reducible (first | assumption | exact .refl _ _ | refine .trans0 ?_ ‹_›)))) (ha4.keep (by repeat (first | with_reducible (first | refine .alloc ?_ _ | refine .drewN ?_ _ | refine .drew ?_) | ((with_reducible refine .setCell ?_ ?_ _); rotate_left; focus (first | (left; simp; done) | (right; simp; (first | done | omega)))) | with_reducible (first | assumption | exact .refl _ _ | refine .trans0 ?_ ‹_›)))) hF4).mono ?_; rw [HOX.out]; rintro e w5 ⟨⟨vx, rfl, hvx⟩, F5⟩; obtain ⟨A5, cap5, rfl⟩ := hvx.form; dsimp only [Term.kind, Term.n, Term.s, Term.kids] at hvx ⊢; obtain ⟨q0, q1, q2, q3, q4, q5, q6, q7, q8, q9⟩ := blk8 (F5.at0 hbx4))
                  | (go_at_call 57; refine (seal_open F4 l lb tb _ _ (hl4.frm0 (by repeat (first | with_reducible (first | refine .alloc ?_ _ | refine .drewN ?_ _ | refine .drew ?_) | ((with_reducible refine .setCell ?_ ?_ _); rotate_left; focus (first | (left; simp; done) | (right; simp; (first | done | omega)))) | with_reducible (first | assumption | exact .refl _ _ | refine .trans0 ?_ ‹_›)))) (hb4.keep (by repeat (first | with_reducible (first | refine .alloc ?_ _ | refine .drewN ?_ _ | refine .drew ?_) | ((with_reducible refine .setCell ?_ ?_ _); rotate_left; focus (first | (left; simp; done) | (right; simp; (first | done | omega)))) | with_reducible (first | assumption | exact .refl _ _ | refine .trans0 ?_ ‹_›)))) (fun b hb => by have h1 := hF4 b hb; have h2 := F5.size; simp; omega)).mono ?_; rw [HOY.out]; rintro e w6 ⟨⟨vy, rfl, hvy⟩, F6⟩; obtain ⟨A6, cap6, rfl⟩ := hvy.form; dsimp only [Term.kind, Term.n, Term.s, Term.kids] at hvy ⊢; have hbX := F6.at0 (alloc_heap_new w5 _); obtain ⟨t0, t1, t2, t3, t4, t5⟩ := blk4 hbX)
                  | (go_at_call 47; refine (lat_join l lb _ _ _ (hl4.frm0 (by repeat (first | with_reducible (first | refine .alloc ?_ _ | refine .drewN ?_ _ | refine .drew ?_) | ((with_reducible refine .setCell ?_ ?_ _); rotate_left; focus (first | (left; simp; done) | (right; simp; (first | done | omega)))) | with_reducible (first | assumption | exact .refl _ _ | refine .trans0 ?_ ‹_›))))).mono ?_; rintro e w7 ⟨rfl, ⟨d7, rfl⟩⟩))
              all_goals
                ((try simp only [Exit.noGoto]); refine bodyPost_ret (results_tmp3 rfl _ _ _) rfl ?_)
                rw [HRC.out]
                exact ⟨rfl, (TO.before (by repeat (first | with_reducible (first | refine .alloc ?_ _ | refine .drewN ?_ _ | refine .drew ?_) | ((with_reducible refine .setCell ?_ ?_ _); rotate_left; focus (first | (left; simp; done) | (right; simp; (first | done | omega)))) | with_reducible (first | assumption | exact .refl _ _ | refine .trans0 ?_ ‹_›)))).from fr8 (fun b hb => List.mem_cons_of_mem _ (hF1 b hb)) hFx2 hG2⟩
  · have HR : Hid (st.matchT l xa bs = (false, l.bottom, 0, st)) := by show _ = _; unfold PStore.matchT; rw [if_neg hlen]
    have hlen' : ((xa.length : Int) != (bs.length : Int)) = true := by simp; omega
    clear hlen
    go_enter Try.func61, Try.ntmps61
    go_wp2
    go_step3
    go_wp2_with (first
      | (go_at_call 21; refine (lat_bottom l lb _ (hl.frm0 (by repeat (first | with_reducible (first | refine .alloc ?_ _ | refine .drewN ?_ _ | refine .drew ?_) | ((with_reducible refine .setCell ?_ ?_ _); rotate_left; focus (first | (left; simp; done) | (right; simp; (first | done | omega)))) | with_reducible (first | assumption | exact .refl _ _ | refine .trans0 ?_ ‹_›))))).mono ?_; rintro e w' ⟨rfl, rfl⟩))
    ((try simp only [Exit.noGoto]); refine bodyPost_ret (results_tmp3 rfl _ _ _) rfl ?_)
    rw [HR.out]
    exact ⟨rfl, SQ.out _ (by repeat (first | with_reducible (first | refine .alloc ?_ _ | refine .drewN ?_ _ | refine .drew ?_) | ((with_reducible refine .setCell ?_ ?_ _); rotate_left; focus (first | (left; simp; done) | (right; simp; (first | done | omega)))) | with_reducible (first | assumption | exact .refl _ _ | refine .trans0 ?_ ‹_›)))⟩
end Go.Proofs.Ytkiofaojokofbaa
namespace Go.Proofs.Ytkiofaojokofbaa
open Go.RowKit

theorem krow1 {F : List Nat} {w : World} {b : Nat} {c0 c1 c2 c3 : Value} {ty : TypeId} {t : Term} (h : w.heap[b]? = some (.cells #[c0, c1, c2, c3] ty (0, 0))) (hb : b ∉ F)
    (ht : TermV F w t (.agg #[c0, c1, c2, c3])) : KidsV F w [t] (some ⟨b, 0, none⟩) 0 := by
  simp only [KidsV, and_true]
  exact ⟨b, 0, c0, c1, c2, c3, rfl, hb, by simp [World.cell?, h], by simp [World.cell?, h], by simp [World.cell?, h], by simp [World.cell?, h], ht⟩
theorem krow2 {F : List Nat} {w : World} {b : Nat} {c0 c1 c2 c3 d0 d1 d2 d3 : Value} {ty : TypeId} {t u : Term} (h : w.heap[b]? = some (.cells #[c0, c1, c2, c3, d0, d1, d2, d3] ty (0, 0))) (hb : b ∉ F)
    (ht : TermV F w t (.agg #[c0, c1, c2, c3])) (hu : TermV F w u (.agg #[d0, d1, d2, d3])) : KidsV F w [t, u] (some ⟨b, 0, none⟩) 0 := by
  simp only [KidsV, and_true]
  exact ⟨⟨b, 0, c0, c1, c2, c3, rfl, hb, by simp [World.cell?, h], by simp [World.cell?, h], by simp [World.cell?, h], by simp [World.cell?, h], ht⟩,
    ⟨b, 0, d0, d1, d2, d3, rfl, hb, by simp [World.cell?, h], by simp [World.cell?, h], by simp [World.cell?, h], by simp [World.cell?, h], hu⟩⟩
theorem not_new {F : List Nat} {n b : Nat} (hF : ∀ b, b ∈ F → b < n) (h : n ≤ b) : b ∉ F := fun hb => by have := hF b hb; omega

set_option maxRecDepth 100000 in
theorem unify_unify (G F : List Nat) (sb lb : Nat) (l : Lat) (st : PStore) (a b : Term) (va vb : Value) (w : World) (hl : LatAt w lb l) (hlG : lb ∉ G) (hs : StoreAt G F w sb st) (hA : TermV F w a va) (hB : TermV F w b vb) :
    Calls Try.prog 49 #[.pointer (some ⟨sb, 0, none⟩), .pointer (some ⟨lb, 0, none⟩), va, vb] w fun e w' =>
      e = .returned (.tuple #[.bool (st.matchT l [a] [b]).1, .int .i64 (st.matchT l [a] [b]).2.1, .int .i64 (st.matchT l [a] [b]).2.2.1]) ∧ StoreTo G F w w' sb (st.matchT l [a] [b]).2.2.2 := by
  have hF := hs.lt
  obtain ⟨A, ca, rfl⟩ := hA.form
  obtain ⟨B, cb, rfl⟩ := hB.form
  generalize hR : st.matchT l [a] [b] = R
  have HR := Lib.hid hR
  clear hR
  have HM : ∀ (w4 : World) (b1 b2 : Nat), Frm [] w w4 → w.heap.size ≤ b1 → w.heap.size ≤ b2 → w4.heap[b1]? = some (.cells #[.int .i64 a.kind, .int .i64 a.n, .string a.s, .slice A a.kids.length ca] 26 (0, 0)) → w4.heap[b2]? = some (.cells #[.int .i64 b.kind, .int .i64 b.n, .string b.s, .slice B b.kids.length cb] 26 (0, 0)) →
      Calls Try.prog 61 #[.pointer (some ⟨sb, 0, none⟩), .pointer (some ⟨lb, 0, none⟩), .slice (some ⟨b1, 0, none⟩) 1 1, .slice (some ⟨b2, 0, none⟩) 1 1] w4 fun e w' =>
      e = .returned (.tuple #[.bool R.1, .int .i64 R.2.1, .int .i64 R.2.2.1]) ∧ StoreTo G F w4 w' sb R.2.2.2 := by
    intro w4 b1 b2 f h1 h2 k1 k2
    rw [← HR.out]
    exact unify_match G F sb lb l st [a] [b] _ _ 1 1 w4 (hl.frm0 f) hlG (hs.keep f) (krow1 k1 (not_new hF h1) (hA.keep f)) (krow1 k2 (not_new hF h2) (hB.keep f)) (by simp) (by simp)
  go_enter Try.func49, Try.ntmps49
  go_wp2_with (go_at_call 61; refine (HM _ _ _ (by repeat (first | with_reducible (first | refine .alloc ?_ _ | refine .drewN ?_ _ | refine .drew ?_) | ((with_reducible refine .setCell ?_ ?_ _); rotate_left; focus (first | (left; simp; done) | (right; simp; (first | done | omega)))) | with_reducible (first | assumption | exact .refl _ _ | refine .trans0 ?_ ‹_›))) (by omega) (by omega) (by repeat (first | rw [heap_alloc_at] | rw [heap_size_alloc] | rfl | rw [if_pos (by omega)] | rw [if_neg (by omega)])) (by repeat (first | rw [heap_alloc_at] | rw [heap_size_alloc] | rfl | rw [if_pos (by omega)] | rw [if_neg (by omega)]))).mono ?_; rintro e w1 ⟨rfl, TO⟩)
  ((try simp only [Exit.noGoto]); refine bodyPost_ret (results_tmp3 rfl _ _ _) rfl ?_)
  exact ⟨rfl, TO.after (by repeat (first | with_reducible (first | refine .alloc ?_ _ | refine .drewN ?_ _ | refine .drew ?_) | ((with_reducible refine .setCell ?_ ?_ _); rotate_left; focus (first | (left; simp; done) | (right; simp; (first | done | omega)))) | with_reducible (first | assumption | exact .refl _ _ | refine .trans0 ?_ ‹_›)))⟩
end Go.Proofs.Ytkiofaojokofbaa
namespace Go.Proofs.Ytkiofaojokofbaa
open Go.RowKit

theorem StoreTo.wrap {G F F1 H : List Nat} {w wc w1 w2 : World} {sb : Nat} {st : PStore} (hs : ∀ b, b ∈ G → b < w.heap.size) (h : StoreTo G F1 wc w1 sb st) (f : Frm [] w wc) (f2 : Frm H w1 w2)
    (hH : ∀ b, b ∈ H → w.heap.size ≤ b ∧ b < wc.heap.size ∧ b ∈ F1) (h1 : ∀ b, b ∈ F → b ∈ F1) (h2 : ∀ b, b ∈ F1 → b ∈ F ∨ w.heap.size ≤ b) : StoreTo G F w w2 sb st := by
  obtain ⟨G', F', k1, k2, k3, k4, k5⟩ := h
  have hsz := f.size
  refine ⟨G', F', k1.frm f2 (fun b hb hg => ?_) (fun b hb => k3 b (hH b hb).2.2), ((f.mono (by simp)).trans' k2).trans f2 (fun b hb => .inr (hH b hb).1), fun b hb => k3 b (h1 b hb), fun b hb => ?_, fun b hb => (k5 b hb).imp id (fun h => by omega)⟩
  · obtain ⟨g1, g2, _⟩ := hH b hb
    rcases k5 b hg with h | h
    · have := hs b h; omega
    · omega
  · rcases k4 b hb with h | h
    · exact h2 b h
    · exact .inr (by omega)
/-- Two terms in a row. -/
theorem KidsV.pair {F : List Nat} {w : World} {a b : Term} {A : Option Addr} (h : KidsV F w [a, b] A 0) :
    ∃ g off A1 c1 A2 c2, A = some ⟨g, off, none⟩ ∧ g < w.heap.size ∧ g ∉ F ∧ w.cell? ⟨g, off, none⟩ = some (.int .i64 a.kind) ∧ w.cell? ⟨g, off + 1, none⟩ = some (.int .i64 a.n) ∧ w.cell? ⟨g, off + 2, none⟩ = some (.string a.s) ∧ w.cell? ⟨g, off + 3, none⟩ = some (.slice A1 a.kids.length c1) ∧
      w.cell? ⟨g, off + 4, none⟩ = some (.int .i64 b.kind) ∧ w.cell? ⟨g, off + 4 + 1, none⟩ = some (.int .i64 b.n) ∧ w.cell? ⟨g, off + 4 + 2, none⟩ = some (.string b.s) ∧ w.cell? ⟨g, off + 4 + 3, none⟩ = some (.slice A2 b.kids.length c2) ∧
      TermV F w a (.agg #[.int .i64 a.kind, .int .i64 a.n, .string a.s, .slice A1 a.kids.length c1]) ∧ TermV F w b (.agg #[.int .i64 b.kind, .int .i64 b.n, .string b.s, .slice A2 b.kids.length c2]) := by
  obtain ⟨g, off, A1, c1, rfl, h1, h2, e0, e1, e2, e3, hA⟩ := h.kid 0 (by simp)
  obtain ⟨g', off', A2, c2, hh, _, _, d0, d1, d2, d3, hB⟩ := h.kid 1 (by simp)
  cases hh
  exact ⟨g, off, A1, c1, A2, c2, rfl, h2, h1, e0, e1, e2, e3, d0, d1, d2, d3, hA, hB⟩

theorem told_store {w : World} {b : Nat} {c0 c1 c2 : Value} {ty : TypeId} (h : w.heap[b]? = some (.cells #[c0, c1, c2] ty (0, 0))) (d0 d1 d2 : Value) :
    (((w.setCell ⟨b, 0, none⟩ d0).setCell ⟨b, 1, none⟩ d1).setCell ⟨b, 2, none⟩ d2).heap[b]? = some (.cells #[d0, d1, d2] ty (0, 0)) ∧ Frm [b] w (((w.setCell ⟨b, 0, none⟩ d0).setCell ⟨b, 1, none⟩ d1).setCell ⟨b, 2, none⟩ d2) := by
  have h0 := heap_setCell_at h 0 d0
  have h1 := heap_setCell_at h0 1 d1
  have h2 := heap_setCell_at h1 2 d2
  simp only [List.setIfInBounds_toArray, List.set_cons_succ, List.set_cons_zero] at h2
  have f0 := (Frm.refl [b] w).setCell (p := ⟨b, 0, none⟩) (.inl (List.mem_singleton.2 rfl)) d0
  have f1 := f0.setCell (p := ⟨b, 1, none⟩) (.inl (List.mem_singleton.2 rfl)) d1
  exact ⟨h2, f1.setCell (p := ⟨b, 2, none⟩) (.inl (List.mem_singleton.2 rfl)) d2⟩

def toldB (r : Bool × Int × Int × PStore) : Value := .bool r.1
def toldL (r : Bool × Int × Int × PStore) : Value := .int .i64 r.2.1
def toldE (r : Bool × Int × Int × PStore) : Value := .int .i64 r.2.2.1
def toldV (r : Bool × Int × Int × PStore) : Value := .agg #[.bool r.1, .int .i64 r.2.1, .int .i64 r.2.2.1]

set_option maxRecDepth 100000 in
theorem goal_equal (G F : List Nat) (sb lb : Nat) (l : Lat) (st : PStore) (a b : Term) (A : Option Addr) (cap : Nat) (w : World) (hl : LatAt w lb l) (hlG : lb ∉ G) (hs : StoreAt G F w sb st) (hk : KidsV F w [a, b] A 0) :
    Calls Try.prog 29 #[.agg #[.pointer (some ⟨sb, 0, none⟩), .pointer (some ⟨lb, 0, none⟩)], .slice A 2 cap] w fun e w' => e = .returned (toldV (st.matchT l [a] [b])) ∧ StoreTo G F w w' sb (st.matchT l [a] [b]).2.2.2 := by
  have hF := hs.lt
  have hGF := hs.sub
  obtain ⟨g, off, A1, c1, A2, c2, rfl, hg, hgF, e0, e1, e2, e3, d0, d1, d2, d3, hA, hB⟩ := hk.pair
  have HG : ∀ b, b ∈ G → b < w.heap.size := fun b hb => hF b (hGF b hb)
  have HU := Lib.hid (fun w1 F1 => unify_unify G F1 sb lb l st a b (.agg #[.int .i64 a.kind, .int .i64 a.n, .string a.s, .slice A1 a.kids.length c1]) (.agg #[.int .i64 b.kind, .int .i64 b.n, .string b.s, .slice A2 b.kids.length c2]) w1)
  generalize hr : st.matchT l [a] [b] = R at *
  clear hr
  obtain ⟨r1, r2, r3, st'⟩ := R
  go_enter Try.func29, Try.ntmps29
  go_wp2
  generalize hW : World.alloc _ _ = W
  have hb1 : W.heap[w.heap.size]? = some (.cells #[.pointer (some ⟨sb, 0, none⟩), .pointer (some ⟨lb, 0, none⟩)] 54 (0, 0)) := by subst hW; exact (by repeat (first | rw [heap_alloc_at] | rw [heap_size_alloc] | rfl | rw [if_pos (by omega)] | rw [if_neg (by omega)]))
  have hb2 : W.heap[w.heap.size + 1]? = some (.cells #[.bool false, .int .i64 0, .int .i64 0] 59 (0, 0)) := by subst hW; exact (by repeat (first | rw [heap_alloc_at] | rw [heap_size_alloc] | rfl | rw [if_pos (by omega)] | rw [if_neg (by omega)]))
  have FW : Frm [] w W := by subst hW; exact (by repeat (first | with_reducible (first | refine .alloc ?_ _ | refine .drewN ?_ _ | refine .drew ?_) | ((with_reducible refine .setCell ?_ ?_ _); rotate_left; focus (first | (left; simp; done) | (right; simp; (first | done | omega)))) | with_reducible (first | assumption | exact .refl _ _ | refine .trans0 ?_ ‹_›)))
  have hsW : W.heap.size = w.heap.size + 1 + 1 := by subst hW; simp
  clear hW
  have x0 : W.cell? ⟨w.heap.size, 0, none⟩ = some (.pointer (some ⟨sb, 0, none⟩)) := by simp [World.cell?, hb1]
  have x1 : W.cell? ⟨w.heap.size, 1, none⟩ = some (.pointer (some ⟨lb, 0, none⟩)) := by simp [World.cell?, hb1]
  have e0 := (FW.cell hg (by simp)).trans e0
  have e1 := (FW.cell hg (by simp)).trans e1
  have e2 := (FW.cell hg (by simp)).trans e2
  have e3 := (FW.cell hg (by simp)).trans e3
  have d0 := (FW.cell hg (by simp)).trans d0
  have d1 := (FW.cell hg (by simp)).trans d1
  have d2 := (FW.cell hg (by simp)).trans d2
  have d3 := (FW.cell hg (by simp)).trans d3
  have hsF : StoreAt G ((w.heap.size + 1) :: F) W sb st := hs.more FW (by simp) (by simp) (new_one (by omega)) (fun b hb => by simp [hb]) (lt_one hF (by omega) (by omega))
  have hAF := (hA.away (F' := (w.heap.size + 1) :: F) (new_one (by omega))).keep FW
  have hBF := (hB.away (F' := (w.heap.size + 1) :: F) (new_one (by omega))).keep FW
  have hlF := hl.frm0 FW
  refine wp_region_U (fun w' => w'.cell? ⟨w.heap.size, 0, none⟩ = some (.pointer (some ⟨sb, 0, none⟩)) ∧ w'.cell? ⟨w.heap.size, 1, none⟩ = some (.pointer (some ⟨lb, 0, none⟩)) ∧ w'.cell? ⟨g, off, none⟩ = some (.int .i64 a.kind) ∧ w'.cell? ⟨g, off + 1, none⟩ = some (.int .i64 a.n) ∧ w'.cell? ⟨g, off + 2, none⟩ = some (.string a.s) ∧ w'.cell? ⟨g, off + 3, none⟩ = some (.slice A1 a.kids.length c1) ∧ w'.cell? ⟨g, off + 4, none⟩ = some (.int .i64 b.kind) ∧ w'.cell? ⟨g, off + 4 + 1, none⟩ = some (.int .i64 b.n) ∧ w'.cell? ⟨g, off + 4 + 2, none⟩ = some (.string b.s) ∧ w'.cell? ⟨g, off + 4 + 3, none⟩ = some (.slice A2 b.kids.length c2)) (fun i => Nat.blt i 10) (by kernel_rfl) ?rgnS1 (fun hHeld => ?rgnB1)
  case rgnS1 => (first | (dsimp only; go_keep) | go_keep)
  case' rgnB1 => skip
  refine Pend.start [0, 1, 2, 3, 4, 5, 6, 7, 8, 9] ?_
  iterate 10 (refine tk (v := ?_) rfl (by kernel_rfl) (by rfl) (fun _ _ _ h => h) (by assumption) ?_ ?_; rotate_left; (focus (intro wq hSw; (try dsimp only at hSw); go_simp; (first | done | with_reducible rfl))); try simp only [Act.put, List.setIfInBounds_toArray, List.set_cons_zero, List.set_cons_succ])
  refine Pend.done ?_
  refine one 10 (by kernel_rfl) rfl (fun K' hK => ?_)
  (go_simp; refine (HU.out _ _ (hlF.frm0 (by repeat (first | with_reducible (first | refine .alloc ?_ _ | refine .drewN ?_ _ | refine .drew ?_) | ((with_reducible refine .setCell ?_ ?_ _); rotate_left; focus (first | (left; simp; done) | (right; simp; (first | done | omega)))) | with_reducible (first | assumption | exact .refl _ _ | refine .trans0 ?_ ‹_›)))) hlG (hsF.keep (by repeat (first | with_reducible (first | refine .alloc ?_ _ | refine .drewN ?_ _ | refine .drew ?_) | ((with_reducible refine .setCell ?_ ?_ _); rotate_left; focus (first | (left; simp; done) | (right; simp; (first | done | omega)))) | with_reducible (first | assumption | exact .refl _ _ | refine .trans0 ?_ ‹_›)))) (hAF.keep (by repeat (first | with_reducible (first | refine .alloc ?_ _ | refine .drewN ?_ _ | refine .drew ?_) | ((with_reducible refine .setCell ?_ ?_ _); rotate_left; focus (first | (left; simp; done) | (right; simp; (first | done | omega)))) | with_reducible (first | assumption | exact .refl _ _ | refine .trans0 ?_ ‹_›)))) (hBF.keep (by repeat (first | with_reducible (first | refine .alloc ?_ _ | refine .drewN ?_ _ | refine .drew ?_) | ((with_reducible refine .setCell ?_ ?_ _); rotate_left; focus (first | (left; simp; done) | (right; simp; (first | done | omega)))) | with_reducible (first | assumption | exact .refl _ _ | refine .trans0 ?_ ‹_›))))).mono ?_; rintro e w2 ⟨rfl, TO⟩; obtain ⟨G', F', k1, k2, k3, k4, k5⟩ := id TO; have hb3 := k2.at_ ((Frm.refl [] W).drew.at0 hb2) (fun h => by have := HG _ h; omega); obtain ⟨y0, y1, y2, y3, y4⟩ := blk3 hb3; dsimp only)
  refine hK.out _ _ (fun h => absurd h (by decide)) (fun _ => ?_)
  clear hK K'
  try simp only [Act.put, List.setIfInBounds_toArray, List.set_cons_zero, List.set_cons_succ]
  refine Pend.start [11, 12, 13, 14, 15, 16, 17] ?_
  iterate 7 (refine tkl (v := ?_) rfl (by kernel_rfl) (by rfl) (fun _ _ _ h => h) ?_ ?_; rotate_left; (focus (intro wq hSw; go_simp; (first | done | with_reducible rfl))); try simp only [Act.put, List.setIfInBounds_toArray, List.set_cons_zero, List.set_cons_succ])
  refine Pend.done ?_
  refine wpAnyU_done (by kernel_rfl) ?_ _
  go_wp2
  obtain ⟨hz, hzf⟩ := told_store hb3 (toldB (r1, r2, r3, st')) (toldL (r1, r2, r3, st')) (toldE (r1, r2, r3, st')); dsimp only [toldB, toldL, toldE] at hz hzf; (generalize hZ : World.setCell _ _ _ = Z at *); obtain ⟨z0, z1, z2, z3, z4⟩ := blk3 hz; refine bodyPost_ret (v := toldV (r1, r2, r3, st')) (by simp [toldV, results, Try.results29, go_sem, z0, z1, z2]) rfl ?_
  exact ⟨rfl, StoreTo.wrap HG TO (by repeat (first | with_reducible (first | refine .alloc ?_ _ | refine .drewN ?_ _ | refine .drew ?_) | ((with_reducible refine .setCell ?_ ?_ _); rotate_left; focus (first | (left; simp; done) | (right; simp; (first | done | omega)))) | with_reducible (first | assumption | exact .refl _ _ | refine .trans0 ?_ ‹_›))) hzf (fun b hb => by rw [List.mem_singleton.1 hb]; exact ⟨by omega, by show _ < W.heap.size; omega, List.mem_cons_self⟩) (fun b hb => List.mem_cons_of_mem _ hb) (new_one (by omega))⟩
end Go.Proofs.Ytkiofaojokofbaa
namespace Go.Proofs.Ytkiofaojokofbaa
open Go.RowKit

theorem eval1_idle (x9 lv nv ev : Nat) (bx : Nat) (lev old : Int) (w : World) (h9 : w.cell? ⟨x9, 0, none⟩ = some (.pointer (some ⟨bx, 0, none⟩))) (hb : w.cell? ⟨bx, 2, none⟩ = some (.int .i64 lev))
    (hl : w.cell? ⟨lv, 0, none⟩ = some (.int .i64 old)) (hf : w.frozen? ⟨lv, 0, none⟩ = false) :
    CallsD Try.prog 66 #[.pointer (some ⟨x9, 0, none⟩), .pointer (some ⟨lv, 0, none⟩), .pointer (some ⟨nv, 0, none⟩), .pointer (some ⟨ev, 0, none⟩)] .returning w fun e u' w' =>
      e = .returned (.tuple #[]) ∧ u' = .returning ∧ w' = w.setCell ⟨lv, 0, none⟩ (.int .i64 lev) := by
  refine callsD_of_wpS Try.func66 rfl fun c₀ cs hu => ?_
  apply wpS_seq
  apply wpS_region
  simp [wpOpsS, go_sem, h9, hb, hl, hf, Try.ntmps66, Exit.thenS]
  apply wpS_seq
  apply wpS_region
  simp [wpOpsS, go_sem, recoverD, hu, Exit.thenS]
  apply wpS_seq
  apply wpS_region
  simp [wpOpsS, go_sem, Exit.thenS]
  refine wpS_cond (t := false) (by simp [Act.eval, Array.replicate]) ?_
  simp only [Bool.false_eq_true, if_false]
  refine wpS_of_wp (wp_skip ?_)
  cases c₀
  simp_all [bodyPostS, results, Try.results66]

theorem eval1_caught (x9 lv nv ev : Nat) (bx : Nat) (lev old on oe c : Int) (older : List PanicEntry) (w : World) (h9 : w.cell? ⟨x9, 0, none⟩ = some (.pointer (some ⟨bx, 0, none⟩))) (hb : w.cell? ⟨bx, 2, none⟩ = some (.int .i64 lev))
    (hl : w.cell? ⟨lv, 0, none⟩ = some (.int .i64 old)) (hf : w.frozen? ⟨lv, 0, none⟩ = false) (hn : w.cell? ⟨nv, 0, none⟩ = some (.int .i64 on)) (hnf : w.frozen? ⟨nv, 0, none⟩ = false)
    (he : w.cell? ⟨ev, 0, none⟩ = some (.int .i64 oe)) (hef : w.frozen? ⟨ev, 0, none⟩ = false) (d1 : nv ≠ lv) (d2 : ev ≠ lv) (d3 : ev ≠ nv) :
    CallsD Try.prog 66 #[.pointer (some ⟨x9, 0, none⟩), .pointer (some ⟨lv, 0, none⟩), .pointer (some ⟨nv, 0, none⟩), .pointer (some ⟨ev, 0, none⟩)]
      (.panicking ({ v := .iface 29 (.int .i64 c), recovered := false } :: older)) w fun e u' w' =>
      e = .returned (.tuple #[]) ∧ u' = .panicking ({ v := .iface 29 (.int .i64 c), recovered := true } :: older) ∧
        w' = ((w.setCell ⟨lv, 0, none⟩ (.int .i64 lev)).setCell ⟨nv, 0, none⟩ (.int .i64 0)).setCell ⟨ev, 0, none⟩ (.int .i64 c) := by
  have hta : ∀ w : World, (Instr.typeAssert (.iface 29 (.int .i64 c)) 20 29 true).run Try.prog w = .ok (.tuple #[.int .i64 c, .bool true]) w := fun _ => by kernel_rfl
  refine callsD_of_wpS Try.func66 rfl fun c₀ cs hu => ?_
  apply wpS_seq
  apply wpS_region
  simp [wpOpsS, go_sem, h9, hb, hl, hf, Try.ntmps66, Exit.thenS]
  apply wpS_seq
  apply wpS_region
  simp [wpOpsS, go_sem, recoverD, hu, Exit.thenS]
  apply wpS_seq
  apply wpS_region
  simp [wpOpsS, go_sem, Exit.thenS]
  refine wpS_cond (t := true) (by simp [Act.eval, Array.replicate]) ?_
  simp only [if_true]
  apply wpS_seq
  apply wpS_region
  simp [wpOpsS, go_sem, hta, Exit.thenS]
  apply wpS_seq
  apply wpS_seq
  apply wpS_region
  simp [wpOpsS, go_sem, Exit.thenS]
  refine wpS_cond (t := false) (by simp [Act.eval, Array.replicate]) ?_
  simp only [Bool.false_eq_true, if_false]
  refine wpS_of_wp (wp_skip ?_)
  simp only [Exit.thenS]
  apply wpS_region
  have n1 := (cell_other w (fun h => d1 h.symm) (o := 0) (o' := 0) (.int .i64 lev)).trans hn
  have n2 := (cell_other (w.setCell ⟨lv, 0, none⟩ (.int .i64 lev)) (fun h => d3 h.symm) (o := 0) (o' := 0) (.int .i64 0)).trans ((cell_other w (fun h => d2 h.symm) (o := 0) (o' := 0) (.int .i64 lev)).trans he)
  simp [wpOpsS, go_sem, n1, n2, hnf, hef, bodyPostS, results, Try.results66]

theorem set3 (w : World) {a b c : Nat} (hab : a ≠ b) (hac : a ≠ c) (hbc : b ≠ c) (va vb vc : Value) {ua ub uc : Value} (ha : w.cell? ⟨a, 0, none⟩ = some ua) (hb : w.cell? ⟨b, 0, none⟩ = some ub) (hc : w.cell? ⟨c, 0, none⟩ = some uc) :
    (((w.setCell ⟨a, 0, none⟩ va).setCell ⟨b, 0, none⟩ vb).setCell ⟨c, 0, none⟩ vc).cell? ⟨a, 0, none⟩ = some va ∧
    (((w.setCell ⟨a, 0, none⟩ va).setCell ⟨b, 0, none⟩ vb).setCell ⟨c, 0, none⟩ vc).cell? ⟨b, 0, none⟩ = some vb ∧
    (((w.setCell ⟨a, 0, none⟩ va).setCell ⟨b, 0, none⟩ vb).setCell ⟨c, 0, none⟩ vc).cell? ⟨c, 0, none⟩ = some vc ∧
    (∀ k o, k ≠ a → k ≠ b → k ≠ c → (((w.setCell ⟨a, 0, none⟩ va).setCell ⟨b, 0, none⟩ vb).setCell ⟨c, 0, none⟩ vc).cell? ⟨k, o, none⟩ = w.cell? ⟨k, o, none⟩) := by
  refine ⟨?_, ?_, ?_, fun k o h1 h2 h3 => ?_⟩
  · rw [cell_other _ (Ne.symm hac), cell_other _ (Ne.symm hab)]; apply World.cell?_setCell_same; exact ha
  · rw [cell_other _ (Ne.symm hbc)]; apply World.cell?_setCell_same; rw [cell_other _ hab]; exact hb
  · apply World.cell?_setCell_same; rw [cell_other _ hbc, cell_other _ hac]; exact hc
  · rw [cell_other _ (Ne.symm h3), cell_other _ (Ne.symm h2), cell_other _ (Ne.symm h1)]
/-- Eval's answer: the value or 0, the level, the error's number. -/
def evalS (l : Lat) (st : PStore) (t : Term) : Int × Int × Int :=
  match evalT l st 2000 0 t l.bottom with
  | (.ok a, lev, _) => (a, lev, 0)
  | (.error c, lev, _) => (0, lev, c)

theorem arith_EvalI (l : Lat) (st : PStore) (G F : List Nat) (sb lb : Nat) (t : Term) (v : Value) (w : World) (hl : LatAt w lb l) (hs : StoreAt G F w sb st) (ht : TermV F w t v) :
    Calls Try.prog 55 #[.pointer (some ⟨sb, 0, none⟩), .pointer (some ⟨lb, 0, none⟩), v] w fun e w' =>
      e = .returned (.tuple #[.int .i64 (evalS l st t).1, .int .i64 (evalS l st t).2.1, .int .i64 (evalS l st t).2.2]) ∧ Frm [] w w' ∧ I64 (evalS l st t).1 := by
  have hmf : ∀ (fn : Fn) (first cap : Array Value) (w : World), (Instr.makeFunc fn first cap).run Try.prog w = .ok (.func fn first cap) w := fun _ _ _ _ => rfl
  obtain ⟨A, cap, rfl⟩ := ht.form
  go_enter_defers Try.func55, Try.ntmps55
  go_wp2_with (go_at_call 21; refine (lat_bottom l lb _ (hl.frm0 (by repeat (first | with_reducible (first | refine .alloc ?_ _ | refine .drewN ?_ _ | refine .drew ?_) | ((with_reducible refine .setCell ?_ ?_ _); rotate_left; focus (first | (left; simp; done) | (right; simp; (first | done | omega)))) | with_reducible (first | assumption | exact .refl _ _ | refine .trans0 ?_ ‹_›))))).mono ?_; rintro e w' ⟨rfl, rfl⟩)
  have hF := hs.lt
  generalize hW : World.alloc (World.alloc (World.alloc _ _) _) _ = W
  have hbx : SumsAt W (w.heap.size + 1 + 1 + 1 + 1) sb lb l.bottom 0 := by
    unfold SumsAt; subst hW; exact (by repeat (first | rw [heap_alloc_at] | rw [heap_size_alloc] | rfl | rw [if_pos (by omega)] | rw [if_neg (by omega)]))
  have hx9 : W.heap[w.heap.size + 1 + 1 + 1 + 1 + 1]? = some (.cells #[.pointer (some ⟨w.heap.size + 1 + 1 + 1 + 1, 0, none⟩)] 103 (0, 0)) := by subst hW; exact (by repeat (first | rw [heap_alloc_at] | rw [heap_size_alloc] | rfl | rw [if_pos (by omega)] | rw [if_neg (by omega)]))
  have hn0 : W.heap[w.heap.size + 1]? = some (.cells #[.int .i64 0] 2 (0, 0)) := by subst hW; exact (by repeat (first | rw [heap_alloc_at] | rw [heap_size_alloc] | rfl | rw [if_pos (by omega)] | rw [if_neg (by omega)]))
  have hl0 : W.heap[w.heap.size + 1 + 1]? = some (.cells #[.int .i64 0] 3 (0, 0)) := by subst hW; exact (by repeat (first | rw [heap_alloc_at] | rw [heap_size_alloc] | rfl | rw [if_pos (by omega)] | rw [if_neg (by omega)]))
  have he0 : W.heap[w.heap.size + 1 + 1 + 1]? = some (.cells #[.int .i64 0] 29 (0, 0)) := by subst hW; exact (by repeat (first | rw [heap_alloc_at] | rw [heap_size_alloc] | rfl | rw [if_pos (by omega)] | rw [if_neg (by omega)]))
  have hb0 : W.heap[w.heap.size]? = some (.cells #[.int .i64 t.kind, .int .i64 t.n, .string t.s, .slice A t.kids.length cap] 26 (0, 0)) := by subst hW; exact (by repeat (first | rw [heap_alloc_at] | rw [heap_size_alloc] | rfl | rw [if_pos (by omega)] | rw [if_neg (by omega)]))
  have FW : Frm [] w W := by subst hW; exact (by repeat (first | with_reducible (first | refine .alloc ?_ _ | refine .drewN ?_ _ | refine .drew ?_) | ((with_reducible refine .setCell ?_ ?_ _); rotate_left; focus (first | (left; simp; done) | (right; simp; (first | done | omega)))) | with_reducible (first | assumption | exact .refl _ _ | refine .trans0 ?_ ‹_›)))
  have hszW : W.heap.size = w.heap.size + 1 + 1 + 1 + 1 + 1 + 1 := by subst hW; simp
  clear hW
  obtain ⟨b0, b1, b2, b3, b4, b5⟩ := blk4 hb0
  obtain ⟨x0, x1, x2⟩ := blk1 hx9
  have hsW : StoreAt G ((w.heap.size + 1 + 1 + 1 + 1) :: F) W sb st := hs.more FW (by simp) (by simp) (new_one (by omega)) (fun b hb => by simp [hb]) (lt_one hF (by omega) (by omega))
  have htW : TermV ((w.heap.size + 1 + 1 + 1 + 1) :: F) W t _ := (ht.away (new_one (by omega))).keep FW
  have hG : w.heap.size + 1 + 1 + 1 + 1 ∉ G := fun h => by have := hF _ (hs.sub _ h); omega
  have HS : Hid (evalS l st t = match evalT l st 2000 0 t l.bottom with | (.ok a, lev, _) => (a, lev, 0) | (.error c, lev, _) => (0, lev, c)) := Lib.hid rfl
  go_wp2_with (go_at_call 67; refine (arith_eval l st 2000 0 t l.bottom G ((w.heap.size + 1 + 1 + 1 + 1) :: F) sb lb _ _ W (by omega) (by omega) (hl.frm0 FW) hsW htW hbx (by simp) hG).mono ?_; rintro e w2 ⟨rfl, hbx2, F2, ok2⟩; have hx92 := F2.at_ hx9 (by simp); have hn2 := F2.at_ hn0 (by simp); have hl2 := F2.at_ hl0 (by simp); have he2 := F2.at_ he0 (by simp); generalize evalT l st 2000 0 t l.bottom = r at *; obtain ⟨x, lev, m⟩ := r; dsimp only at hbx2; obtain ⟨p0, p1, p2, p3, p4, p5⟩ := blk4 hbx2; obtain ⟨x0', x1', x2'⟩ := blk1 hx92; obtain ⟨m0, m1, m2⟩ := blk1 hn2; obtain ⟨l0, l1, l2⟩ := blk1 hl2; obtain ⟨e0, e1, e2⟩ := blk1 he2; rcases x with c | a <;> simp only [ending])
  · refine leaves_cons (f := 66) (args := #[.pointer (some ⟨w.heap.size + 1 + 1 + 1 + 1 + 1, 0, none⟩), .pointer (some ⟨w.heap.size + 1 + 1, 0, none⟩), .pointer (some ⟨w.heap.size + 1, 0, none⟩), .pointer (some ⟨w.heap.size + 1 + 1 + 1, 0, none⟩)]) (by simp) (by simp [go_sem]) ?_
    refine (eval1_caught _ _ _ _ _ lev 0 0 0 _ [] _ x0' p2 l0 (l1 0) m0 (m1 0) e0 (e1 0) (by omega) (by omega) (by omega)).mono ?_
    rintro e u' w'' ⟨rfl, rfl, rfl⟩
    obtain ⟨g1, g2, g3, -⟩ := set3 w2 (a := w.heap.size + 1 + 1) (b := w.heap.size + 1) (c := w.heap.size + 1 + 1 + 1) (by omega) (by omega) (by omega) (.int .i64 lev) (.int .i64 0) (.int .i64 c) l0 m0 e0
    have F3 : Frm [] w (((w2.setCell ⟨w.heap.size + 1 + 1, 0, none⟩ (.int .i64 lev)).setCell ⟨w.heap.size + 1, 0, none⟩ (.int .i64 0)).setCell ⟨w.heap.size + 1 + 1 + 1, 0, none⟩ (.int .i64 c)) :=
      (((FW.trans F2 (by simp; omega)).setCell (.inr (by simp; omega)) _).setCell (.inr (by simp)) _).setCell (.inr (by simp; omega)) _
    generalize World.setCell _ _ _ = w3 at *
    simp [Leaves, settle, results, Try.results55, go_sem, g1, g2, g3]
    rw [HS.out]
    exact ⟨⟨rfl, rfl, rfl⟩, F3, (⟨by decide, by decide⟩ : I64 0)⟩
  · go_region
    go_wp2
    obtain ⟨g1, g2, g3, g4⟩ := set3 w2 (a := w.heap.size + 1) (b := w.heap.size + 1 + 1) (c := w.heap.size + 1 + 1 + 1) (by omega) (by omega) (by omega) (.int .i64 a) (.int .i64 lev) (.int .i64 0) m0 l0 e0
    have gf : (((w2.setCell ⟨w.heap.size + 1, 0, none⟩ (.int .i64 a)).setCell ⟨w.heap.size + 1 + 1, 0, none⟩ (.int .i64 lev)).setCell ⟨w.heap.size + 1 + 1 + 1, 0, none⟩ (.int .i64 0)).frozen? ⟨w.heap.size + 1 + 1, 0, none⟩ = false := by
      simp [l1]
    have F3 : Frm [] w (((w2.setCell ⟨w.heap.size + 1, 0, none⟩ (.int .i64 a)).setCell ⟨w.heap.size + 1 + 1, 0, none⟩ (.int .i64 lev)).setCell ⟨w.heap.size + 1 + 1 + 1, 0, none⟩ (.int .i64 0)) :=
      (((FW.trans F2 (by simp; omega)).setCell (.inr (by simp)) _).setCell (.inr (by simp; omega)) _).setCell (.inr (by simp; omega)) _
    have h9 := (g4 (w.heap.size + 1 + 1 + 1 + 1 + 1) 0 (by omega) (by omega) (by omega)).trans x0'
    have hb := (g4 (w.heap.size + 1 + 1 + 1 + 1) 2 (by omega) (by omega) (by omega)).trans p2
    generalize World.setCell _ _ _ = w3 at *
    refine leaves_cons (f := 66) (args := #[.pointer (some ⟨w.heap.size + 1 + 1 + 1 + 1 + 1, 0, none⟩), .pointer (some ⟨w.heap.size + 1 + 1, 0, none⟩), .pointer (some ⟨w.heap.size + 1, 0, none⟩), .pointer (some ⟨w.heap.size + 1 + 1 + 1, 0, none⟩)]) (by simp) (by simp [go_sem]) ?_
    refine (eval1_idle _ _ _ _ _ lev lev w3.drew h9 hb g2 gf).mono ?_
    rintro e u' w'' ⟨rfl, rfl, rfl⟩
    have k1 : (w3.drew.setCell ⟨w.heap.size + 1 + 1, 0, none⟩ (.int .i64 lev)).cell? ⟨w.heap.size + 1, 0, none⟩ = some (.int .i64 a) := (cell_other w3.drew (by omega) _).trans g1
    have k2 : (w3.drew.setCell ⟨w.heap.size + 1 + 1, 0, none⟩ (.int .i64 lev)).cell? ⟨w.heap.size + 1 + 1, 0, none⟩ = some (.int .i64 lev) := by apply World.cell?_setCell_same; exact g2
    have k3 : (w3.drew.setCell ⟨w.heap.size + 1 + 1, 0, none⟩ (.int .i64 lev)).cell? ⟨w.heap.size + 1 + 1 + 1, 0, none⟩ = some (.int .i64 0) := (cell_other w3.drew (by omega) _).trans g3
    have F4 : Frm [] w (w3.drew.setCell ⟨w.heap.size + 1 + 1, 0, none⟩ (.int .i64 lev)) := F3.drew.setCell (.inr (by simp; omega)) _
    generalize World.setCell _ _ _ = w4 at *
    simp [Leaves, settle, results, Try.results55, go_sem, k1, k2, k3]
    rw [HS.out]
    exact ⟨⟨rfl, rfl, rfl⟩, F4, (ok2.2 a rfl).2⟩
theorem arith_Eval (l : Lat) (st : PStore) (G F : List Nat) (sb lb : Nat) (t : Term) (v : Value) (w : World) (hl : LatAt w lb l) (hs : StoreAt G F w sb st) (ht : TermV F w t v) :
    Calls Try.prog 55 #[.pointer (some ⟨sb, 0, none⟩), .pointer (some ⟨lb, 0, none⟩), v] w fun e w' =>
      e = .returned (.tuple #[.int .i64 (evalS l st t).1, .int .i64 (evalS l st t).2.1, .int .i64 (evalS l st t).2.2]) ∧ Frm [] w w' :=
  (arith_EvalI l st G F sb lb t v w hl hs ht).mono fun _ _ h => ⟨h.1, h.2.1⟩
end Go.Proofs.Ytkiofaojokofbaa
namespace Go.Proofs.Ytkiofaojokofbaa
open Go.RowKit

def Arith.test (s : ByteArray) (a b : Int) : Bool × Bool :=
  if nm s == [60] then (decide (a < b), true)
  else if nm s == [62] then (decide (b < a), true)
  else if nm s == [61, 60] then (decide (a ≤ b), true)
  else if nm s == [62, 61] then (decide (b ≤ a), true)
  else if nm s == [61, 58, 61] then (a == b, true)
  else if nm s == [61, 92, 61] then (a != b, true)
  else (false, false)

theorem arith_test (s : ByteArray) (a b : Int) (w : World) :
    Calls Try.prog 60 #[.string s, .int .i64 a, .int .i64 b] w fun e w' => e = .returned (.tuple #[.bool (Arith.test s a b).1, .bool (Arith.test s a b).2]) ∧ w = w' := by
  generalize hr : Arith.test s a b = r
  obtain ⟨x, y⟩ := r
  have HR := Lib.hid hr
  clear hr
  go_enter Try.func60, Try.ntmps60
  go_wp2
  all_goals go_ret2
  all_goals
    refine ⟨?_, rfl⟩
    have h := HR.out
    clear HR
    simp only [nm_eq] at *
    simp_all [Arith.test]

theorem term_num (n : Int) (w : World) : Calls Try.prog 14 #[.int .i64 n] w fun e w' => e = .returned (.agg #[.int .i64 2, .int .i64 n, .string ⟨#[]⟩, .slice none 0 0]) ∧ Frm [] w w' := by
  go_enter Try.func14, Try.ntmps14
  go_wp2
  generalize hW : World.alloc _ _ = W
  have hb : W.heap[w.heap.size]? = some (.cells #[.int .i64 2, .int .i64 n, .string ⟨#[]⟩, .slice none 0 0] 26 (0, 0)) := by subst hW; exact (by repeat (first | rw [heap_alloc_at] | rw [heap_size_alloc] | rfl | rw [if_pos (by omega)] | rw [if_neg (by omega)]))
  have FW : Frm [] w W := by subst hW; exact (by repeat (first | with_reducible (first | refine .alloc ?_ _ | refine .drewN ?_ _ | refine .drew ?_) | ((with_reducible refine .setCell ?_ ?_ _); rotate_left; focus (first | (left; simp; done) | (right; simp; (first | done | omega)))) | with_reducible (first | assumption | exact .refl _ _ | refine .trans0 ?_ ‹_›)))
  clear hW
  obtain ⟨r0, r1, r2, r3, r4, r5⟩ := blk4 hb
  refine bodyPost_ret (v := .agg #[.int .i64 2, .int .i64 n, .string ⟨#[]⟩, .slice none 0 0]) (by simp [results, Try.results14, go_sem, r0, r1, r2, r3]) rfl ?_
  exact ⟨rfl, FW⟩

theorem KidsV.news {F : List Nat} {w : World} {b off : Nat} : ∀ (ts : List Term) (i : Nat), KidsV F w ts (some ⟨b, off, none⟩) i → ∃ news : List Value, news.length = ts.length * 4 ∧
    (∀ j u, news[j]? = some u → w.cell? ⟨b, off + i * 4 + j, none⟩ = some u) ∧ (∀ u ∈ news, u.oneCell') ∧
    (∀ j t, ts[j]? = some t → ∃ c0 c1 c2 c3, news[j * 4]? = some c0 ∧ news[j * 4 + 1]? = some c1 ∧ news[j * 4 + 2]? = some c2 ∧ news[j * 4 + 3]? = some c3 ∧ TermV F w t (.agg #[c0, c1, c2, c3]))
  | [], _, _ => ⟨[], rfl, fun j u h => by simp at h, fun u h => by simp at h, fun j t h => by simp at h⟩
  | t :: ts, i, h => by
    simp only [KidsV] at h
    obtain ⟨⟨b', off', c0, c1, c2, c3, hA, hb, e0, e1, e2, e3, ht⟩, hr⟩ := h
    cases hA
    obtain ⟨news, n1, n2, n3, n4⟩ := KidsV.news ts (i + 1) hr
    refine ⟨c0 :: c1 :: c2 :: c3 :: news, by simp [n1]; omega, fun j u hj => ?_, fun u hu => ?_, fun j x hj => ?_⟩
    · match j, hj with
      | 0, hj => cases hj; exact e0
      | 1, hj => cases hj; exact e1
      | 2, hj => cases hj; exact e2
      | 3, hj => cases hj; exact e3
      | j + 4, hj =>
        have := n2 j u (by simpa using hj)
        rw [show off + i * 4 + (j + 4) = off + (i + 1) * 4 + j by omega]; exact this
    · obtain ⟨k, n, s, us⟩ := t
      have ht' := ht
      simp only [TermV] at ht'
      obtain ⟨A, cap, hv, _⟩ := ht'
      simp only [Value.agg.injEq, Array.mk.injEq, List.cons.injEq, and_true] at hv
      obtain ⟨rfl, rfl, rfl, rfl⟩ := hv
      simp only [List.mem_cons] at hu
      rcases hu with rfl | rfl | rfl | rfl | hu
      · simp [Value.oneCell']
      · simp [Value.oneCell']
      · simp [Value.oneCell']
      · simp [Value.oneCell']
      · exact n3 u hu
    · match j, hj with
      | 0, hj => cases hj; exact ⟨c0, c1, c2, c3, rfl, rfl, rfl, rfl, ht⟩
      | j + 1, hj =>
        obtain ⟨d0, d1, d2, d3, f0, f1, f2, f3, hx⟩ := n4 j x (by simpa using hj)
        refine ⟨d0, d1, d2, d3, ?_, ?_, ?_, ?_, hx⟩
        · rw [show (j + 1) * 4 = j * 4 + 4 by omega]; simpa using f0
        · rw [show (j + 1) * 4 + 1 = j * 4 + 1 + 4 by omega]; simpa using f1
        · rw [show (j + 1) * 4 + 2 = j * 4 + 2 + 4 by omega]; simpa using f2
        · rw [show (j + 1) * 4 + 3 = j * 4 + 3 + 4 by omega]; simpa using f3

theorem slices_clone (F : List Nat) (b off : Nat) (ts : List Term) (cap : Nat) (w : World) (h : KidsV F w ts (some ⟨b, off, none⟩) 0) (hF : ∀ b, b ∈ F → b < w.heap.size) (hn : ts.length ≤ 1048576) :
    Calls Try.prog 24 #[.slice (some ⟨b, off, none⟩) ts.length cap] w fun e w' =>
      (∃ A' cap', e = .returned (.slice A' ts.length cap') ∧ ts.length ≤ cap' ∧ cap' ≤ 9223372036854775807 ∧ KidsV F w' ts A' 0) ∧ Frm [] w w' := by
  have hnil : ∀ w : World, (binOp BinOp.eql 22 (.slice (some ⟨b, off, none⟩) ts.length cap) (.slice none 0 0)).run Try.prog w = .ok (.bool false) w := fun _ => by kernel_rfl
  obtain ⟨i0, hi, hz0, hz1, hz2⟩ := info_parts Try.infoTerm
  obtain ⟨news, n1, n2, n3, n4⟩ := KidsV.news ts 0 h
  simp only [Nat.zero_mul, Nat.add_zero] at n2
  have hown : ∀ W : World, W.heap[w.heap.size]? = some (.cells #[] 26 (0, 0)) → W.ownsRow w.heap.size 26 4 (.slice (some ⟨w.heap.size, 0, none⟩) 0 0) 0 [] := fun W hW =>
    ⟨rfl, .inr ⟨w.heap.size, 0, #[], rfl, Nat.le_refl _, hW, Nat.le_refl _, by decide, rfl, rfl⟩⟩
  have cl1 : ∀ (o : Obj) (j : Nat) (u : Value), news[j]? = some u → (w.alloc o).cell? (Addr.add ⟨b, off, none⟩ j) = some u := fun o j u hj => by
    have h1 := n2 j u hj
    have h2 : b < w.heap.size := World.block_lt_of_cell? w _ h1
    have h3 := (((Frm.refl [] w).alloc o).cell (b := b) (o := off + j) (s := none) h2 (by simp)).trans h1
    have h4 : Addr.add ⟨b, off, none⟩ j = ⟨b, off + j, none⟩ := by cases j <;> simp [Addr.add]
    rw [h4]; exact h3
  go_enter Try.func24, Try.ntmps24
  go_wp2_with (at_builtin; go_must (refine wpList_append_own_at _ rfl _ _ 22 rfl w.heap.size 26 i0 _ 4 56 Try.underlying22 hi hz0 hz1 hz2 rfl (by decide) (.slice (some ⟨w.heap.size, 0, none⟩) 0 0) 0 [] rfl (hown _ (alloc_heap_new _ _)) ⟨b, off, none⟩ ts.length cap news rfl n1 ?c1 ?c2 ?c3 ?c4 ?c5 ?_); (case c1 => exact cl1 _); (case c2 => exact n3); (case c3 => simp [maxLen]; omega); (case c4 => omega); (case c5 => simp); intro v w3 ho hg _ hat)
  have FW : Frm [] w w3 := ((Frm.refl [] w).alloc _).grown hg (fun k hk => .inr (by simp [Value.ownBlock] at hk; omega))
  have hob : ∀ b, b ∈ v.ownBlock.toList → w.heap.size ≤ b := fun x hx => by
    rcases hat with hat | hat <;> (rw [hat] at hx; simp [Value.ownBlock] at hx; omega)
  have hO : OwnTerms F w3 w.heap.size v ts news := by
    refine ⟨by simpa using ho, n1, fun j t hj => ?_⟩
    obtain ⟨c0, c1, c2, c3, e0, e1, e2, e3, ht⟩ := n4 j t hj
    refine ⟨c0, c1, c2, c3, e0, e1, e2, e3, TermV.same F _ w w3 (fun x hx hlt hx' => ?_) (fun x _ hlt => FW.block x hlt (by simp)) t _ ht⟩
    rcases List.mem_append.1 hx' with hx' | hx'
    · have := hob x hx'; omega
    · exact hx hx'
  obtain ⟨A', cap', rfl, hc1, hc2, hk⟩ := hO.kids hF
  go_ret
  exact ⟨⟨A', cap', rfl, hc1, hc2, hk⟩, FW⟩

theorem slices_clone_nil (w : World) :
    Calls Try.prog 24 #[.slice none 0 0] w fun e w' => e = .returned (.slice none 0 0) ∧ w = w' := by
  have hnil : ∀ w : World, (binOp BinOp.eql 22 (.slice none 0 0) (.slice none 0 0)).run Try.prog w = .ok (.bool true) w := fun _ => by kernel_rfl
  go_enter Try.func24, Try.ntmps24
  go_wp2
  go_ret
  exact ⟨rfl, rfl⟩

/-- A name with parts. -/
theorem term_make (F : List Nat) (s : ByteArray) (A : Option Addr) (ts : List Term) (cap : Nat) (w : World) (hk : KidsV F w ts A 0) (hA : (A = none ∧ cap = 0) ∨ ∃ b off, A = some ⟨b, off, none⟩) (hF : ∀ b, b ∈ F → b < w.heap.size) (hn : ts.length ≤ 1048576) (hs : s.size ≤ 1048576) :
    Calls Try.prog 13 #[.string s, .slice A ts.length cap] w fun e w' => (∃ v, e = .returned v ∧ TermV F w' (.mk 3 0 s ts) v) ∧ Frm [] w w' := by
  have hcl : ∀ w1 : World, Frm [] w w1 → w.heap.size < w1.heap.size → Calls Try.prog 24 #[.slice A ts.length cap] w1 fun e w' =>
      (∃ A' cap', e = .returned (.slice A' ts.length cap') ∧ ts.length ≤ cap' ∧ cap' ≤ 9223372036854775807 ∧ KidsV (w.heap.size :: F) w' ts A' 0) ∧ Frm [] w1 w' := by
    intro w1 F1 hlt
    have hk1 := (hk.away (F' := w.heap.size :: F) (new_one (Nat.le_refl _))).keep F1
    rcases hA with ⟨rfl, rfl⟩ | ⟨b, off, rfl⟩
    · have : ts = [] := by
        cases ts with
        | nil => rfl
        | cons t ts => simp [KidsV] at hk
      subst this
      refine (slices_clone_nil w1).mono ?_
      rintro e w' ⟨rfl, rfl⟩
      exact ⟨⟨none, 0, rfl, by simp, by simp, by simp [KidsV]⟩, Frm.refl _ _⟩
    · exact slices_clone _ b off ts cap w1 hk1 (lt_one hF hlt (Nat.le_of_lt hlt)) hn
  go_enter Try.func13, Try.ntmps13
  go_wp2_with (go_at_call 24; refine (hcl _ (by repeat (first | with_reducible (first | refine .alloc ?_ _ | refine .drewN ?_ _ | refine .drew ?_) | ((with_reducible refine .setCell ?_ ?_ _); rotate_left; focus (first | (left; simp; done) | (right; simp; (first | done | omega)))) | with_reducible (first | assumption | exact .refl _ _ | refine .trans0 ?_ ‹_›))) (by simp)).mono ?_; rintro e w1 ⟨⟨A', cap', rfl, hc1, hc2, hk'⟩, F1⟩; obtain ⟨r0, r1, r2, r3, r4, r5⟩ := blk4 (F1.at0 (alloc_heap_new _ _)))
  have hb := F1.at0 (alloc_heap_new w _)
  have F2 : Frm [] w w1 := ((Frm.refl [] w).alloc _).trans0 F1
  generalize hW : World.setCell _ _ (.slice A' ts.length cap') = W
  have hbW : W.heap[w.heap.size]? = some (.cells #[.int .i64 3, .int .i64 0, .string s, .slice A' ts.length cap'] 26 (0, 0)) := by subst hW; exact box_store4 hb _ _ _ _
  have FW : Frm [w.heap.size] w1 W := by subst hW; exact (by repeat (first | with_reducible (first | refine .alloc ?_ _ | refine .drewN ?_ _ | refine .drew ?_) | ((with_reducible refine .setCell ?_ ?_ _); rotate_left; focus (first | (left; simp; done) | (right; simp; (first | done | omega)))) | with_reducible (first | assumption | exact .refl _ _ | refine .trans0 ?_ ‹_›)))
  clear hW
  have F3 : Frm [] w W := F2.trans FW (by simp)
  obtain ⟨s0, s1, s2, s3, s4, s5⟩ := blk4 hbW
  refine bodyPost_ret (v := .agg #[.int .i64 3, .int .i64 0, .string s, .slice A' ts.length cap']) (by simp [results, Try.results13, go_sem, s0, s1, s2, s3]) rfl ?_
  refine ⟨⟨_, rfl, TermV.mk' (by unfold I64; omega) (by unfold I64; omega) hs hn hc1 hc2 ((hk'.frm FW (by simp)).away (fun b hb => .inl (by simp [hb])))⟩, F3⟩
end Go.Proofs.Ytkiofaojokofbaa
