/- Contracts and plain laws: GoalT Goals2 Cmp Order Order2. -/
import Derived.Test.YtkiofaojokofbaaBuiltE
import Derived.WalkSpells
import Derived.WalkLawsBesides
import Derived.Deep.QuietTactic
import Derived.BigQuiet
import Derived.Deep.DeepCutAuto
import Derived.Deep.RegionHeld3
import Derived.Lib.Hide
import Derived.Handy
import Derived.Test.YtkiofaojokofbaaBuiltC
import Derived.Test.YtkiofaojokofbaaBuiltA
import Derived.Test.YtkiofaojokofbaaBuiltD
namespace Go.Proofs.Ytkiofaojokofbaa
open Go.RowKit

noncomputable def PStore.testT (l : Lat) (st : PStore) (op : ByteArray) (a b : Term) : Bool × Int × Int × PStore :=
  if (evalS l st a).2.2 = 0 then
    (if (evalS l st b).2.2 = 0 then ((Arith.test op (evalS l st a).1 (evalS l st b).1).1, l.join (evalS l st a).2.1 (evalS l st b).2.1, 0, st)
    else (false, l.join (evalS l st a).2.1 (evalS l st b).2.1, (evalS l st b).2.2, st))
  else (false, (evalS l st a).2.1, (evalS l st a).2.2, st)

/-- A box with what the goals are over. -/
def GoalsAt (w : World) (gb sb lb : Nat) : Prop := w.heap[gb]? = some (.cells #[.pointer (some ⟨sb, 0, none⟩), .pointer (some ⟨lb, 0, none⟩)] 54 (0, 0))
theorem GoalsAt.c {w : World} {gb sb lb : Nat} (h : GoalsAt w gb sb lb) : w.cell? ⟨gb, 0, none⟩ = some (.pointer (some ⟨sb, 0, none⟩)) ∧ w.cell? ⟨gb, 1, none⟩ = some (.pointer (some ⟨lb, 0, none⟩)) ∧ gb < w.heap.size := by
  unfold GoalsAt at h
  exact ⟨by simp [World.cell?, h], by simp [World.cell?, h], (Array.getElem?_eq_some_iff.1 h).1⟩
theorem GoalsAt.keep {w w' : World} {gb sb lb : Nat} (h : GoalsAt w gb sb lb) (f : Frm [] w w') : GoalsAt w' gb sb lb := f.at0 h

set_option maxRecDepth 100000 in
set_option maxHeartbeats 4000000 in
theorem goal_test (G F : List Nat) (sb lb gb ob : Nat) (op : ByteArray) (l : Lat) (st : PStore) (a b : Term) (A : Option Addr) (cap : Nat) (w : World) (hl : LatAt w lb l) (hs : StoreAt G F w sb st) (hk : KidsV F w [a, b] A 0)
    (hg : GoalsAt w gb sb lb) (ho : w.heap[ob]? = some (.cells #[.string op] 9 (0, 0))) :
    Calls Try.prog 59 #[.slice A 2 cap, .pointer (some ⟨gb, 0, none⟩), .pointer (some ⟨ob, 0, none⟩)] w fun e w' => e = .returned (toldV (st.testT l op a b)) ∧ Frm [] w w' := by
  obtain ⟨g, off, A1, c1, A2, c2, rfl, hgg, hgF, e0, e1, e2, e3, d0, d1, d2, d3, hA, hB⟩ := hk.pair
  obtain ⟨q0, q1, hgb⟩ := hg.c
  have hob : w.cell? ⟨ob, 0, none⟩ = some (.string op) := by simp [World.cell?, ho]
  have hobl := (Array.getElem?_eq_some_iff.1 ho).1
  have HE1 := Lib.hid (fun w1 => arith_Eval l st G F sb lb a (.agg #[.int .i64 a.kind, .int .i64 a.n, .string a.s, .slice A1 a.kids.length c1]) w1)
  have HE2 := Lib.hid (fun w1 => arith_Eval l st G F sb lb b (.agg #[.int .i64 b.kind, .int .i64 b.n, .string b.s, .slice A2 b.kids.length c2]) w1)
  have HT : Hid (st.testT l op a b = if (evalS l st a).2.2 = 0 then
    (if (evalS l st b).2.2 = 0 then ((Arith.test op (evalS l st a).1 (evalS l st b).1).1, l.join (evalS l st a).2.1 (evalS l st b).2.1, 0, st)
    else (false, l.join (evalS l st a).2.1 (evalS l st b).2.1, (evalS l st b).2.2, st))
    else (false, (evalS l st a).2.1, (evalS l st a).2.2, st)) := rfl
  generalize evalS l st a = ra at *
  generalize evalS l st b = rb at *
  obtain ⟨xa, na, ea⟩ := ra
  obtain ⟨xb, nb, eb⟩ := rb
  dsimp only at HE1 HE2 HT
  generalize hR : st.testT l op a b = R at *
  clear hR
  go_enter Try.func59, Try.ntmps59
  go_wp2
  generalize hW : World.alloc _ _ = W
  have hb2 : W.heap[w.heap.size]? = some (.cells #[.bool false, .int .i64 0, .int .i64 0] 59 (0, 0)) := by subst hW; exact (by repeat (first | rw [heap_alloc_at] | rw [heap_size_alloc] | rfl | rw [if_pos (by omega)] | rw [if_neg (by omega)]))
  have FW : Frm [] w W := by subst hW; exact (by repeat (first | with_reducible (first | refine .alloc ?_ _ | refine .drewN ?_ _ | refine .drew ?_) | ((with_reducible refine .setCell ?_ ?_ _); rotate_left; focus (first | (left; simp; done) | (right; simp; (first | done | omega)))) | with_reducible (first | assumption | exact .refl _ _ | refine .trans0 ?_ ‹_›)))
  clear hW
  have p0 := (FW.cell hgb (by simp)).trans q0
  have p1 := (FW.cell hgb (by simp)).trans q1
  have s0 := (FW.cell hgg (by simp)).trans e0
  have s1 := (FW.cell hgg (by simp)).trans e1
  have s2 := (FW.cell hgg (by simp)).trans e2
  have s3 := (FW.cell hgg (by simp)).trans e3
  refine wp_region_U (fun w' => w'.cell? ⟨gb, 0, none⟩ = some (.pointer (some ⟨sb, 0, none⟩)) ∧ w'.cell? ⟨gb, 1, none⟩ = some (.pointer (some ⟨lb, 0, none⟩)) ∧ w'.cell? ⟨g, off, none⟩ = some (.int .i64 a.kind) ∧ w'.cell? ⟨g, off + 1, none⟩ = some (.int .i64 a.n) ∧ w'.cell? ⟨g, off + 2, none⟩ = some (.string a.s) ∧ w'.cell? ⟨g, off + 3, none⟩ = some (.slice A1 a.kids.length c1)) (fun i => Nat.blt i 7) (by kernel_rfl) ?rgnS1 (fun hHeld => ?rgnB1)
  case rgnS1 => (first | (dsimp only; go_keep) | go_keep)
  case' rgnB1 => skip
  refine Pend.start [0, 1, 2, 3, 4, 5, 6] ?_
  iterate 7 (refine tk (v := ?_) rfl (by kernel_rfl) (by rfl) (fun _ _ _ h => h) (by assumption) ?_ ?_; rotate_left; (focus (intro wq hSw; (try dsimp only at hSw); go_simp; (first | done | with_reducible rfl))); try simp only [Act.put, List.setIfInBounds_toArray, List.set_cons_zero, List.set_cons_succ])
  refine Pend.done ?_
  refine one 7 (by kernel_rfl) rfl (fun K' hK => ?_)
  (go_simp; refine (HE1.out _ (hl.frm0 (by repeat (first | with_reducible (first | refine .alloc ?_ _ | refine .drewN ?_ _ | refine .drew ?_) | ((with_reducible refine .setCell ?_ ?_ _); rotate_left; focus (first | (left; simp; done) | (right; simp; (first | done | omega)))) | with_reducible (first | assumption | exact .refl _ _ | refine .trans0 ?_ ‹_›)))) (hs.keep (by repeat (first | with_reducible (first | refine .alloc ?_ _ | refine .drewN ?_ _ | refine .drew ?_) | ((with_reducible refine .setCell ?_ ?_ _); rotate_left; focus (first | (left; simp; done) | (right; simp; (first | done | omega)))) | with_reducible (first | assumption | exact .refl _ _ | refine .trans0 ?_ ‹_›)))) (hA.keep (by repeat (first | with_reducible (first | refine .alloc ?_ _ | refine .drewN ?_ _ | refine .drew ?_) | ((with_reducible refine .setCell ?_ ?_ _); rotate_left; focus (first | (left; simp; done) | (right; simp; (first | done | omega)))) | with_reducible (first | assumption | exact .refl _ _ | refine .trans0 ?_ ‹_›))))).mono ?_; rintro e w2 ⟨rfl, F2⟩; dsimp only)
  refine hK.out _ _ (fun h => absurd h (by decide)) (fun _ => ?_)
  clear hK K'
  try simp only [Act.put, List.setIfInBounds_toArray, List.set_cons_zero, List.set_cons_succ]
  refine Pend.start [8, 9, 10, 11, 12, 13, 14] ?_
  iterate 7 (refine tkl (v := ?_) rfl (by kernel_rfl) (by rfl) (fun _ _ _ h => h) ?_ ?_; rotate_left; (focus (intro wq hSw; go_simp; (first | done | with_reducible rfl))); try simp only [Act.put, List.setIfInBounds_toArray, List.set_cons_zero, List.set_cons_succ])
  refine Pend.done ?_
  refine wpAnyU_done (by kernel_rfl) ?_ _
  have F2 : Frm [] W w2 := (Frm.refl [] W).drew.trans0 F2
  have hb3 := F2.at0 hb2
  have Fw2 := FW.trans0 F2
  obtain ⟨y0, y1, y2, y3, y4⟩ := blk3 hb3
  clear p0 p1 s0 s1 s2 s3 hHeld
  by_cases ha : ea = 0
  · have HT2 : Hid (R = if eb = 0 then ((Arith.test op xa xb).1, l.join na nb, 0, st) else (false, l.join na nb, eb, st)) := by show _ = _; rw [HT.out, if_pos ha]
    subst ha
    have p0 := (Fw2.cell hgb (by simp)).trans q0
    have p1 := (Fw2.cell hgb (by simp)).trans q1
    have s0 := (Fw2.cell hgg (by simp)).trans d0
    have s1 := (Fw2.cell hgg (by simp)).trans d1
    have s2 := (Fw2.cell hgg (by simp)).trans d2
    have s3 := (Fw2.cell hgg (by simp)).trans d3
    go_wp2
    refine wp_region_U (fun w' => w'.cell? ⟨gb, 0, none⟩ = some (.pointer (some ⟨sb, 0, none⟩)) ∧ w'.cell? ⟨gb, 1, none⟩ = some (.pointer (some ⟨lb, 0, none⟩)) ∧ w'.cell? ⟨g, off + 4, none⟩ = some (.int .i64 b.kind) ∧ w'.cell? ⟨g, off + 4 + 1, none⟩ = some (.int .i64 b.n) ∧ w'.cell? ⟨g, off + 4 + 2, none⟩ = some (.string b.s) ∧ w'.cell? ⟨g, off + 4 + 3, none⟩ = some (.slice A2 b.kids.length c2)) (fun i => Nat.blt i 7) (by kernel_rfl) ?rgnS2 (fun hHeld => ?rgnB2)
    case rgnS2 => (first | (dsimp only; go_keep) | go_keep)
    case' rgnB2 => skip
    refine Pend.start [0, 1, 2, 3, 4, 5, 6] ?_
    iterate 7 (refine tk (v := ?_) rfl (by kernel_rfl) (by rfl) (fun _ _ _ h => h) (by assumption) ?_ ?_; rotate_left; (focus (intro wq hSw; (try dsimp only at hSw); go_simp; (first | done | with_reducible rfl))); try simp only [Act.put, List.setIfInBounds_toArray, List.set_cons_zero, List.set_cons_succ])
    refine Pend.done ?_
    refine one 7 (by kernel_rfl) rfl (fun K' hK => ?_)
    (go_simp; refine (HE2.out _ (hl.frm0 (by repeat (first | with_reducible (first | refine .alloc ?_ _ | refine .drewN ?_ _ | refine .drew ?_) | ((with_reducible refine .setCell ?_ ?_ _); rotate_left; focus (first | (left; simp; done) | (right; simp; (first | done | omega)))) | with_reducible (first | assumption | exact .refl _ _ | refine .trans0 ?_ ‹_›)))) (hs.keep (by repeat (first | with_reducible (first | refine .alloc ?_ _ | refine .drewN ?_ _ | refine .drew ?_) | ((with_reducible refine .setCell ?_ ?_ _); rotate_left; focus (first | (left; simp; done) | (right; simp; (first | done | omega)))) | with_reducible (first | assumption | exact .refl _ _ | refine .trans0 ?_ ‹_›)))) (hB.keep (by repeat (first | with_reducible (first | refine .alloc ?_ _ | refine .drewN ?_ _ | refine .drew ?_) | ((with_reducible refine .setCell ?_ ?_ _); rotate_left; focus (first | (left; simp; done) | (right; simp; (first | done | omega)))) | with_reducible (first | assumption | exact .refl _ _ | refine .trans0 ?_ ‹_›))))).mono ?_; rintro e w3 ⟨rfl, F3⟩; dsimp only)
    refine hK.out _ _ (fun h => absurd h (by decide)) (fun _ => ?_)
    clear hK K'
    try simp only [Act.put, List.setIfInBounds_toArray, List.set_cons_zero, List.set_cons_succ]
    refine Pend.start [8, 9, 10, 11, 12, 13, 14] ?_
    iterate 7 (refine tkl (v := ?_) rfl (by kernel_rfl) (by rfl) (fun _ _ _ h => h) ?_ ?_; rotate_left; (focus (intro wq hSw; go_simp; (first | done | with_reducible rfl))); try simp only [Act.put, List.setIfInBounds_toArray, List.set_cons_zero, List.set_cons_succ])
    refine Pend.done ?_
    refine wpAnyU_done (by kernel_rfl) ?_ _
    have F3 : Frm [] w2 w3 := (Frm.refl [] w2).drew.trans0 F3
    have hb4 := F3.at0 hb3
    have Fw3 := Fw2.trans0 F3
    clear p0 p1 s0 s1 s2 s3 hHeld y0 y1 y2 y3 y4
    obtain ⟨y0, y1, y2, y3, y4⟩ := blk3 hb4
    have p0 := (Fw3.cell hgb (by simp)).trans q0
    have p1 := (Fw3.cell hgb (by simp)).trans q1
    have p2 := (Fw3.cell hobl (by simp)).trans hob
    by_cases hb : eb = 0
    · have HT3 : Hid (R = ((Arith.test op xa xb).1, l.join na nb, 0, st)) := by show _ = _; rw [HT2.out, if_pos hb]
      subst hb
      go_wp2_with (first
        | (go_at_call 47; refine (lat_join l lb _ _ _ (hl.frm0 (by repeat (first | with_reducible (first | refine .alloc ?_ _ | refine .drewN ?_ _ | refine .drew ?_) | ((with_reducible refine .setCell ?_ ?_ _); rotate_left; focus (first | (left; simp; done) | (right; simp; (first | done | omega)))) | with_reducible (first | assumption | exact .refl _ _ | refine .trans0 ?_ ‹_›))))).mono ?_; rintro e w4 ⟨rfl, D4⟩; have F4 : Frm [] w3 w4 := D4.frm []; have hb5 := F4.at0 hb4; have Fw4 := Fw3.trans0 F4; clear p0 p1 y0 y1 y2 y3 y4; obtain ⟨y0, y1, y2, y3, y4⟩ := blk3 hb5; have p2 := (Fw4.cell hobl (by simp)).trans hob)
        | (go_at_call 60; refine (arith_test _ _ _ _).mono ?_; rintro e w5 ⟨rfl, rfl⟩))
      obtain ⟨hz, hzf⟩ := told_store hb5 (toldB ((Arith.test op xa xb).1, l.join na nb, 0, st)) (toldL ((Arith.test op xa xb).1, l.join na nb, 0, st)) (toldE ((Arith.test op xa xb).1, l.join na nb, 0, st)); dsimp only [toldB, toldL, toldE] at hz hzf; (generalize hZ : World.setCell _ _ _ = Z at *); obtain ⟨z0, z1, z2, z3, z4⟩ := blk3 hz; refine bodyPost_ret (v := toldV ((Arith.test op xa xb).1, l.join na nb, 0, st)) (by simp [toldV, results, Try.results59, go_sem, z0, z1, z2]) rfl ?_
      rw [HT3.out]
      exact ⟨rfl, Fw4.trans hzf (fun b hb => .inr (by rw [List.mem_singleton.1 hb]; exact Nat.le_refl _))⟩
    · have HT3 : Hid (R = (false, l.join na nb, eb, st)) := by show _ = _; rw [HT2.out, if_neg hb]
      go_wp2_with (first
        | (go_at_call 47; refine (lat_join l lb _ _ _ (hl.frm0 (by repeat (first | with_reducible (first | refine .alloc ?_ _ | refine .drewN ?_ _ | refine .drew ?_) | ((with_reducible refine .setCell ?_ ?_ _); rotate_left; focus (first | (left; simp; done) | (right; simp; (first | done | omega)))) | with_reducible (first | assumption | exact .refl _ _ | refine .trans0 ?_ ‹_›))))).mono ?_; rintro e w4 ⟨rfl, D4⟩; have F4 : Frm [] w3 w4 := D4.frm []; have hb5 := F4.at0 hb4; have Fw4 := Fw3.trans0 F4; clear p0 p1 y0 y1 y2 y3 y4; obtain ⟨y0, y1, y2, y3, y4⟩ := blk3 hb5; have p2 := (Fw4.cell hobl (by simp)).trans hob))
      obtain ⟨hz, hzf⟩ := told_store hb5 (toldB (false, l.join na nb, eb, st)) (toldL (false, l.join na nb, eb, st)) (toldE (false, l.join na nb, eb, st)); dsimp only [toldB, toldL, toldE] at hz hzf; (generalize hZ : World.setCell _ _ _ = Z at *); obtain ⟨z0, z1, z2, z3, z4⟩ := blk3 hz; refine bodyPost_ret (v := toldV (false, l.join na nb, eb, st)) (by simp [toldV, results, Try.results59, go_sem, z0, z1, z2]) rfl ?_
      rw [HT3.out]
      exact ⟨rfl, Fw4.trans hzf (fun b hb => .inr (by rw [List.mem_singleton.1 hb]; exact Nat.le_refl _))⟩
  · have HT3 : Hid (R = (false, na, ea, st)) := by show _ = _; rw [HT.out, if_neg ha]
    go_wp2
    obtain ⟨hz, hzf⟩ := told_store hb3 (toldB (false, na, ea, st)) (toldL (false, na, ea, st)) (toldE (false, na, ea, st)); dsimp only [toldB, toldL, toldE] at hz hzf; (generalize hZ : World.setCell _ _ _ = Z at *); obtain ⟨z0, z1, z2, z3, z4⟩ := blk3 hz; refine bodyPost_ret (v := toldV (false, na, ea, st)) (by simp [toldV, results, Try.results59, go_sem, z0, z1, z2]) rfl ?_
    rw [HT3.out]
    exact ⟨rfl, Fw2.trans hzf (fun b hb => .inr (by rw [List.mem_singleton.1 hb]; exact Nat.le_refl _))⟩
end Go.Proofs.Ytkiofaojokofbaa
namespace Go.Proofs.Ytkiofaojokofbaa
open Go.RowKit

/-- A function value that asks a term for something, and answers p. -/
def Asks (hf : FuncId) (p : Term → Bool) : Prop := ∀ (t : Term) (F : List Nat) (v : Value) (w : World), TermV F w t v → Calls Try.prog hf #[v] w fun e w' => e = .returned (.bool (p t)) ∧ Frm [] w w'

def PStore.kindT (l : Lat) (st : PStore) (p : Term → Bool) (a : Term) : Bool × Int × Int × PStore := (p (l.opened (st.walk a)).1, (l.opened (st.walk a)).2, 0, st)

/-- One term in a row. -/
theorem KidsV.single {F : List Nat} {w : World} {a : Term} {A : Option Addr} (h : KidsV F w [a] A 0) :
    ∃ g off A1 c1, A = some ⟨g, off, none⟩ ∧ g < w.heap.size ∧ g ∉ F ∧ w.cell? ⟨g, off, none⟩ = some (.int .i64 a.kind) ∧ w.cell? ⟨g, off + 1, none⟩ = some (.int .i64 a.n) ∧ w.cell? ⟨g, off + 2, none⟩ = some (.string a.s) ∧ w.cell? ⟨g, off + 3, none⟩ = some (.slice A1 a.kids.length c1) ∧
      TermV F w a (.agg #[.int .i64 a.kind, .int .i64 a.n, .string a.s, .slice A1 a.kids.length c1]) := by
  obtain ⟨g, off, A1, c1, rfl, h1, h2, e0, e1, e2, e3, hA⟩ := h.kid 0 (by simp)
  exact ⟨g, off, A1, c1, rfl, h2, h1, e0, e1, e2, e3, hA⟩

/-- A term in a box of its own. -/
def TBox (F : List Nat) (w : World) (x : Nat) (t : Term) : Prop := ∃ A cap, w.heap[x]? = some (.cells #[.int .i64 t.kind, .int .i64 t.n, .string t.s, .slice A t.kids.length cap] 26 (0, 0)) ∧ TermV F w t (.agg #[.int .i64 t.kind, .int .i64 t.n, .string t.s, .slice A t.kids.length cap])
def KindMid (F : List Nat) (W : World) (q : Term × Int) (x5 x6 : Value) (wx : World) : Prop := ∃ xb, x5 = .pointer (some ⟨xb, 0, none⟩) ∧ x6 = .int .i64 q.2 ∧ TBox F wx xb q.1 ∧ Frm [] W wx

set_option maxRecDepth 100000 in
set_option maxHeartbeats 4000000 in
theorem goal_kind (G F : List Nat) (sb lb gb hb : Nat) (hf : FuncId) (p : Term → Bool) (eg : ∀ args w, (callFunc hf args).run Try.prog w = .ok (.enter hf args) w) (hp : Asks hf p) (l : Lat) (st : PStore) (a : Term) (A : Option Addr) (cap : Nat) (w : World) (hl : LatAt w lb l) (hs : StoreAt G F w sb st) (hk : KidsV F w [a] A 0)
    (hg : GoalsAt w gb sb lb) (ho : w.heap[hb]? = some (.cells #[.func (.func hf) #[] #[]] 24 (0, 0))) :
    Calls Try.prog 56 #[.slice A 1 cap, .pointer (some ⟨gb, 0, none⟩), .pointer (some ⟨hb, 0, none⟩)] w fun e w' => e = .returned (toldV (st.kindT l p a)) ∧ Frm [] w w' := by
  have hF := hs.lt
  obtain ⟨g, off, A1, c1, rfl, hgg, hgF, e0, e1, e2, e3, hA⟩ := hk.single
  obtain ⟨q0, q1, hgb⟩ := hg.c
  have hob : w.cell? ⟨hb, 0, none⟩ = some (.func (.func hf) #[] #[]) := by simp [World.cell?, ho]
  have hobl := (Array.getElem?_eq_some_iff.1 ho).1
  have HW := Lib.hid (fun F w1 => store_walk G F sb st a (.agg #[.int .i64 a.kind, .int .i64 a.n, .string a.s, .slice A1 a.kids.length c1]) w1)
  have HO := Lib.hid (fun F v w1 => seal_open F l lb (st.walk a) v w1)
  have HP := Lib.hid (fun v w1 => hp (l.opened (st.walk a)).1 F v w1)
  have HT : Hid (st.kindT l p a = (p (l.opened (st.walk a)).1, (l.opened (st.walk a)).2, 0, st)) := rfl
  generalize st.kindT l p a = R at *
  generalize l.opened (st.walk a) = q at *
  generalize st.walk a = u at *
  clear hp
  go_enter Try.func56, Try.ntmps56
  go_upto_region 1 with (fail)
  generalize hW : World.alloc _ _ = W
  have hb2 : W.heap[w.heap.size]? = some (.cells #[.bool false, .int .i64 0, .int .i64 0] 59 (0, 0)) := by subst hW; exact (by repeat (first | rw [heap_alloc_at] | rw [heap_size_alloc] | rfl | rw [if_pos (by omega)] | rw [if_neg (by omega)]))
  have FW : Frm [] w W := by subst hW; exact (by repeat (first | with_reducible (first | refine .alloc ?_ _ | refine .drewN ?_ _ | refine .drew ?_) | ((with_reducible refine .setCell ?_ ?_ _); rotate_left; focus (first | (left; simp; done) | (right; simp; (first | done | omega)))) | with_reducible (first | assumption | exact .refl _ _ | refine .trans0 ?_ ‹_›)))
  clear hW
  have p0 := (FW.cell hgb (by simp)).trans q0
  have p1 := (FW.cell hgb (by simp)).trans q1
  have s0 := (FW.cell hgg (by simp)).trans e0
  have s1 := (FW.cell hgg (by simp)).trans e1
  have s2 := (FW.cell hgg (by simp)).trans e2
  have s3 := (FW.cell hgg (by simp)).trans e3
  have hsz := FW.size
  have hFW : ∀ b, b ∈ F → b < W.heap.size := fun b hb => Nat.lt_of_lt_of_le (hF b hb) hsz
  have hgbW := Nat.lt_of_lt_of_le hgb hsz
  have hggW := Nat.lt_of_lt_of_le hgg hsz
  go_cut [5, 6] (fun x5 x6 wx => KindMid F W q x5 x6 wx)
  case first =>
    refine wp_region_U (fun w' => Frm [] W w') (fun i => List.contains [0, 1, 2, 3, 4, 5, 6, 7, 12] i) (by kernel_rfl) ?rgnS1 (fun hHeld => ?rgnB1)
    case rgnS1 => (first | (dsimp only; (first | exact (by repeat (first | with_reducible (first | refine .alloc ?_ _ | refine .drewN ?_ _ | refine .drew ?_) | ((with_reducible refine .setCell ?_ ?_ _); rotate_left; focus (first | (left; simp; done) | (right; simp; (first | done | omega)))) | with_reducible (first | assumption | exact .refl _ _ | refine .trans0 ?_ ‹_›))) | exact F03 | exact F02)) | (first | exact (by repeat (first | with_reducible (first | refine .alloc ?_ _ | refine .drewN ?_ _ | refine .drew ?_) | ((with_reducible refine .setCell ?_ ?_ _); rotate_left; focus (first | (left; simp; done) | (right; simp; (first | done | omega)))) | with_reducible (first | assumption | exact .refl _ _ | refine .trans0 ?_ ‹_›))) | exact F03 | exact F02))
    case' rgnB1 => skip
    refine Pend.start [0, 1, 2, 3, 4, 5, 6] ?_
    iterate 7 (refine tk (v := ?_) rfl (by kernel_rfl) (by rfl) (fun _ _ _ h => h) (by assumption) ?_ ?_; rotate_left; (focus (intro wq hSw; (try dsimp only at hSw); have P0 := (hSw.cell hgbW (by simp)).trans p0; have P1 := (hSw.cell hgbW (by simp)).trans p1; have S0 := (hSw.cell hggW (by simp)).trans s0; have S1 := (hSw.cell hggW (by simp)).trans s1; have S2 := (hSw.cell hggW (by simp)).trans s2; have S3 := (hSw.cell hggW (by simp)).trans s3; go_simp; (first | done | with_reducible rfl))); try simp only [Act.put, List.setIfInBounds_toArray, List.set_cons_zero, List.set_cons_succ])
    refine Pend.done ?_
    refine two 7 12 (by kernel_rfl) rfl rfl (fun K' hK => ?_) (fun K' hK => ?_)
    · skip
      (go_simp; (first | (with_reducible refine (HW.out (W.heap.size :: F) (World.drew (World.alloc _ _)) ?_ ?_).mono ?_; (focus exact (hs.keep FW).more (F' := W.heap.size :: F) (H := []) (by repeat (first | with_reducible (first | refine .alloc ?_ _ | refine .drewN ?_ _ | refine .drew ?_) | ((with_reducible refine .setCell ?_ ?_ _); rotate_left; focus (first | (left; simp; done) | (right; simp; (first | done | omega)))) | with_reducible (first | assumption | exact .refl _ _ | refine .trans0 ?_ ‹_›))) (by simp) (by simp) (new_one (Nat.le_refl _)) (fun b hb => by simp [hb]) (lt_one hFW (by simp) (by simp))); (focus exact ((hA.keep FW).away (F' := W.heap.size :: F) (new_one (Nat.le_refl _))).keep (by repeat (first | with_reducible (first | refine .alloc ?_ _ | refine .drewN ?_ _ | refine .drew ?_) | ((with_reducible refine .setCell ?_ ?_ _); rotate_left; focus (first | (left; simp; done) | (right; simp; (first | done | omega)))) | with_reducible (first | assumption | exact .refl _ _ | refine .trans0 ?_ ‹_›))))) | (refine (HW.out F _ ((hs.keep FW).keep (by repeat (first | with_reducible (first | refine .alloc ?_ _ | refine .drewN ?_ _ | refine .drew ?_) | ((with_reducible refine .setCell ?_ ?_ _); rotate_left; focus (first | (left; simp; done) | (right; simp; (first | done | omega)))) | with_reducible (first | assumption | exact .refl _ _ | refine .trans0 ?_ ‹_›)))) ((hA.keep FW).keep (by repeat (first | with_reducible (first | refine .alloc ?_ _ | refine .drewN ?_ _ | refine .drew ?_) | ((with_reducible refine .setCell ?_ ?_ _); rotate_left; focus (first | (left; simp; done) | (right; simp; (first | done | omega)))) | with_reducible (first | assumption | exact .refl _ _ | refine .trans0 ?_ ‹_›))))).mono ?_)); rintro e w2 ⟨⟨v2, rfl, hv2⟩, F2⟩; (try (have hz2 := F2.at0 (alloc_heap_new _ _))); have hsz2' := F2.size; (try simp at hsz2'); have F02 : Frm [] W w2 := Frm.trans0 (by repeat (first | with_reducible (first | refine .alloc ?_ _ | refine .drewN ?_ _ | refine .drew ?_) | ((with_reducible refine .setCell ?_ ?_ _); rotate_left; focus (first | (left; simp; done) | (right; simp; (first | done | omega)))) | with_reducible (first | assumption | exact .refl _ _ | refine .trans0 ?_ ‹_›))) F2; have hsz2 := F02.size; dsimp only)
      refine hK.out _ _ (fun _ => ?rgnS2) (fun hH => ?rgnB2)
      case rgnS2 => (first | (dsimp only; (first | exact (by repeat (first | with_reducible (first | refine .alloc ?_ _ | refine .drewN ?_ _ | refine .drew ?_) | ((with_reducible refine .setCell ?_ ?_ _); rotate_left; focus (first | (left; simp; done) | (right; simp; (first | done | omega)))) | with_reducible (first | assumption | exact .refl _ _ | refine .trans0 ?_ ‹_›))) | exact F03 | exact F02)) | (first | exact (by repeat (first | with_reducible (first | refine .alloc ?_ _ | refine .drewN ?_ _ | refine .drew ?_) | ((with_reducible refine .setCell ?_ ?_ _); rotate_left; focus (first | (left; simp; done) | (right; simp; (first | done | omega)))) | with_reducible (first | assumption | exact .refl _ _ | refine .trans0 ?_ ‹_›))) | exact F03 | exact F02))
      case' rgnB2 => ((try clear hHeld); have hHeld := hH (by decide); clear hH)
      clear hK K'
      try simp only [Act.put, List.setIfInBounds_toArray, List.set_cons_zero, List.set_cons_succ]
      refine two 8 12 (by kernel_rfl) rfl rfl (fun K' hK => ?_) (fun K' hK => ?_)
      · skip
        (go_simp; (first | (with_reducible refine (HO.out (W.heap.size :: F) _ _ ?_ (TermV.keep hv2 ?_) ?_).mono ?_; (focus exact ((hl.frm0 FW).frm0 (by repeat (first | with_reducible (first | refine .alloc ?_ _ | refine .drewN ?_ _ | refine .drew ?_) | ((with_reducible refine .setCell ?_ ?_ _); rotate_left; focus (first | (left; simp; done) | (right; simp; (first | done | omega)))) | with_reducible (first | assumption | exact .refl _ _ | refine .trans0 ?_ ‹_›))))); (focus exact (by repeat (first | with_reducible (first | refine .alloc ?_ _ | refine .drewN ?_ _ | refine .drew ?_) | ((with_reducible refine .setCell ?_ ?_ _); rotate_left; focus (first | (left; simp; done) | (right; simp; (first | done | omega)))) | with_reducible (first | assumption | exact .refl _ _ | refine .trans0 ?_ ‹_›)))); (focus exact lt_one hFW (by omega) (by omega))) | (with_reducible refine (HO.out (w2.heap.size :: F) _ (World.alloc _ _) ?_ ?_ ?_).mono ?_; (focus exact ((hl.frm0 FW).frm0 (by repeat (first | with_reducible (first | refine .alloc ?_ _ | refine .drewN ?_ _ | refine .drew ?_) | ((with_reducible refine .setCell ?_ ?_ _); rotate_left; focus (first | (left; simp; done) | (right; simp; (first | done | omega)))) | with_reducible (first | assumption | exact .refl _ _ | refine .trans0 ?_ ‹_›))))); (focus exact ((hv2.away (F' := w2.heap.size :: F) (new_one (Nat.le_refl _))).keep (by repeat (first | with_reducible (first | refine .alloc ?_ _ | refine .drewN ?_ _ | refine .drew ?_) | ((with_reducible refine .setCell ?_ ?_ _); rotate_left; focus (first | (left; simp; done) | (right; simp; (first | done | omega)))) | with_reducible (first | assumption | exact .refl _ _ | refine .trans0 ?_ ‹_›))))); (focus exact lt_one hFW (by simp) (by simp; omega))) | (refine (HO.out F _ _ ((hl.frm0 FW).frm0 (by repeat (first | with_reducible (first | refine .alloc ?_ _ | refine .drewN ?_ _ | refine .drew ?_) | ((with_reducible refine .setCell ?_ ?_ _); rotate_left; focus (first | (left; simp; done) | (right; simp; (first | done | omega)))) | with_reducible (first | assumption | exact .refl _ _ | refine .trans0 ?_ ‹_›)))) (hv2.keep (by repeat (first | with_reducible (first | refine .alloc ?_ _ | refine .drewN ?_ _ | refine .drew ?_) | ((with_reducible refine .setCell ?_ ?_ _); rotate_left; focus (first | (left; simp; done) | (right; simp; (first | done | omega)))) | with_reducible (first | assumption | exact .refl _ _ | refine .trans0 ?_ ‹_›)))) (fun b hb => Nat.lt_of_lt_of_le (hFW b hb) hsz2)).mono ?_)); rintro e w3 ⟨⟨v3, rfl, hv3⟩, F3⟩; obtain ⟨A3, cap3, rfl⟩ := hv3.form; (try (have hz3 := F3.at0 hz2; obtain ⟨z0, z1, z2, z3, z4, z5⟩ := blk4 hz3)); (try (have hz3 := F3.at0 (alloc_heap_new _ _); obtain ⟨z0, z1, z2, z3, z4, z5⟩ := blk4 hz3)); have F03 : Frm [] W w3 := Frm.trans0 (by repeat (first | with_reducible (first | refine .alloc ?_ _ | refine .drewN ?_ _ | refine .drew ?_) | ((with_reducible refine .setCell ?_ ?_ _); rotate_left; focus (first | (left; simp; done) | (right; simp; (first | done | omega)))) | with_reducible (first | assumption | exact .refl _ _ | refine .trans0 ?_ ‹_›))) F3; dsimp only)
        refine hK.out _ _ (fun h => absurd h (by decide)) (fun _ => ?_)
        clear hK K'
        try simp only [Act.put, List.setIfInBounds_toArray, List.set_cons_zero, List.set_cons_succ]
        refine Pend.start [9, 10, 11] ?_
        iterate 3 (refine tkl (v := ?_) rfl (by kernel_rfl) (by rfl) (fun _ _ _ h => h) ?_ ?_; rotate_left; (focus (intro wq hSw; go_simp; (first | done | with_reducible rfl))); try simp only [Act.put, List.setIfInBounds_toArray, List.set_cons_zero, List.set_cons_succ])
        refine Pend.done ?_
        refine one 12 (by kernel_rfl) rfl (fun K' hK => ?_)
        go_simp
        refine hK.out _ _ (fun _ => ?rgnS3) (fun hH => ?rgnB3)
        case rgnS3 => (first | (dsimp only; (first | exact (by repeat (first | with_reducible (first | refine .alloc ?_ _ | refine .drewN ?_ _ | refine .drew ?_) | ((with_reducible refine .setCell ?_ ?_ _); rotate_left; focus (first | (left; simp; done) | (right; simp; (first | done | omega)))) | with_reducible (first | assumption | exact .refl _ _ | refine .trans0 ?_ ‹_›))) | exact F03 | exact F02)) | (first | exact (by repeat (first | with_reducible (first | refine .alloc ?_ _ | refine .drewN ?_ _ | refine .drew ?_) | ((with_reducible refine .setCell ?_ ?_ _); rotate_left; focus (first | (left; simp; done) | (right; simp; (first | done | omega)))) | with_reducible (first | assumption | exact .refl _ _ | refine .trans0 ?_ ‹_›))) | exact F03 | exact F02))
        case' rgnB3 => ((try clear hHeld); have hHeld := hH (by decide); clear hH)
        clear hK K'
        try simp only [Act.put, List.setIfInBounds_toArray, List.set_cons_zero, List.set_cons_succ]
        refine one 13 (by kernel_rfl) rfl (fun K' hK => ?_)
        go_simp
        refine hK.out _ _ (fun h => absurd h (by decide)) (fun _ => ?_)
        clear hK K'
        try simp only [Act.put, List.setIfInBounds_toArray, List.set_cons_zero, List.set_cons_succ]
        refine Pend.start [14] ?_
        (refine tkl (v := ?_) rfl (by kernel_rfl) (by rfl) (fun _ _ _ h => h) ?_ ?_; rotate_left; (focus (intro wq hSw; go_simp; (first | done | with_reducible rfl))); try simp only [Act.put, List.setIfInBounds_toArray, List.set_cons_zero, List.set_cons_succ])
        refine Pend.done ?_
        refine wpAnyU_done (by kernel_rfl) ?_ _
        (go_wp2; go_meet; (first | exact ⟨_, rfl, rfl, ⟨A3, cap3, box_store4 hz3 _ _ _ _, TermV.away (hv3.frm (box4_frm' _ _ _ _ _ _) (by simp)) (fun b hb => .inl (by simp [hb]))⟩, F03.trans (box4_frm' _ _ _ _ _ _) (fun b hb => by rw [List.mem_singleton.1 hb]; exact .inr (by omega))⟩ | exact ⟨_, rfl, rfl, ⟨A3, cap3, alloc_heap_new _ _, hv3.keep (by repeat (first | with_reducible (first | refine .alloc ?_ _ | refine .drewN ?_ _ | refine .drew ?_) | ((with_reducible refine .setCell ?_ ?_ _); rotate_left; focus (first | (left; simp; done) | (right; simp; (first | done | omega)))) | with_reducible (first | assumption | exact .refl _ _ | refine .trans0 ?_ ‹_›)))⟩, F03.alloc _⟩))
      · skip
        go_simp
        refine hK.out _ _ (fun _ => ?rgnS4) (fun hH => ?rgnB4)
        case rgnS4 => (first | (dsimp only; (first | exact (by repeat (first | with_reducible (first | refine .alloc ?_ _ | refine .drewN ?_ _ | refine .drew ?_) | ((with_reducible refine .setCell ?_ ?_ _); rotate_left; focus (first | (left; simp; done) | (right; simp; (first | done | omega)))) | with_reducible (first | assumption | exact .refl _ _ | refine .trans0 ?_ ‹_›))) | exact F03 | exact F02)) | (first | exact (by repeat (first | with_reducible (first | refine .alloc ?_ _ | refine .drewN ?_ _ | refine .drew ?_) | ((with_reducible refine .setCell ?_ ?_ _); rotate_left; focus (first | (left; simp; done) | (right; simp; (first | done | omega)))) | with_reducible (first | assumption | exact .refl _ _ | refine .trans0 ?_ ‹_›))) | exact F03 | exact F02))
        case' rgnB4 => ((try clear hHeld); have hHeld := hH (by decide); clear hH)
        clear hK K'
        try simp only [Act.put, List.setIfInBounds_toArray, List.set_cons_zero, List.set_cons_succ]
        refine one 8 (by kernel_rfl) rfl (fun K' hK => ?_)
        (go_simp; (first | (with_reducible refine (HO.out (W.heap.size :: F) _ _ ?_ (TermV.keep hv2 ?_) ?_).mono ?_; (focus exact ((hl.frm0 FW).frm0 (by repeat (first | with_reducible (first | refine .alloc ?_ _ | refine .drewN ?_ _ | refine .drew ?_) | ((with_reducible refine .setCell ?_ ?_ _); rotate_left; focus (first | (left; simp; done) | (right; simp; (first | done | omega)))) | with_reducible (first | assumption | exact .refl _ _ | refine .trans0 ?_ ‹_›))))); (focus exact (by repeat (first | with_reducible (first | refine .alloc ?_ _ | refine .drewN ?_ _ | refine .drew ?_) | ((with_reducible refine .setCell ?_ ?_ _); rotate_left; focus (first | (left; simp; done) | (right; simp; (first | done | omega)))) | with_reducible (first | assumption | exact .refl _ _ | refine .trans0 ?_ ‹_›)))); (focus exact lt_one hFW (by omega) (by omega))) | (with_reducible refine (HO.out (w2.heap.size :: F) _ (World.alloc _ _) ?_ ?_ ?_).mono ?_; (focus exact ((hl.frm0 FW).frm0 (by repeat (first | with_reducible (first | refine .alloc ?_ _ | refine .drewN ?_ _ | refine .drew ?_) | ((with_reducible refine .setCell ?_ ?_ _); rotate_left; focus (first | (left; simp; done) | (right; simp; (first | done | omega)))) | with_reducible (first | assumption | exact .refl _ _ | refine .trans0 ?_ ‹_›))))); (focus exact ((hv2.away (F' := w2.heap.size :: F) (new_one (Nat.le_refl _))).keep (by repeat (first | with_reducible (first | refine .alloc ?_ _ | refine .drewN ?_ _ | refine .drew ?_) | ((with_reducible refine .setCell ?_ ?_ _); rotate_left; focus (first | (left; simp; done) | (right; simp; (first | done | omega)))) | with_reducible (first | assumption | exact .refl _ _ | refine .trans0 ?_ ‹_›))))); (focus exact lt_one hFW (by simp) (by simp; omega))) | (refine (HO.out F _ _ ((hl.frm0 FW).frm0 (by repeat (first | with_reducible (first | refine .alloc ?_ _ | refine .drewN ?_ _ | refine .drew ?_) | ((with_reducible refine .setCell ?_ ?_ _); rotate_left; focus (first | (left; simp; done) | (right; simp; (first | done | omega)))) | with_reducible (first | assumption | exact .refl _ _ | refine .trans0 ?_ ‹_›)))) (hv2.keep (by repeat (first | with_reducible (first | refine .alloc ?_ _ | refine .drewN ?_ _ | refine .drew ?_) | ((with_reducible refine .setCell ?_ ?_ _); rotate_left; focus (first | (left; simp; done) | (right; simp; (first | done | omega)))) | with_reducible (first | assumption | exact .refl _ _ | refine .trans0 ?_ ‹_›)))) (fun b hb => Nat.lt_of_lt_of_le (hFW b hb) hsz2)).mono ?_)); rintro e w3 ⟨⟨v3, rfl, hv3⟩, F3⟩; obtain ⟨A3, cap3, rfl⟩ := hv3.form; (try (have hz3 := F3.at0 hz2; obtain ⟨z0, z1, z2, z3, z4, z5⟩ := blk4 hz3)); (try (have hz3 := F3.at0 (alloc_heap_new _ _); obtain ⟨z0, z1, z2, z3, z4, z5⟩ := blk4 hz3)); have F03 : Frm [] W w3 := Frm.trans0 (by repeat (first | with_reducible (first | refine .alloc ?_ _ | refine .drewN ?_ _ | refine .drew ?_) | ((with_reducible refine .setCell ?_ ?_ _); rotate_left; focus (first | (left; simp; done) | (right; simp; (first | done | omega)))) | with_reducible (first | assumption | exact .refl _ _ | refine .trans0 ?_ ‹_›))) F3; dsimp only)
        refine hK.out _ _ (fun h => absurd h (by decide)) (fun _ => ?_)
        clear hK K'
        try simp only [Act.put, List.setIfInBounds_toArray, List.set_cons_zero, List.set_cons_succ]
        refine Pend.start [9, 10, 11] ?_
        iterate 3 (refine tkl (v := ?_) rfl (by kernel_rfl) (by rfl) (fun _ _ _ h => h) ?_ ?_; rotate_left; (focus (intro wq hSw; go_simp; (first | done | with_reducible rfl))); try simp only [Act.put, List.setIfInBounds_toArray, List.set_cons_zero, List.set_cons_succ])
        refine Pend.done ?_
        refine one 13 (by kernel_rfl) rfl (fun K' hK => ?_)
        go_simp
        refine hK.out _ _ (fun h => absurd h (by decide)) (fun _ => ?_)
        clear hK K'
        try simp only [Act.put, List.setIfInBounds_toArray, List.set_cons_zero, List.set_cons_succ]
        refine Pend.start [14] ?_
        (refine tkl (v := ?_) rfl (by kernel_rfl) (by rfl) (fun _ _ _ h => h) ?_ ?_; rotate_left; (focus (intro wq hSw; go_simp; (first | done | with_reducible rfl))); try simp only [Act.put, List.setIfInBounds_toArray, List.set_cons_zero, List.set_cons_succ])
        refine Pend.done ?_
        refine wpAnyU_done (by kernel_rfl) ?_ _
        (go_wp2; go_meet; (first | exact ⟨_, rfl, rfl, ⟨A3, cap3, box_store4 hz3 _ _ _ _, TermV.away (hv3.frm (box4_frm' _ _ _ _ _ _) (by simp)) (fun b hb => .inl (by simp [hb]))⟩, F03.trans (box4_frm' _ _ _ _ _ _) (fun b hb => by rw [List.mem_singleton.1 hb]; exact .inr (by omega))⟩ | exact ⟨_, rfl, rfl, ⟨A3, cap3, alloc_heap_new _ _, hv3.keep (by repeat (first | with_reducible (first | refine .alloc ?_ _ | refine .drewN ?_ _ | refine .drew ?_) | ((with_reducible refine .setCell ?_ ?_ _); rotate_left; focus (first | (left; simp; done) | (right; simp; (first | done | omega)))) | with_reducible (first | assumption | exact .refl _ _ | refine .trans0 ?_ ‹_›)))⟩, F03.alloc _⟩))
    · skip
      go_simp
      refine hK.out _ _ (fun _ => ?rgnS5) (fun hH => ?rgnB5)
      case rgnS5 => (first | (dsimp only; (first | exact (by repeat (first | with_reducible (first | refine .alloc ?_ _ | refine .drewN ?_ _ | refine .drew ?_) | ((with_reducible refine .setCell ?_ ?_ _); rotate_left; focus (first | (left; simp; done) | (right; simp; (first | done | omega)))) | with_reducible (first | assumption | exact .refl _ _ | refine .trans0 ?_ ‹_›))) | exact F03 | exact F02)) | (first | exact (by repeat (first | with_reducible (first | refine .alloc ?_ _ | refine .drewN ?_ _ | refine .drew ?_) | ((with_reducible refine .setCell ?_ ?_ _); rotate_left; focus (first | (left; simp; done) | (right; simp; (first | done | omega)))) | with_reducible (first | assumption | exact .refl _ _ | refine .trans0 ?_ ‹_›))) | exact F03 | exact F02))
      case' rgnB5 => ((try clear hHeld); have hHeld := hH (by decide); clear hH)
      clear hK K'
      try simp only [Act.put, List.setIfInBounds_toArray, List.set_cons_zero, List.set_cons_succ]
      refine one 7 (by kernel_rfl) rfl (fun K' hK => ?_)
      (go_simp; (first | (with_reducible refine (HW.out (W.heap.size :: F) (World.drew (World.alloc _ _)) ?_ ?_).mono ?_; (focus exact (hs.keep FW).more (F' := W.heap.size :: F) (H := []) (by repeat (first | with_reducible (first | refine .alloc ?_ _ | refine .drewN ?_ _ | refine .drew ?_) | ((with_reducible refine .setCell ?_ ?_ _); rotate_left; focus (first | (left; simp; done) | (right; simp; (first | done | omega)))) | with_reducible (first | assumption | exact .refl _ _ | refine .trans0 ?_ ‹_›))) (by simp) (by simp) (new_one (Nat.le_refl _)) (fun b hb => by simp [hb]) (lt_one hFW (by simp) (by simp))); (focus exact ((hA.keep FW).away (F' := W.heap.size :: F) (new_one (Nat.le_refl _))).keep (by repeat (first | with_reducible (first | refine .alloc ?_ _ | refine .drewN ?_ _ | refine .drew ?_) | ((with_reducible refine .setCell ?_ ?_ _); rotate_left; focus (first | (left; simp; done) | (right; simp; (first | done | omega)))) | with_reducible (first | assumption | exact .refl _ _ | refine .trans0 ?_ ‹_›))))) | (refine (HW.out F _ ((hs.keep FW).keep (by repeat (first | with_reducible (first | refine .alloc ?_ _ | refine .drewN ?_ _ | refine .drew ?_) | ((with_reducible refine .setCell ?_ ?_ _); rotate_left; focus (first | (left; simp; done) | (right; simp; (first | done | omega)))) | with_reducible (first | assumption | exact .refl _ _ | refine .trans0 ?_ ‹_›)))) ((hA.keep FW).keep (by repeat (first | with_reducible (first | refine .alloc ?_ _ | refine .drewN ?_ _ | refine .drew ?_) | ((with_reducible refine .setCell ?_ ?_ _); rotate_left; focus (first | (left; simp; done) | (right; simp; (first | done | omega)))) | with_reducible (first | assumption | exact .refl _ _ | refine .trans0 ?_ ‹_›))))).mono ?_)); rintro e w2 ⟨⟨v2, rfl, hv2⟩, F2⟩; (try (have hz2 := F2.at0 (alloc_heap_new _ _))); have hsz2' := F2.size; (try simp at hsz2'); have F02 : Frm [] W w2 := Frm.trans0 (by repeat (first | with_reducible (first | refine .alloc ?_ _ | refine .drewN ?_ _ | refine .drew ?_) | ((with_reducible refine .setCell ?_ ?_ _); rotate_left; focus (first | (left; simp; done) | (right; simp; (first | done | omega)))) | with_reducible (first | assumption | exact .refl _ _ | refine .trans0 ?_ ‹_›))) F2; have hsz2 := F02.size; dsimp only)
      refine hK.out _ _ (fun _ => ?rgnS6) (fun hH => ?rgnB6)
      case rgnS6 => (first | (dsimp only; (first | exact (by repeat (first | with_reducible (first | refine .alloc ?_ _ | refine .drewN ?_ _ | refine .drew ?_) | ((with_reducible refine .setCell ?_ ?_ _); rotate_left; focus (first | (left; simp; done) | (right; simp; (first | done | omega)))) | with_reducible (first | assumption | exact .refl _ _ | refine .trans0 ?_ ‹_›))) | exact F03 | exact F02)) | (first | exact (by repeat (first | with_reducible (first | refine .alloc ?_ _ | refine .drewN ?_ _ | refine .drew ?_) | ((with_reducible refine .setCell ?_ ?_ _); rotate_left; focus (first | (left; simp; done) | (right; simp; (first | done | omega)))) | with_reducible (first | assumption | exact .refl _ _ | refine .trans0 ?_ ‹_›))) | exact F03 | exact F02))
      case' rgnB6 => ((try clear hHeld); have hHeld := hH (by decide); clear hH)
      clear hK K'
      try simp only [Act.put, List.setIfInBounds_toArray, List.set_cons_zero, List.set_cons_succ]
      refine one 8 (by kernel_rfl) rfl (fun K' hK => ?_)
      (go_simp; (first | (with_reducible refine (HO.out (W.heap.size :: F) _ _ ?_ (TermV.keep hv2 ?_) ?_).mono ?_; (focus exact ((hl.frm0 FW).frm0 (by repeat (first | with_reducible (first | refine .alloc ?_ _ | refine .drewN ?_ _ | refine .drew ?_) | ((with_reducible refine .setCell ?_ ?_ _); rotate_left; focus (first | (left; simp; done) | (right; simp; (first | done | omega)))) | with_reducible (first | assumption | exact .refl _ _ | refine .trans0 ?_ ‹_›))))); (focus exact (by repeat (first | with_reducible (first | refine .alloc ?_ _ | refine .drewN ?_ _ | refine .drew ?_) | ((with_reducible refine .setCell ?_ ?_ _); rotate_left; focus (first | (left; simp; done) | (right; simp; (first | done | omega)))) | with_reducible (first | assumption | exact .refl _ _ | refine .trans0 ?_ ‹_›)))); (focus exact lt_one hFW (by omega) (by omega))) | (with_reducible refine (HO.out (w2.heap.size :: F) _ (World.alloc _ _) ?_ ?_ ?_).mono ?_; (focus exact ((hl.frm0 FW).frm0 (by repeat (first | with_reducible (first | refine .alloc ?_ _ | refine .drewN ?_ _ | refine .drew ?_) | ((with_reducible refine .setCell ?_ ?_ _); rotate_left; focus (first | (left; simp; done) | (right; simp; (first | done | omega)))) | with_reducible (first | assumption | exact .refl _ _ | refine .trans0 ?_ ‹_›))))); (focus exact ((hv2.away (F' := w2.heap.size :: F) (new_one (Nat.le_refl _))).keep (by repeat (first | with_reducible (first | refine .alloc ?_ _ | refine .drewN ?_ _ | refine .drew ?_) | ((with_reducible refine .setCell ?_ ?_ _); rotate_left; focus (first | (left; simp; done) | (right; simp; (first | done | omega)))) | with_reducible (first | assumption | exact .refl _ _ | refine .trans0 ?_ ‹_›))))); (focus exact lt_one hFW (by simp) (by simp; omega))) | (refine (HO.out F _ _ ((hl.frm0 FW).frm0 (by repeat (first | with_reducible (first | refine .alloc ?_ _ | refine .drewN ?_ _ | refine .drew ?_) | ((with_reducible refine .setCell ?_ ?_ _); rotate_left; focus (first | (left; simp; done) | (right; simp; (first | done | omega)))) | with_reducible (first | assumption | exact .refl _ _ | refine .trans0 ?_ ‹_›)))) (hv2.keep (by repeat (first | with_reducible (first | refine .alloc ?_ _ | refine .drewN ?_ _ | refine .drew ?_) | ((with_reducible refine .setCell ?_ ?_ _); rotate_left; focus (first | (left; simp; done) | (right; simp; (first | done | omega)))) | with_reducible (first | assumption | exact .refl _ _ | refine .trans0 ?_ ‹_›)))) (fun b hb => Nat.lt_of_lt_of_le (hFW b hb) hsz2)).mono ?_)); rintro e w3 ⟨⟨v3, rfl, hv3⟩, F3⟩; obtain ⟨A3, cap3, rfl⟩ := hv3.form; (try (have hz3 := F3.at0 hz2; obtain ⟨z0, z1, z2, z3, z4, z5⟩ := blk4 hz3)); (try (have hz3 := F3.at0 (alloc_heap_new _ _); obtain ⟨z0, z1, z2, z3, z4, z5⟩ := blk4 hz3)); have F03 : Frm [] W w3 := Frm.trans0 (by repeat (first | with_reducible (first | refine .alloc ?_ _ | refine .drewN ?_ _ | refine .drew ?_) | ((with_reducible refine .setCell ?_ ?_ _); rotate_left; focus (first | (left; simp; done) | (right; simp; (first | done | omega)))) | with_reducible (first | assumption | exact .refl _ _ | refine .trans0 ?_ ‹_›))) F3; dsimp only)
      refine hK.out _ _ (fun h => absurd h (by decide)) (fun _ => ?_)
      clear hK K'
      try simp only [Act.put, List.setIfInBounds_toArray, List.set_cons_zero, List.set_cons_succ]
      refine Pend.start [9, 10, 11] ?_
      iterate 3 (refine tkl (v := ?_) rfl (by kernel_rfl) (by rfl) (fun _ _ _ h => h) ?_ ?_; rotate_left; (focus (intro wq hSw; go_simp; (first | done | with_reducible rfl))); try simp only [Act.put, List.setIfInBounds_toArray, List.set_cons_zero, List.set_cons_succ])
      refine Pend.done ?_
      refine one 13 (by kernel_rfl) rfl (fun K' hK => ?_)
      go_simp
      refine hK.out _ _ (fun h => absurd h (by decide)) (fun _ => ?_)
      clear hK K'
      try simp only [Act.put, List.setIfInBounds_toArray, List.set_cons_zero, List.set_cons_succ]
      refine Pend.start [14] ?_
      (refine tkl (v := ?_) rfl (by kernel_rfl) (by rfl) (fun _ _ _ h => h) ?_ ?_; rotate_left; (focus (intro wq hSw; go_simp; (first | done | with_reducible rfl))); try simp only [Act.put, List.setIfInBounds_toArray, List.set_cons_zero, List.set_cons_succ])
      refine Pend.done ?_
      refine wpAnyU_done (by kernel_rfl) ?_ _
      (go_wp2; go_meet; (first | exact ⟨_, rfl, rfl, ⟨A3, cap3, box_store4 hz3 _ _ _ _, TermV.away (hv3.frm (box4_frm' _ _ _ _ _ _) (by simp)) (fun b hb => .inl (by simp [hb]))⟩, F03.trans (box4_frm' _ _ _ _ _ _) (fun b hb => by rw [List.mem_singleton.1 hb]; exact .inr (by omega))⟩ | exact ⟨_, rfl, rfl, ⟨A3, cap3, alloc_heap_new _ _, hv3.keep (by repeat (first | with_reducible (first | refine .alloc ?_ _ | refine .drewN ?_ _ | refine .drew ?_) | ((with_reducible refine .setCell ?_ ?_ _); rotate_left; focus (first | (left; simp; done) | (right; simp; (first | done | omega)))) | with_reducible (first | assumption | exact .refl _ _ | refine .trans0 ?_ ‹_›)))⟩, F03.alloc _⟩))
  case rest =>
    obtain ⟨xb, rfl, rfl, ⟨A3, cap3, hbx, hv3⟩, F3⟩ := hcut
    have hob3 := ((FW.trans0 F3).cell hobl (by simp)).trans hob
    have hb3 := F3.at0 hb2
    obtain ⟨y0, y1, y2, y3, y4⟩ := blk3 hb3
    obtain ⟨x0, x1, x2, x3, x4, x5⟩ := blk4 hbx
    go_wp2_with (refine (HP.out _ _ (hv3.keep (by repeat (first | with_reducible (first | refine .alloc ?_ _ | refine .drewN ?_ _ | refine .drew ?_) | ((with_reducible refine .setCell ?_ ?_ _); rotate_left; focus (first | (left; simp; done) | (right; simp; (first | done | omega)))) | with_reducible (first | assumption | exact .refl _ _ | refine .trans0 ?_ ‹_›))))).mono ?_; rintro e w4 ⟨rfl, F4⟩; have F04 : Frm [] wc w4 := Frm.trans0 (by repeat (first | with_reducible (first | refine .alloc ?_ _ | refine .drewN ?_ _ | refine .drew ?_) | ((with_reducible refine .setCell ?_ ?_ _); rotate_left; focus (first | (left; simp; done) | (right; simp; (first | done | omega)))) | with_reducible (first | assumption | exact .refl _ _ | refine .trans0 ?_ ‹_›))) F4; have hb4 := F04.at0 hb3; obtain ⟨z0, z1, z2, z3, z4⟩ := blk3 hb4)
    have hz := told_store hb4 (.bool (p q.1)) (.int .i64 q.2) (.int .i64 0)
    obtain ⟨hz1, hz2⟩ := hz
    generalize World.setCell (World.setCell _ _ _) _ _ = W5 at *
    obtain ⟨r0, r1, r2, r3, r4⟩ := blk3 hz1
    refine bodyPost_ret (v := toldV R) (by simp [toldV, results, Try.results56, go_sem, r0, r1, r2, HT.out]) rfl ?_
    exact ⟨rfl, ((FW.trans0 F3).trans0 F04).trans hz2 (fun b hb => by rw [List.mem_singleton.1 hb]; exact .inr (Nat.le_refl _))⟩
end Go.Proofs.Ytkiofaojokofbaa
namespace Go.Proofs.Ytkiofaojokofbaa
open Go.RowKit

def cmpS (a b : ByteArray) : Int := if Op.bytesLess a.toList b.toList = true then -1 else if (a.toList == b.toList) = true then 0 else 1
def cmpI (a b : Int) : Int := if a < b then -1 else if b < a then 1 else 0
theorem nan_int (a : Int) (w : World) : Calls Try.prog 86 #[.int .i64 a] w fun e w' => e = .returned (.bool false) ∧ w = w' := by
  go_enter Try.func86, Try.ntmps86
  go_wp2
  go_ret
  simp
theorem nan_i64 (a : Int) (w : World) : Calls Try.prog 87 #[.int .i64 a] w fun e w' => e = .returned (.bool false) ∧ w = w' := by
  go_enter Try.func87, Try.ntmps87
  go_wp2
  go_ret
  simp
theorem nan_str (a : ByteArray) (w : World) : Calls Try.prog 88 #[.string a] w fun e w' => e = .returned (.bool false) ∧ w = w' := by
  go_enter Try.func88, Try.ntmps88
  go_wp2
  go_ret
  simp
theorem cmp_int (a b : Int) (w : World) : Calls Try.prog 75 #[.int .i64 a, .int .i64 b] w fun e w' => e = .returned (.int .i64 (cmpI a b)) ∧ w = w' := by
  go_enter Try.func75, Try.ntmps75
  go_wp2_with (go_at_call 86; refine (nan_int _ _).mono ?_; rintro e w' ⟨rfl, rfl⟩)
  all_goals go_ret
  all_goals (simp_all [cmpI] <;> (try omega))
theorem cmp_i64 (a b : Int) (w : World) : Calls Try.prog 76 #[.int .i64 a, .int .i64 b] w fun e w' => e = .returned (.int .i64 (cmpI a b)) ∧ w = w' := by
  go_enter Try.func76, Try.ntmps76
  go_wp2_with (go_at_call 87; refine (nan_i64 _ _).mono ?_; rintro e w' ⟨rfl, rfl⟩)
  all_goals go_ret
  all_goals (simp_all [cmpI] <;> (try omega))
theorem cmp_str (a b : ByteArray) (w : World) : Calls Try.prog 77 #[.string a, .string b] w fun e w' => e = .returned (.int .i64 (cmpS a b)) ∧ w = w' := by
  go_enter Try.func77, Try.ntmps77
  go_wp2_with (go_at_call 88; refine (nan_str _ _).mono ?_; rintro e w' ⟨rfl, rfl⟩)
  all_goals go_ret
  all_goals simp_all [cmpS]

/-- The first that isn't 0. -/
def orI : List Int → Int
  | [] => 0
  | a :: l => if a = 0 then orI l else a
theorem orI_drop (l : List Int) (j : Nat) (h : j < l.length) : orI (l.drop j) = if l[j] = 0 then orI (l.drop (j + 1)) else l[j] := by
  rw [List.drop_eq_getElem_cons h, orI]
theorem cmp_or (b : Nat) (l : List Int) (n : Nat) (hn : n = l.length) (ty : TypeId) (w : World) (hb : w.heap[b]? = some (.cells (l.map (Value.int .i64)).toArray ty (0, 0))) (hl : l.length ≤ 1048576) :
    Calls Try.prog 74 #[.slice (some ⟨b, 0, none⟩) n n] w fun e w' => e = .returned (.int .i64 (orI l)) ∧ w = w' := by
  subst hn
  have hc : ∀ (j : Nat) (h : j < l.length), w.cell? ⟨b, j, none⟩ = some (.int .i64 l[j]) := fun j h => by
    simp [World.cell?, hb, h]
  have HC := Lib.hid hc
  have HO := Lib.hid (orI_drop l)
  have H0 : Hid (orI l = orI (l.drop 0)) := rfl
  clear hb hc
  generalize orI l = R at *
  go_enter Try.func74, Try.ntmps74
  go_wp2
  go_loopw [5, 8] (fun _ i wr => ∃ j : Nat, j ≤ l.length ∧ i = .int .i64 j ∧ w = wr ∧ R = orI (l.drop j)) (fun _ i _ => l.length - (intOf i).toNat)
  case atStart => exact ⟨0, Nat.zero_le _, rfl, rfl, H0.out⟩
  case round =>
    obtain ⟨j, hj, rfl, rfl, hR⟩ := hrel
    by_cases hlt : j < l.length
    · have hcell := HC.out j hlt
      rw [HO.out j hlt] at hR
      have HR := Lib.hid hR
      clear hR
      generalize l[j] = x at *
      have HY : ∃ y, Hid (y = orI (l.drop (j + 1))) := ⟨_, rfl⟩
      obtain ⟨y, HY⟩ := HY
      rw [show orI (l.drop (j + 1)) = y from HY.out.symm] at HR
      by_cases hx : x = 0
      · have hx' : (x == 0) = true := by simpa using hx
        go_wp2
        go_roundw
        case rel => exact ⟨j + 1, by omega, by go_num, trivial, by rw [HR.out, if_pos hx, HY.out]⟩
        case measure => simp [intOf]; omega
      · have hx' : (x == 0) = false := by simpa using hx
        go_wp2
        go_ret
        exact ⟨ret_int (by rw [HR.out, if_neg hx]), rfl⟩
    · have : j = l.length := by omega
      subst this
      go_wp2
      go_ret
      exact ⟨ret_int (by rw [hR]; simp [orI]), rfl⟩
end Go.Proofs.Ytkiofaojokofbaa
namespace Go.Proofs.Ytkiofaojokofbaa
open Go.RowKit

def bare0 (k n : Int) (s : ByteArray) (m : Nat) (k2 n2 : Int) (s2 : ByteArray) (m2 : Nat) : Int :=
  if k = k2 ∧ (k = 1 ∨ k = 2) then cmpI n n2
  else if k = k2 ∧ k = 3 then orI [cmpI m m2, cmpS s s2]
  else orI [cmpI k k2, cmpI m m2, cmpI n n2, cmpS s s2]
mutual
def bareF : Term → Term → Int
  | .mk k n s ts, u => if bare0 k n s ts.length u.kind u.n u.s u.kids.length = 0 ∧ k ≠ 1 ∧ k ≠ 2 then bareL ts u.kids else bare0 k n s ts.length u.kind u.n u.s u.kids.length
def bareL : List Term → List Term → Int
  | [], _ => 0
  | t :: ts, us => match us with
    | [] => 0
    | u :: us => if bareF t u = 0 then bareL ts us else bareF t u
end
theorem cmpI_zero {a b : Int} : cmpI a b = 0 ↔ a = b := by
  unfold cmpI
  constructor
  · intro h; split at h; · cases h
    split at h; · cases h
    omega
  · rintro rfl; simp
theorem orI_zero {a : Int} {l : List Int} : orI (a :: l) = 0 ↔ a = 0 ∧ orI l = 0 := by
  rw [orI]
  split
  · rename_i h; simp [h]
  · rename_i h; simp [h]
theorem bare0_lens {k n : Int} {s : ByteArray} {m : Nat} {k2 n2 : Int} {s2 : ByteArray} {m2 : Nat} (h : bare0 k n s m k2 n2 s2 m2 = 0) (h1 : k ≠ 1) (h2 : k ≠ 2) : m = m2 := by
  unfold bare0 at h
  rw [if_neg (by simp [h1, h2])] at h
  split at h
  · have := cmpI_zero.1 (orI_zero.1 h).1; omega
  · have := cmpI_zero.1 (orI_zero.1 (orI_zero.1 h).2).1; omega
theorem bareL_step (ts us : List Term) (j : Nat) (h1 : j < ts.length) (h2 : j < us.length) : bareL (ts.drop j) (us.drop j) = if bareF ts[j] us[j] = 0 then bareL (ts.drop (j + 1)) (us.drop (j + 1)) else bareF ts[j] us[j] := by
  rw [List.drop_eq_getElem_cons h1, List.drop_eq_getElem_cons h2, bareL]

/-- The five ways that the tests go. -/
theorem bare_ways (k n : Int) (s : ByteArray) (m : Nat) (k2 n2 : Int) (s2 : ByteArray) (m2 : Nat) (x x3 x2 : Int) (hx : orI [cmpI k k2, cmpI m m2, cmpI n n2, cmpS s s2] = x) (hx3 : orI [cmpI m m2, cmpS s s2] = x3) (hx2 : cmpI n n2 = x2) :
    ((k == k2) = true ∧ (k == 1) = true ∧ (k == 2) = false ∧ (k == 3) = false ∧ bare0 k n s m k2 n2 s2 m2 = x2) ∨
    ((k == k2) = true ∧ (k == 1) = false ∧ (k == 2) = true ∧ (k == 3) = false ∧ bare0 k n s m k2 n2 s2 m2 = x2) ∨
    ((k == k2) = true ∧ (k == 1) = false ∧ (k == 2) = false ∧ (k == 3) = true ∧ bare0 k n s m k2 n2 s2 m2 = x3) ∨
    ((k == k2) = true ∧ (k == 1) = false ∧ (k == 2) = false ∧ (k == 3) = false ∧ bare0 k n s m k2 n2 s2 m2 = x) ∨
    ((k == k2) = false ∧ (x == 0) = false ∧ bare0 k n s m k2 n2 s2 m2 = x) := by
  by_cases h : k = k2
  · by_cases h1 : k = 1
    · refine .inl ⟨by simpa using h, by simpa using h1, by simp [h1], by simp [h1], ?_⟩
      unfold bare0; rw [if_pos ⟨h, .inl h1⟩]; exact hx2
    by_cases h2 : k = 2
    · refine .inr (.inl ⟨by simpa using h, by simp [h2], by simpa using h2, by simp [h2], ?_⟩)
      unfold bare0; rw [if_pos ⟨h, .inr h2⟩]; exact hx2
    by_cases h3 : k = 3
    · refine .inr (.inr (.inl ⟨by simpa using h, by simp [h3], by simp [h3], by simpa using h3, ?_⟩))
      unfold bare0; rw [if_neg (by simp [h1, h2]), if_pos ⟨h, h3⟩]; exact hx3
    · refine .inr (.inr (.inr (.inl ⟨by simpa using h, by simpa using h1, by simpa using h2, by simpa using h3, ?_⟩)))
      unfold bare0; rw [if_neg (by simp [h1, h2]), if_neg (by simp [h3])]; exact hx
  · refine .inr (.inr (.inr (.inr ⟨by simpa using h, ?_, ?_⟩)))
    · rw [← hx]
      cases hq : (orI [cmpI k k2, cmpI m m2, cmpI n n2, cmpS s s2] == 0) with
      | false => rfl
      | true => exact absurd (cmpI_zero.1 (orI_zero.1 (by simpa using hq)).1) h
    · unfold bare0; rw [if_neg (by simp [h]), if_neg (by simp [h])]; exact hx

set_option maxRecDepth 100000 in
set_option maxHeartbeats 4000000 in
theorem order_bare : ∀ (a b : Term) (F : List Nat) (va vb : Value) (w : World), TermV F w a va → TermV F w b vb →
    Calls Try.prog 63 #[va, vb] w fun e w' => e = .returned (.int .i64 (bareF a b)) ∧ Frm [] w w' := by
  intro a
  induction a using Term.induct with
  | h k n s ts ih =>
    intro b F va vb w ha hb
    have IH := Lib.hid ih
    clear ih
    obtain ⟨k2, n2, s2, us⟩ := b
    obtain ⟨A, ca, rfl⟩ := ha.form
    obtain ⟨B, cb, rfl⟩ := hb.form
    have ha : TermV F w (.mk k n s ts) (.agg #[.int .i64 k, .int .i64 n, .string s, .slice A ts.length ca]) := ha
    have hb : TermV F w (.mk k2 n2 s2 us) (.agg #[.int .i64 k2, .int .i64 n2, .string s2, .slice B us.length cb]) := hb
    show Calls Try.prog 63 #[.agg #[.int .i64 k, .int .i64 n, .string s, .slice A ts.length ca], .agg #[.int .i64 k2, .int .i64 n2, .string s2, .slice B us.length cb]] w _
    obtain ⟨hkA, hlA⟩ := ha.kidsOf
    obtain ⟨hkB, hlB⟩ := hb.kidsOf
    have HB0 : Hid (bareF (.mk k n s ts) (.mk k2 n2 s2 us) = if bare0 k n s ts.length k2 n2 s2 us.length = 0 ∧ k ≠ 1 ∧ k ≠ 2 then bareL ts us else bare0 k n s ts.length k2 n2 s2 us.length) := by show _ = _; rw [bareF]; rfl
    generalize bareF (.mk k n s ts) (.mk k2 n2 s2 us) = R at *
    have HLEN := Lib.hid (@bare0_lens k n s ts.length k2 n2 s2 us.length)
    have HWAYS : ∃ x x3 x2, orI [cmpI k k2, cmpI ts.length us.length, cmpI n n2, cmpS s s2] = x ∧ orI [cmpI ts.length us.length, cmpS s s2] = x3 ∧ cmpI n n2 = x2 := ⟨_, _, _, rfl, rfl, rfl⟩
    obtain ⟨x, x3, x2, hx, hx3, hx2⟩ := HWAYS
    have HW := Lib.hid (bare_ways k n s ts.length k2 n2 s2 us.length x x3 x2 hx hx3 hx2)
    generalize bare0 k n s ts.length k2 n2 s2 us.length = z at *
    have HX := Lib.hid hx
    have HX3 := Lib.hid hx3
    have HX2 := Lib.hid hx2
    clear hx hx3 hx2
    have hOR4 : ∀ W : World, W.heap[w.heap.size + 1 + 1]? = some (.cells #[.int .i64 (cmpI k k2), .int .i64 (cmpI ts.length us.length), .int .i64 (cmpI n n2), .int .i64 (cmpS s s2)] 3 (0, 0)) →
        Calls Try.prog 74 #[.slice (some ⟨w.heap.size + 1 + 1, 0, none⟩) 4 4] W fun e w' => e = .returned (.int .i64 x) ∧ W = w' := fun W hW => by
      rw [← HX.out]; exact cmp_or _ [cmpI k k2, cmpI ts.length us.length, cmpI n n2, cmpS s s2] 4 rfl _ W hW (by simp)
    go_enter Try.func63, Try.ntmps63
    go_wp2
    go_step3
    go_wp2
    generalize hW : World.alloc _ _ = W
    have hb1 : W.heap[w.heap.size]? = some (.cells #[.int .i64 k, .int .i64 n, .string s, .slice A ts.length ca] 26 (0, 0)) := by subst hW; exact (by repeat (first | rw [heap_alloc_at] | rw [heap_size_alloc] | rfl | rw [if_pos (by omega)] | rw [if_neg (by omega)]))
    have hb2 : W.heap[w.heap.size + 1]? = some (.cells #[.int .i64 k2, .int .i64 n2, .string s2, .slice B us.length cb] 26 (0, 0)) := by subst hW; exact (by repeat (first | rw [heap_alloc_at] | rw [heap_size_alloc] | rfl | rw [if_pos (by omega)] | rw [if_neg (by omega)]))
    have FW : Frm [] w W := by subst hW; exact (by repeat (first | with_reducible (first | refine .alloc ?_ _ | refine .drewN ?_ _ | refine .drew ?_) | ((with_reducible refine .setCell ?_ ?_ _); rotate_left; focus (first | (left; simp; done) | (right; simp; (first | done | omega)))) | with_reducible (first | assumption | exact .refl _ _ | refine .trans0 ?_ ‹_›)))
    have hsW : W.heap.size = w.heap.size + 1 + 1 := by subst hW; simp
    clear hW
    obtain ⟨x0, x1, x2', x3', x4, x5⟩ := blk4 hb1
    obtain ⟨y0, y1, y2, y3, y4, y5⟩ := blk4 hb2
    refine wp_region_U (fun w' => w'.cell? ⟨w.heap.size, 0, none⟩ = some (.int .i64 k) ∧ w'.cell? ⟨w.heap.size, 1, none⟩ = some (.int .i64 n) ∧ w'.cell? ⟨w.heap.size, 2, none⟩ = some (.string s) ∧ w'.cell? ⟨w.heap.size, 3, none⟩ = some (.slice A ts.length ca) ∧ w'.cell? ⟨w.heap.size + 1, 0, none⟩ = some (.int .i64 k2) ∧ w'.cell? ⟨w.heap.size + 1, 1, none⟩ = some (.int .i64 n2) ∧ w'.cell? ⟨w.heap.size + 1, 2, none⟩ = some (.string s2) ∧ w'.cell? ⟨w.heap.size + 1, 3, none⟩ = some (.slice B us.length cb)) (fun i => Nat.blt i 21) (by kernel_rfl) ?rgnS1 (fun hHeld => ?rgnB1)
    case rgnS1 => (first | (dsimp only; go_keep) | go_keep)
    case' rgnB1 => skip
    refine Pend.start [0, 1, 2, 3, 5, 6, 7, 8, 9, 10, 12, 13, 14, 15, 17, 18, 19, 20] ?_
    iterate 18 (refine tk (v := ?_) rfl (by kernel_rfl) (by rfl) (fun _ _ _ h => h) (by assumption) ?_ ?_; rotate_left; (focus (intro wq hSw; (try dsimp only at hSw); go_simp; (first | done | with_reducible rfl))); try simp only [Act.put, List.setIfInBounds_toArray, List.set_cons_zero, List.set_cons_succ])
    refine Pend.done ?_
    refine one 4 (by kernel_rfl) rfl (fun K' hK => ?_)
    (go_simp; refine (cmp_int _ _ _).mono ?_; rintro e w2 ⟨rfl, rfl⟩; dsimp only)
    refine hK.out _ _ (fun _ => ?rgnS2) (fun hH => ?rgnB2)
    case rgnS2 => (first | (dsimp only; go_keep) | go_keep)
    case' rgnB2 => ((try clear hHeld); have hHeld := hH (by decide); clear hH)
    clear hK K'
    try simp only [Act.put, List.setIfInBounds_toArray, List.set_cons_zero, List.set_cons_succ]
    refine one 11 (by kernel_rfl) rfl (fun K' hK => ?_)
    (go_simp; refine (cmp_int _ _ _).mono ?_; rintro e w2 ⟨rfl, rfl⟩; dsimp only)
    refine hK.out _ _ (fun _ => ?rgnS3) (fun hH => ?rgnB3)
    case rgnS3 => (first | (dsimp only; go_keep) | go_keep)
    case' rgnB3 => ((try clear hHeld); have hHeld := hH (by decide); clear hH)
    clear hK K'
    try simp only [Act.put, List.setIfInBounds_toArray, List.set_cons_zero, List.set_cons_succ]
    refine one 16 (by kernel_rfl) rfl (fun K' hK => ?_)
    (go_simp; refine (cmp_i64 _ _ _).mono ?_; rintro e w2 ⟨rfl, rfl⟩; dsimp only)
    refine hK.out _ _ (fun _ => ?rgnS4) (fun hH => ?rgnB4)
    case rgnS4 => (first | (dsimp only; go_keep) | go_keep)
    case' rgnB4 => ((try clear hHeld); have hHeld := hH (by decide); clear hH)
    clear hK K'
    try simp only [Act.put, List.setIfInBounds_toArray, List.set_cons_zero, List.set_cons_succ]
    refine one 21 (by kernel_rfl) rfl (fun K' hK => ?_)
    (go_simp; refine (cmp_str _ _ _).mono ?_; rintro e w2 ⟨rfl, rfl⟩; dsimp only)
    refine hK.out _ _ (fun h => absurd h (by decide)) (fun _ => ?_)
    clear hK K'
    try simp only [Act.put, List.setIfInBounds_toArray, List.set_cons_zero, List.set_cons_succ]
    refine one 22 (by kernel_rfl) rfl (fun K' hK => ?_)
    (rw [if_pos (by rfl)]; go_simp)
    refine hK.out _ _ (fun h => absurd h (by decide)) (fun _ => ?_)
    clear hK K'
    try simp only [Act.put, List.setIfInBounds_toArray, List.set_cons_zero, List.set_cons_succ]
    refine one 23 (by kernel_rfl) rfl (fun K' hK => ?_)
    (go_simp; refine (hOR4 _ (by rw [← hsW]; exact alloc_heap_new W _)).mono ?_; rintro e w2 ⟨rfl, rfl⟩; dsimp only)
    refine hK.out _ _ (fun h => absurd h (by decide)) (fun _ => ?_)
    clear hK K'
    try simp only [Act.put, List.setIfInBounds_toArray, List.set_cons_zero, List.set_cons_succ]
    refine Pend.start [24] ?_
    (refine tkl (v := ?_) rfl (by kernel_rfl) (by rfl) (fun _ _ _ h => h) ?_ ?_; rotate_left; (focus (intro wq hSw; go_simp; (first | done | with_reducible rfl))); try simp only [Act.put, List.setIfInBounds_toArray, List.set_cons_zero, List.set_cons_succ])
    refine Pend.done ?_
    refine wpAnyU_done (by kernel_rfl) ?_ _
    generalize hWX : World.drew _ = WX
    have FX : Frm [] W WX := by subst hWX; exact (by repeat (first | with_reducible (first | refine .alloc ?_ _ | refine .drewN ?_ _ | refine .drew ?_) | ((with_reducible refine .setCell ?_ ?_ _); rotate_left; focus (first | (left; simp; done) | (right; simp; (first | done | omega)))) | with_reducible (first | assumption | exact .refl _ _ | refine .trans0 ?_ ‹_›)))
    have hb1 := FX.at0 hb1
    have hb2 := FX.at0 hb2
    have FwX : Frm [] w WX := FW.trans0 FX
    have hsX : WX.heap.size = w.heap.size + 1 + 1 + 1 := by subst hWX; simp [hsW]
    clear hWX hOR4 x0 x1 x2' x3' x4 x5 y0 y1 y2 y3 y4 y5 hHeld
    have hOR2 : ∀ W : World, W.heap[w.heap.size + 1 + 1 + 1]? = some (.cells #[.int .i64 (cmpI ts.length us.length), .int .i64 (cmpS s s2)] 3 (0, 0)) →
        Calls Try.prog 74 #[.slice (some ⟨w.heap.size + 1 + 1 + 1, 0, none⟩) 2 2] W fun e w' => e = .returned (.int .i64 x3) ∧ W = w' := fun W hW => by
      rw [← HX3.out]; exact cmp_or _ [cmpI ts.length us.length, cmpS s s2] 2 rfl _ W hW (by simp)
    obtain ⟨x0, x1, x2', x3', x4, x5⟩ := blk4 hb1
    obtain ⟨y0, y1, y2, y3, y4, y5⟩ := blk4 hb2
    rcases HW.out with ⟨e1, e2, e3, e4, hz⟩ | ⟨e1, e2, e3, e4, hz⟩ | ⟨e1, e2, e3, e4, hz⟩ | ⟨e1, e2, e3, e4, hz⟩ | ⟨e1, e5, hz⟩
    · have HR : Hid (R = x2) := by show _ = _; rw [HB0.out, if_neg (by simp at e2; simp [e2]), hz]
      clear hz
      cases e5 : (x2 == 0)
      all_goals
        go_wp2_with (go_at_call 76; refine (cmp_i64 _ _ _).mono ?_; rw [HX2.out]; rintro e w4 ⟨rfl, rfl⟩)
      all_goals (try simp only [Exit.noGoto])
      all_goals go_ret
      all_goals (first | exact ⟨ret_int HR.out.symm, FwX⟩ | exact ⟨ret_int (by rw [HR.out]; simp at e5; omega), FwX⟩)
    · have HR : Hid (R = x2) := by show _ = _; rw [HB0.out, if_neg (by simp at e3; simp [e3]), hz]
      clear hz
      cases e5 : (x2 == 0)
      all_goals
        go_wp2_with (go_at_call 76; refine (cmp_i64 _ _ _).mono ?_; rw [HX2.out]; rintro e w4 ⟨rfl, rfl⟩)
      all_goals (try simp only [Exit.noGoto])
      all_goals go_ret
      all_goals (first | exact ⟨ret_int HR.out.symm, FwX⟩ | exact ⟨ret_int (by rw [HR.out]; simp at e5; omega), FwX⟩)
    · have HR : Hid (x3 ≠ 0 → R = x3) := fun h0 => by rw [HB0.out, if_neg (by rw [hz]; exact fun h => h0 h.1), hz]
      have HRL : Hid (x3 = 0 → R = bareL ts us ∧ ts.length = us.length) := fun h0 => by
        have h1 : k ≠ 1 := by simpa using e2
        have h2 : k ≠ 2 := by simpa using e3
        exact ⟨by rw [HB0.out, if_pos ⟨hz.trans h0, h1, h2⟩], HLEN.out (hz.trans h0) h1 h2⟩
      clear hz
      go_wp2
      refine wp_region_U (fun w' => w'.cell? ⟨w.heap.size, 2, none⟩ = some (.string s) ∧ w'.cell? ⟨w.heap.size, 3, none⟩ = some (.slice A ts.length ca) ∧ w'.cell? ⟨w.heap.size + 1, 2, none⟩ = some (.string s2) ∧ w'.cell? ⟨w.heap.size + 1, 3, none⟩ = some (.slice B us.length cb)) (fun i => Nat.blt i 11) (by kernel_rfl) ?rgnS5 (fun hHeld => ?rgnB5)
      case rgnS5 => (first | (dsimp only; go_keep) | go_keep)
      case' rgnB5 => skip
      refine Pend.start [0, 1, 2, 3, 4, 5, 7, 8, 9, 10] ?_
      iterate 10 (refine tk (v := ?_) rfl (by kernel_rfl) (by rfl) (fun _ _ _ h => h) (by assumption) ?_ ?_; rotate_left; (focus (intro wq hSw; (try dsimp only at hSw); go_simp; (first | done | with_reducible rfl))); try simp only [Act.put, List.setIfInBounds_toArray, List.set_cons_zero, List.set_cons_succ])
      refine Pend.done ?_
      refine one 6 (by kernel_rfl) rfl (fun K' hK => ?_)
      (go_simp; refine (cmp_int _ _ _).mono ?_; rintro e w2 ⟨rfl, rfl⟩; dsimp only)
      refine hK.out _ _ (fun _ => ?rgnS6) (fun hH => ?rgnB6)
      case rgnS6 => (first | (dsimp only; go_keep) | go_keep)
      case' rgnB6 => ((try clear hHeld); have hHeld := hH (by decide); clear hH)
      clear hK K'
      try simp only [Act.put, List.setIfInBounds_toArray, List.set_cons_zero, List.set_cons_succ]
      refine one 11 (by kernel_rfl) rfl (fun K' hK => ?_)
      (go_simp; refine (cmp_str _ _ _).mono ?_; rintro e w2 ⟨rfl, rfl⟩; dsimp only)
      refine hK.out _ _ (fun h => absurd h (by decide)) (fun _ => ?_)
      clear hK K'
      try simp only [Act.put, List.setIfInBounds_toArray, List.set_cons_zero, List.set_cons_succ]
      refine one 12 (by kernel_rfl) rfl (fun K' hK => ?_)
      (rw [if_pos (by rfl)]; go_simp)
      refine hK.out _ _ (fun h => absurd h (by decide)) (fun _ => ?_)
      clear hK K'
      try simp only [Act.put, List.setIfInBounds_toArray, List.set_cons_zero, List.set_cons_succ]
      refine one 13 (by kernel_rfl) rfl (fun K' hK => ?_)
      (go_simp; refine (hOR2 _ (by rw [← hsX]; exact alloc_heap_new WX _)).mono ?_; rintro e w2 ⟨rfl, rfl⟩; dsimp only)
      refine hK.out _ _ (fun h => absurd h (by decide)) (fun _ => ?_)
      clear hK K'
      try simp only [Act.put, List.setIfInBounds_toArray, List.set_cons_zero, List.set_cons_succ]
      refine Pend.start [14] ?_
      (refine tkl (v := ?_) rfl (by kernel_rfl) (by rfl) (fun _ _ _ h => h) ?_ ?_; rotate_left; (focus (intro wq hSw; go_simp; (first | done | with_reducible rfl))); try simp only [Act.put, List.setIfInBounds_toArray, List.set_cons_zero, List.set_cons_succ])
      refine Pend.done ?_
      refine wpAnyU_done (by kernel_rfl) ?_ _
      generalize hWY : World.drew _ = WY
      have FY : Frm [] WX WY := by subst hWY; exact (by repeat (first | with_reducible (first | refine .alloc ?_ _ | refine .drewN ?_ _ | refine .drew ?_) | ((with_reducible refine .setCell ?_ ?_ _); rotate_left; focus (first | (left; simp; done) | (right; simp; (first | done | omega)))) | with_reducible (first | assumption | exact .refl _ _ | refine .trans0 ?_ ‹_›)))
      have hb1 := FY.at0 hb1
      have hb2 := FY.at0 hb2
      have FwX := FwX.trans0 FY
      clear hWY hOR2 x0 x1 x2' x3' x4 x5 y0 y1 y2 y3 y4 y5 hHeld
      obtain ⟨x0, x1, x2', x3', x4, x5⟩ := blk4 hb1
      obtain ⟨y0, y1, y2, y3, y4, y5⟩ := blk4 hb2
      by_cases e5 : x3 = 0
      · clear HX3 HR
        subst e5
        obtain ⟨hRL, hlen⟩ := HRL.out rfl
        have HRB := Lib.hid hRL
        have HLE := Lib.hid hlen
        have HST := Lib.hid (bareL_step ts us)
        clear hRL hlen
        go_wp2
        go_step3
        go_wp2
        clear x0 x1 x2' x3' x4 x5 y0 y1 y2 y3 y4 y5
        go_loopw [5, 6, 91] (fun f _ c wr => ∃ j : Nat, j ≤ ts.length ∧ c = .int .i64 j ∧ Frm [] WY wr ∧ f = .int .i64 0 ∧ R = bareL (ts.drop j) (us.drop j)) (fun _ _ c _ => ts.length - (intOf c).toNat)
        case atStart => exact ⟨0, Nat.zero_le _, rfl, Frm.refl _ _, rfl, HRB.out⟩
        case round =>
          obtain ⟨j, hj, rfl, hF, rfl, hR⟩ := hrel
          by_cases hlt : j < ts.length
          · have hlu : j < us.length := by have := HLE.out; omega
            obtain ⟨b', off, A', cap', rfl, hbb1, hbb2, e0, e1', e2', e3', hkid⟩ := (hkA.keep (FwX.trans0 hF)).kid j hlt
            obtain ⟨d', ofg, B', cbp', rfl, hdd1, hdd2, g0, g1, g2, g3, hkjd⟩ := (hkB.keep (FwX.trans0 hF)).kid j hlu
            rw [HST.out j hlt hlu] at hR
            have HM : Hid (ts[j] ∈ ts) := List.getElem_mem hlt
            have HR := Lib.hid hR
            clear hR
            have HY : ∃ y, Hid (y = bareL (ts.drop (j + 1)) (us.drop (j + 1))) := ⟨_, rfl⟩
            obtain ⟨y, HY⟩ := HY
            rw [show bareL (ts.drop (j + 1)) (us.drop (j + 1)) = y from HY.out.symm] at HR
            generalize ts[j] = t at *
            generalize us[j] = u at *
            have HQ : ∃ q, Hid (q = bareF t u) := ⟨_, rfl⟩
            obtain ⟨q, HQ⟩ := HQ
            rw [show bareF t u = q from HQ.out.symm] at HR
            obtain ⟨x0, x1, x2', x3', x4, x5⟩ := blk4 (hF.at0 hb1)
            obtain ⟨y0, y1, y2, y3, y4, y5⟩ := blk4 (hF.at0 hb2)
            go_wp2
            refine wp_region_U (fun w' => w'.cell? ⟨w.heap.size, 3, none⟩ = some (.slice (some ⟨b', off, none⟩) ts.length ca) ∧ w'.cell? ⟨w.heap.size + 1, 3, none⟩ = some (.slice (some ⟨d', ofg, none⟩) us.length cb) ∧ w'.cell? ⟨b', off + j * 4, none⟩ = some (.int .i64 t.kind) ∧ w'.cell? ⟨b', off + j * 4 + 1, none⟩ = some (.int .i64 t.n) ∧ w'.cell? ⟨b', off + j * 4 + 2, none⟩ = some (.string t.s) ∧ w'.cell? ⟨b', off + j * 4 + 3, none⟩ = some (.slice A' t.kids.length cap') ∧ w'.cell? ⟨d', ofg + j * 4, none⟩ = some (.int .i64 u.kind) ∧ w'.cell? ⟨d', ofg + j * 4 + 1, none⟩ = some (.int .i64 u.n) ∧ w'.cell? ⟨d', ofg + j * 4 + 2, none⟩ = some (.string u.s) ∧ w'.cell? ⟨d', ofg + j * 4 + 3, none⟩ = some (.slice B' u.kids.length cbp')) (fun i => Nat.blt i 10) (by kernel_rfl) ?rgnS7 (fun hHeld => ?rgnB7)
            case rgnS7 => (first | (dsimp only; go_keep) | go_keep)
            case' rgnB7 => skip
            refine Pend.start [0, 1, 2, 3, 4, 5, 6, 7, 8, 9] ?_
            iterate 10 (refine tk (v := ?_) rfl (by kernel_rfl) (by rfl) (fun _ _ _ h => h) (by assumption) ?_ ?_; rotate_left; (focus (intro wq hSw; (try dsimp only at hSw); go_simp; (first | done | with_reducible rfl))); try simp only [Act.put, List.setIfInBounds_toArray, List.set_cons_zero, List.set_cons_succ])
            refine Pend.done ?_
            refine one 10 (by kernel_rfl) rfl (fun K' hK => ?_)
            (go_simp; refine (IH.out t HM.out u F _ _ _ (hkid.keep (by repeat (first | with_reducible (first | refine .alloc ?_ _ | refine .drewN ?_ _ | refine .drew ?_) | ((with_reducible refine .setCell ?_ ?_ _); rotate_left; focus (first | (left; simp; done) | (right; simp; (first | done | omega)))) | with_reducible (first | assumption | exact .refl _ _ | refine .trans0 ?_ ‹_›)))) (hkjd.keep (by repeat (first | with_reducible (first | refine .alloc ?_ _ | refine .drewN ?_ _ | refine .drew ?_) | ((with_reducible refine .setCell ?_ ?_ _); rotate_left; focus (first | (left; simp; done) | (right; simp; (first | done | omega)))) | with_reducible (first | assumption | exact .refl _ _ | refine .trans0 ?_ ‹_›))))).mono ?_; rw [← HQ.out]; rintro e w4 ⟨rfl, F4⟩; dsimp only)
            refine hK.out _ _ (fun h => absurd h (by decide)) (fun _ => ?_)
            clear hK K'
            try simp only [Act.put, List.setIfInBounds_toArray, List.set_cons_zero, List.set_cons_succ]
            refine Pend.start [11] ?_
            (refine tkl (v := ?_) rfl (by kernel_rfl) (by rfl) (fun _ _ _ h => h) ?_ ?_; rotate_left; (focus (intro wq hSw; go_simp; (first | done | with_reducible rfl))); try simp only [Act.put, List.setIfInBounds_toArray, List.set_cons_zero, List.set_cons_succ])
            refine Pend.done ?_
            refine wpAnyU_done (by kernel_rfl) ?_ _
            have F5 : Frm [] WY w4 := hF.trans0 ((Frm.refl [] wr).drew.trans0 F4)
            by_cases hq : q = 0
            · have hq' : (q == 0) = true := by simpa using hq
              go_wp2
              exact ⟨⟨j + 1, by omega, by go_num, F5, by rw [hq], by rw [HR.out, if_pos hq, HY.out]⟩, by simp [intOf]; omega⟩
            · have hq' : (q == 0) = false := by simpa using hq
              go_wp2
              (try simp only [Exit.noGoto])
              go_ret
              exact ⟨ret_int (by rw [HR.out, if_neg hq]), FwX.trans0 F5⟩
          · have : j = ts.length := by omega
            subst this
            go_wp2
            (try simp only [Exit.noGoto])
            go_ret
            exact ⟨ret_int (by rw [hR, List.drop_length]; simp [bareL]), FwX.trans0 hF⟩
      · go_wp2
        all_goals (try simp only [Exit.noGoto])
        all_goals go_ret
        all_goals exact ⟨ret_int (HR.out e5).symm, FwX⟩
    · have HR : Hid (x ≠ 0 → R = x) := fun h0 => by rw [HB0.out, if_neg (by rw [hz]; exact fun h => h0 h.1), hz]
      have HRL : Hid (x = 0 → R = bareL ts us ∧ ts.length = us.length) := fun h0 => by
        have h1 : k ≠ 1 := by simpa using e2
        have h2 : k ≠ 2 := by simpa using e3
        exact ⟨by rw [HB0.out, if_pos ⟨hz.trans h0, h1, h2⟩], HLEN.out (hz.trans h0) h1 h2⟩
      clear hz
      by_cases e5 : x = 0
      · clear HX HR
        subst e5
        obtain ⟨hRL, hlen⟩ := HRL.out rfl
        have HRB := Lib.hid hRL
        have HLE := Lib.hid hlen
        have HST := Lib.hid (bareL_step ts us)
        clear hRL hlen
        go_wp2
        go_step3
        go_wp2
        clear x0 x1 x2' x3' x4 x5 y0 y1 y2 y3 y4 y5
        go_loopw [5, 6, 91] (fun f _ c wr => ∃ j : Nat, j ≤ ts.length ∧ c = .int .i64 j ∧ Frm [] WX wr ∧ f = .int .i64 0 ∧ R = bareL (ts.drop j) (us.drop j)) (fun _ _ c _ => ts.length - (intOf c).toNat)
        case atStart => exact ⟨0, Nat.zero_le _, rfl, Frm.refl _ _, rfl, HRB.out⟩
        case round =>
          obtain ⟨j, hj, rfl, hF, rfl, hR⟩ := hrel
          by_cases hlt : j < ts.length
          · have hlu : j < us.length := by have := HLE.out; omega
            obtain ⟨b', off, A', cap', rfl, hbb1, hbb2, e0, e1', e2', e3', hkid⟩ := (hkA.keep (FwX.trans0 hF)).kid j hlt
            obtain ⟨d', ofg, B', cbp', rfl, hdd1, hdd2, g0, g1, g2, g3, hkjd⟩ := (hkB.keep (FwX.trans0 hF)).kid j hlu
            rw [HST.out j hlt hlu] at hR
            have HM : Hid (ts[j] ∈ ts) := List.getElem_mem hlt
            have HR := Lib.hid hR
            clear hR
            have HY : ∃ y, Hid (y = bareL (ts.drop (j + 1)) (us.drop (j + 1))) := ⟨_, rfl⟩
            obtain ⟨y, HY⟩ := HY
            rw [show bareL (ts.drop (j + 1)) (us.drop (j + 1)) = y from HY.out.symm] at HR
            generalize ts[j] = t at *
            generalize us[j] = u at *
            have HQ : ∃ q, Hid (q = bareF t u) := ⟨_, rfl⟩
            obtain ⟨q, HQ⟩ := HQ
            rw [show bareF t u = q from HQ.out.symm] at HR
            obtain ⟨x0, x1, x2', x3', x4, x5⟩ := blk4 (hF.at0 hb1)
            obtain ⟨y0, y1, y2, y3, y4, y5⟩ := blk4 (hF.at0 hb2)
            go_wp2
            refine wp_region_U (fun w' => w'.cell? ⟨w.heap.size, 3, none⟩ = some (.slice (some ⟨b', off, none⟩) ts.length ca) ∧ w'.cell? ⟨w.heap.size + 1, 3, none⟩ = some (.slice (some ⟨d', ofg, none⟩) us.length cb) ∧ w'.cell? ⟨b', off + j * 4, none⟩ = some (.int .i64 t.kind) ∧ w'.cell? ⟨b', off + j * 4 + 1, none⟩ = some (.int .i64 t.n) ∧ w'.cell? ⟨b', off + j * 4 + 2, none⟩ = some (.string t.s) ∧ w'.cell? ⟨b', off + j * 4 + 3, none⟩ = some (.slice A' t.kids.length cap') ∧ w'.cell? ⟨d', ofg + j * 4, none⟩ = some (.int .i64 u.kind) ∧ w'.cell? ⟨d', ofg + j * 4 + 1, none⟩ = some (.int .i64 u.n) ∧ w'.cell? ⟨d', ofg + j * 4 + 2, none⟩ = some (.string u.s) ∧ w'.cell? ⟨d', ofg + j * 4 + 3, none⟩ = some (.slice B' u.kids.length cbp')) (fun i => Nat.blt i 10) (by kernel_rfl) ?rgnS8 (fun hHeld => ?rgnB8)
            case rgnS8 => (first | (dsimp only; go_keep) | go_keep)
            case' rgnB8 => skip
            refine Pend.start [0, 1, 2, 3, 4, 5, 6, 7, 8, 9] ?_
            iterate 10 (refine tk (v := ?_) rfl (by kernel_rfl) (by rfl) (fun _ _ _ h => h) (by assumption) ?_ ?_; rotate_left; (focus (intro wq hSw; (try dsimp only at hSw); go_simp; (first | done | with_reducible rfl))); try simp only [Act.put, List.setIfInBounds_toArray, List.set_cons_zero, List.set_cons_succ])
            refine Pend.done ?_
            refine one 10 (by kernel_rfl) rfl (fun K' hK => ?_)
            (go_simp; refine (IH.out t HM.out u F _ _ _ (hkid.keep (by repeat (first | with_reducible (first | refine .alloc ?_ _ | refine .drewN ?_ _ | refine .drew ?_) | ((with_reducible refine .setCell ?_ ?_ _); rotate_left; focus (first | (left; simp; done) | (right; simp; (first | done | omega)))) | with_reducible (first | assumption | exact .refl _ _ | refine .trans0 ?_ ‹_›)))) (hkjd.keep (by repeat (first | with_reducible (first | refine .alloc ?_ _ | refine .drewN ?_ _ | refine .drew ?_) | ((with_reducible refine .setCell ?_ ?_ _); rotate_left; focus (first | (left; simp; done) | (right; simp; (first | done | omega)))) | with_reducible (first | assumption | exact .refl _ _ | refine .trans0 ?_ ‹_›))))).mono ?_; rw [← HQ.out]; rintro e w4 ⟨rfl, F4⟩; dsimp only)
            refine hK.out _ _ (fun h => absurd h (by decide)) (fun _ => ?_)
            clear hK K'
            try simp only [Act.put, List.setIfInBounds_toArray, List.set_cons_zero, List.set_cons_succ]
            refine Pend.start [11] ?_
            (refine tkl (v := ?_) rfl (by kernel_rfl) (by rfl) (fun _ _ _ h => h) ?_ ?_; rotate_left; (focus (intro wq hSw; go_simp; (first | done | with_reducible rfl))); try simp only [Act.put, List.setIfInBounds_toArray, List.set_cons_zero, List.set_cons_succ])
            refine Pend.done ?_
            refine wpAnyU_done (by kernel_rfl) ?_ _
            have F5 : Frm [] WX w4 := hF.trans0 ((Frm.refl [] wr).drew.trans0 F4)
            by_cases hq : q = 0
            · have hq' : (q == 0) = true := by simpa using hq
              go_wp2
              exact ⟨⟨j + 1, by omega, by go_num, F5, by rw [hq], by rw [HR.out, if_pos hq, HY.out]⟩, by simp [intOf]; omega⟩
            · have hq' : (q == 0) = false := by simpa using hq
              go_wp2
              (try simp only [Exit.noGoto])
              go_ret
              exact ⟨ret_int (by rw [HR.out, if_neg hq]), FwX.trans0 F5⟩
          · have : j = ts.length := by omega
            subst this
            go_wp2
            (try simp only [Exit.noGoto])
            go_ret
            exact ⟨ret_int (by rw [hR, List.drop_length]; simp [bareL]), FwX.trans0 hF⟩
      · go_wp2
        all_goals (try simp only [Exit.noGoto])
        all_goals go_ret
        all_goals exact ⟨ret_int (HR.out e5).symm, FwX⟩
    · have HR : Hid (R = x) := by show _ = _; rw [HB0.out, if_neg (by rw [hz]; simp at e5; simp [e5]), hz]
      have e5 : ¬ x = 0 := by simpa using e5
      clear hz
      go_wp2
      all_goals (try simp only [Exit.noGoto])
      all_goals go_ret
      all_goals exact ⟨ret_int HR.out.symm, FwX⟩
end Go.Proofs.Ytkiofaojokofbaa
namespace Go.Proofs.Ytkiofaojokofbaa
open Go.RowKit

set_option maxRecDepth 100000 in
theorem order_Compare (a b : Term) (F : List Nat) (va vb : Value) (w : World) (ha : TermV F w a va) (hb : TermV F w b vb) (hF : ∀ b, b ∈ F → b < w.heap.size) :
    Calls Try.prog 53 #[va, vb] w fun e w' => e = .returned (.int .i64 (bareF a.erase b.erase)) ∧ Frm [] w w' := by
  obtain ⟨A, ca, rfl⟩ := ha.form
  obtain ⟨B, cb, rfl⟩ := hb.form
  go_enter Try.func53, Try.ntmps53
  go_wp2
  generalize hW : World.alloc _ _ = W
  have hb1 : W.heap[w.heap.size]? = some (.cells #[.int .i64 a.kind, .int .i64 a.n, .string a.s, .slice A a.kids.length ca] 26 (0, 0)) := by subst hW; exact (by repeat (first | rw [heap_alloc_at] | rw [heap_size_alloc] | rfl | rw [if_pos (by omega)] | rw [if_neg (by omega)]))
  have hb2 : W.heap[w.heap.size + 1]? = some (.cells #[.int .i64 b.kind, .int .i64 b.n, .string b.s, .slice B b.kids.length cb] 26 (0, 0)) := by subst hW; exact (by repeat (first | rw [heap_alloc_at] | rw [heap_size_alloc] | rfl | rw [if_pos (by omega)] | rw [if_neg (by omega)]))
  have FW : Frm [] w W := by subst hW; exact (by repeat (first | with_reducible (first | refine .alloc ?_ _ | refine .drewN ?_ _ | refine .drew ?_) | ((with_reducible refine .setCell ?_ ?_ _); rotate_left; focus (first | (left; simp; done) | (right; simp; (first | done | omega)))) | with_reducible (first | assumption | exact .refl _ _ | refine .trans0 ?_ ‹_›)))
  clear hW
  obtain ⟨x0, x1, x2', x3', x4, x5⟩ := blk4 hb1
  obtain ⟨y0, y1, y2, y3, y4, y5⟩ := blk4 hb2
  refine wp_region_U (fun w' => w'.cell? ⟨w.heap.size, 0, none⟩ = some (.int .i64 a.kind) ∧ w'.cell? ⟨w.heap.size, 1, none⟩ = some (.int .i64 a.n) ∧ w'.cell? ⟨w.heap.size, 2, none⟩ = some (.string a.s) ∧ w'.cell? ⟨w.heap.size, 3, none⟩ = some (.slice A a.kids.length ca) ∧ w'.cell? ⟨w.heap.size + 1, 0, none⟩ = some (.int .i64 b.kind) ∧ w'.cell? ⟨w.heap.size + 1, 1, none⟩ = some (.int .i64 b.n) ∧ w'.cell? ⟨w.heap.size + 1, 2, none⟩ = some (.string b.s) ∧ w'.cell? ⟨w.heap.size + 1, 3, none⟩ = some (.slice B b.kids.length cb)) (fun i => Nat.blt i 3) (by kernel_rfl) ?rgnS1 (fun hHeld => ?rgnB1)
  case rgnS1 => (first | (dsimp only; go_keep) | go_keep)
  case' rgnB1 => skip
  refine Pend.start [0, 2] ?_
  iterate 2 (refine tk (v := ?_) rfl (by kernel_rfl) (by rfl) (fun _ _ _ h => h) (by assumption) ?_ ?_; rotate_left; (focus (intro wq hSw; (try dsimp only at hSw); go_simp; (first | done | with_reducible rfl))); try simp only [Act.put, List.setIfInBounds_toArray, List.set_cons_zero, List.set_cons_succ])
  refine Pend.done ?_
  refine one 1 (by kernel_rfl) rfl (fun K' hK => ?_)
  (go_simp; refine (seal_erase a F _ _ (ha.keep (by repeat (first | with_reducible (first | refine .alloc ?_ _ | refine .drewN ?_ _ | refine .drew ?_) | ((with_reducible refine .setCell ?_ ?_ _); rotate_left; focus (first | (left; simp; done) | (right; simp; (first | done | omega)))) | with_reducible (first | assumption | exact .refl _ _ | refine .trans0 ?_ ‹_›)))) (fun b hb => by have := hF b hb; have := FW.size; simp; omega)).mono ?_; rintro e w2 ⟨⟨v2, rfl, hv2⟩, F2⟩; obtain ⟨A2, cap2, rfl⟩ := hv2.form; have hb1 := F2.at0 hb1; have hb2 := F2.at0 hb2; obtain ⟨x0, x1, x2', x3', x4, x5⟩ := blk4 hb1; obtain ⟨y0, y1, y2, y3, y4, y5⟩ := blk4 hb2; dsimp only)
  refine hK.out _ _ (fun _ => ?rgnS2) (fun hH => ?rgnB2)
  case rgnS2 => (first | (dsimp only; go_keep) | go_keep)
  case' rgnB2 => ((try clear hHeld); have hHeld := hH (by decide); clear hH)
  clear hK K'
  try simp only [Act.put, List.setIfInBounds_toArray, List.set_cons_zero, List.set_cons_succ]
  refine one 3 (by kernel_rfl) rfl (fun K' hK => ?_)
  (go_simp; refine (seal_erase b F _ _ (hb.keep (by repeat (first | with_reducible (first | refine .alloc ?_ _ | refine .drewN ?_ _ | refine .drew ?_) | ((with_reducible refine .setCell ?_ ?_ _); rotate_left; focus (first | (left; simp; done) | (right; simp; (first | done | omega)))) | with_reducible (first | assumption | exact .refl _ _ | refine .trans0 ?_ ‹_›)))) (fun b hb => by have := hF b hb; have := FW.size; have := F2.size; simp at this; omega)).mono ?_; rintro e w3 ⟨⟨v3, rfl, hv3⟩, F3⟩; obtain ⟨A3, cap3, rfl⟩ := hv3.form; dsimp only)
  refine hK.out _ _ (fun h => absurd h (by decide)) (fun _ => ?_)
  clear hK K'
  try simp only [Act.put, List.setIfInBounds_toArray, List.set_cons_zero, List.set_cons_succ]
  refine one 4 (by kernel_rfl) rfl (fun K' hK => ?_)
  (go_simp; refine (order_bare a.erase b.erase F _ _ _ (hv2.keep (by repeat (first | with_reducible (first | refine .alloc ?_ _ | refine .drewN ?_ _ | refine .drew ?_) | ((with_reducible refine .setCell ?_ ?_ _); rotate_left; focus (first | (left; simp; done) | (right; simp; (first | done | omega)))) | with_reducible (first | assumption | exact .refl _ _ | refine .trans0 ?_ ‹_›)))) (hv3.keep (by repeat (first | with_reducible (first | refine .alloc ?_ _ | refine .drewN ?_ _ | refine .drew ?_) | ((with_reducible refine .setCell ?_ ?_ _); rotate_left; focus (first | (left; simp; done) | (right; simp; (first | done | omega)))) | with_reducible (first | assumption | exact .refl _ _ | refine .trans0 ?_ ‹_›))))).mono ?_; rintro e w4 ⟨rfl, F4⟩; dsimp only)
  refine hK.out _ _ (fun h => absurd h (by decide)) (fun _ => ?_)
  clear hK K'
  try simp only [Act.put, List.setIfInBounds_toArray, List.set_cons_zero, List.set_cons_succ]
  refine Pend.start [5] ?_
  (refine tkl (v := ?_) rfl (by kernel_rfl) (by rfl) (fun _ _ _ h => h) ?_ ?_; rotate_left; (focus (intro wq hSw; go_simp; (first | done | with_reducible rfl))); try simp only [Act.put, List.setIfInBounds_toArray, List.set_cons_zero, List.set_cons_succ])
  refine Pend.done ?_
  refine wpAnyU_done (by kernel_rfl) ?_ _
  go_wp2
  go_ret
  exact ⟨rfl, FW.trans0 ((Frm.refl [] W).drew.trans0 (F2.trans0 (F3.trans0 F4)))⟩

set_option maxRecDepth 100000 in
theorem order_Touch (l : Lat) (lb : Nat) (a b : Term) (F : List Nat) (va vb : Value) (w : World) (hl : LatAt w lb l) (ha : TermV F w a va) (hb : TermV F w b vb) :
    Calls Try.prog 54 #[.pointer (some ⟨lb, 0, none⟩), va, vb] w fun e w' => e = .returned (.int .i64 (l.join (l.joinT a) (l.joinT b))) ∧ Frm [] w w' := by
  obtain ⟨A, ca, rfl⟩ := ha.form
  obtain ⟨B, cb, rfl⟩ := hb.form
  go_enter Try.func54, Try.ntmps54
  go_wp2
  generalize hW : World.alloc _ _ = W
  have hb1 : W.heap[w.heap.size]? = some (.cells #[.int .i64 a.kind, .int .i64 a.n, .string a.s, .slice A a.kids.length ca] 26 (0, 0)) := by subst hW; exact (by repeat (first | rw [heap_alloc_at] | rw [heap_size_alloc] | rfl | rw [if_pos (by omega)] | rw [if_neg (by omega)]))
  have hb2 : W.heap[w.heap.size + 1]? = some (.cells #[.int .i64 b.kind, .int .i64 b.n, .string b.s, .slice B b.kids.length cb] 26 (0, 0)) := by subst hW; exact (by repeat (first | rw [heap_alloc_at] | rw [heap_size_alloc] | rfl | rw [if_pos (by omega)] | rw [if_neg (by omega)]))
  have FW : Frm [] w W := by subst hW; exact (by repeat (first | with_reducible (first | refine .alloc ?_ _ | refine .drewN ?_ _ | refine .drew ?_) | ((with_reducible refine .setCell ?_ ?_ _); rotate_left; focus (first | (left; simp; done) | (right; simp; (first | done | omega)))) | with_reducible (first | assumption | exact .refl _ _ | refine .trans0 ?_ ‹_›)))
  clear hW
  obtain ⟨x0, x1, x2', x3', x4, x5⟩ := blk4 hb1
  obtain ⟨y0, y1, y2, y3, y4, y5⟩ := blk4 hb2
  refine wp_region_U (fun w' => w'.cell? ⟨w.heap.size, 0, none⟩ = some (.int .i64 a.kind) ∧ w'.cell? ⟨w.heap.size, 1, none⟩ = some (.int .i64 a.n) ∧ w'.cell? ⟨w.heap.size, 2, none⟩ = some (.string a.s) ∧ w'.cell? ⟨w.heap.size, 3, none⟩ = some (.slice A a.kids.length ca) ∧ w'.cell? ⟨w.heap.size + 1, 0, none⟩ = some (.int .i64 b.kind) ∧ w'.cell? ⟨w.heap.size + 1, 1, none⟩ = some (.int .i64 b.n) ∧ w'.cell? ⟨w.heap.size + 1, 2, none⟩ = some (.string b.s) ∧ w'.cell? ⟨w.heap.size + 1, 3, none⟩ = some (.slice B b.kids.length cb)) (fun i => Nat.blt i 7) (by kernel_rfl) ?rgnS3 (fun hHeld => ?rgnB3)
  case rgnS3 => (first | (dsimp only; go_keep) | go_keep)
  case' rgnB3 => skip
  refine Pend.start [0, 1, 2, 4, 5] ?_
  iterate 5 (refine tk (v := ?_) rfl (by kernel_rfl) (by rfl) (fun _ _ _ h => h) (by assumption) ?_ ?_; rotate_left; (focus (intro wq hSw; (try dsimp only at hSw); go_simp; (first | done | with_reducible rfl))); try simp only [Act.put, List.setIfInBounds_toArray, List.set_cons_zero, List.set_cons_succ])
  refine Pend.done ?_
  refine one 3 (by kernel_rfl) rfl (fun K' hK => ?_)
  (go_simp; refine (seal_join l lb a F _ _ (hl.frm0 (by repeat (first | with_reducible (first | refine .alloc ?_ _ | refine .drewN ?_ _ | refine .drew ?_) | ((with_reducible refine .setCell ?_ ?_ _); rotate_left; focus (first | (left; simp; done) | (right; simp; (first | done | omega)))) | with_reducible (first | assumption | exact .refl _ _ | refine .trans0 ?_ ‹_›)))) (ha.keep (by repeat (first | with_reducible (first | refine .alloc ?_ _ | refine .drewN ?_ _ | refine .drew ?_) | ((with_reducible refine .setCell ?_ ?_ _); rotate_left; focus (first | (left; simp; done) | (right; simp; (first | done | omega)))) | with_reducible (first | assumption | exact .refl _ _ | refine .trans0 ?_ ‹_›))))).mono ?_; rintro e w2 ⟨rfl, F2⟩; have hb1 := F2.at0 hb1; have hb2 := F2.at0 hb2; obtain ⟨x0, x1, x2', x3', x4, x5⟩ := blk4 hb1; obtain ⟨y0, y1, y2, y3, y4, y5⟩ := blk4 hb2; dsimp only)
  refine hK.out _ _ (fun _ => ?rgnS4) (fun hH => ?rgnB4)
  case rgnS4 => (first | (dsimp only; go_keep) | go_keep)
  case' rgnB4 => ((try clear hHeld); have hHeld := hH (by decide); clear hH)
  clear hK K'
  try simp only [Act.put, List.setIfInBounds_toArray, List.set_cons_zero, List.set_cons_succ]
  refine one 6 (by kernel_rfl) rfl (fun K' hK => ?_)
  (go_simp; refine (seal_join l lb b F _ _ (hl.frm0 (by repeat (first | with_reducible (first | refine .alloc ?_ _ | refine .drewN ?_ _ | refine .drew ?_) | ((with_reducible refine .setCell ?_ ?_ _); rotate_left; focus (first | (left; simp; done) | (right; simp; (first | done | omega)))) | with_reducible (first | assumption | exact .refl _ _ | refine .trans0 ?_ ‹_›)))) (hb.keep (by repeat (first | with_reducible (first | refine .alloc ?_ _ | refine .drewN ?_ _ | refine .drew ?_) | ((with_reducible refine .setCell ?_ ?_ _); rotate_left; focus (first | (left; simp; done) | (right; simp; (first | done | omega)))) | with_reducible (first | assumption | exact .refl _ _ | refine .trans0 ?_ ‹_›))))).mono ?_; rintro e w3 ⟨rfl, F3⟩; have hb1 := F3.at0 hb1; have hb2 := F3.at0 hb2; obtain ⟨x0, x1, x2', x3', x4, x5⟩ := blk4 hb1; obtain ⟨y0, y1, y2, y3, y4, y5⟩ := blk4 hb2; dsimp only)
  refine hK.out _ _ (fun _ => ?rgnS5) (fun hH => ?rgnB5)
  case rgnS5 => (first | (dsimp only; go_keep) | go_keep)
  case' rgnB5 => ((try clear hHeld); have hHeld := hH (by decide); clear hH)
  clear hK K'
  try simp only [Act.put, List.setIfInBounds_toArray, List.set_cons_zero, List.set_cons_succ]
  refine one 7 (by kernel_rfl) rfl (fun K' hK => ?_)
  (go_simp; refine (lat_join l lb _ _ _ (hl.frm0 (by repeat (first | with_reducible (first | refine .alloc ?_ _ | refine .drewN ?_ _ | refine .drew ?_) | ((with_reducible refine .setCell ?_ ?_ _); rotate_left; focus (first | (left; simp; done) | (right; simp; (first | done | omega)))) | with_reducible (first | assumption | exact .refl _ _ | refine .trans0 ?_ ‹_›))))).mono ?_; rintro e w4 ⟨rfl, ⟨d4, rfl⟩⟩; dsimp only)
  refine hK.out _ _ (fun h => absurd h (by decide)) (fun _ => ?_)
  clear hK K'
  try simp only [Act.put, List.setIfInBounds_toArray, List.set_cons_zero, List.set_cons_succ]
  refine Pend.start [8] ?_
  (refine tkl (v := ?_) rfl (by kernel_rfl) (by rfl) (fun _ _ _ h => h) ?_ ?_; rotate_left; (focus (intro wq hSw; go_simp; (first | done | with_reducible rfl))); try simp only [Act.put, List.setIfInBounds_toArray, List.set_cons_zero, List.set_cons_succ])
  refine Pend.done ?_
  refine wpAnyU_done (by kernel_rfl) ?_ _
  go_wp2
  go_ret
  exact ⟨rfl, (by repeat (first | with_reducible (first | refine .alloc ?_ _ | refine .drewN ?_ _ | refine .drew ?_) | ((with_reducible refine .setCell ?_ ?_ _); rotate_left; focus (first | (left; simp; done) | (right; simp; (first | done | omega)))) | with_reducible (first | assumption | exact .refl _ _ | refine .trans0 ?_ ‹_›)))⟩
end Go.Proofs.Ytkiofaojokofbaa
