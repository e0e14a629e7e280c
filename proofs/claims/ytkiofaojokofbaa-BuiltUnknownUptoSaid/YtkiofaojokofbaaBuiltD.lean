/- Contracts and plain laws: ArithC StoreF StoreG PairMem Pairs Bind2. -/
import Derived.Test.YtkiofaojokofbaaBuiltC
import Derived.WalkSpells
import Derived.WalkLawsBesides
import Derived.Deep.QuietTactic
import Derived.BigQuiet
import Derived.Deep.DeepCutAuto
import Derived.Deep.RegionHeld3
import Derived.Lib.Hide
import Derived.Handy
import Derived.StillTailTactics
namespace Go.Proofs.Ytkiofaojokofbaa
open Go.RowKit

theorem kind_mk (k n : Int) (s : ByteArray) (ts : List Term) : (Term.mk k n s ts).kind = k := rfl
theorem n_mk (k n : Int) (s : ByteArray) (ts : List Term) : (Term.mk k n s ts).n = n := rfl
theorem s_mk (k n : Int) (s : ByteArray) (ts : List Term) : (Term.mk k n s ts).s = s := rfl
theorem kids_mk (k n : Int) (s : ByteArray) (ts : List Term) : (Term.mk k n s ts).kids = ts := rfl
/-- A node's value, from those of its parts. -/
def evalB (rec : Nat → Term → Int → Except Int Int × Int × Nat) (m : Nat) (lev : Int) (k n : Int) (s : ByteArray) (ts : List Term) : Except Int Int × Int × Nat :=
  if k == 1 then (.error 8, lev, m)
  else if k == 2 then (.ok n, lev, m)
  else if k != 3 || !Arith.known s ts.length then (.error 9, lev, m)
  else match rec m (ts.getD 0 default) lev with
    | (.error c, lev, m) => (.error c, lev, m)
    | (.ok a, lev, m) =>
      if ts.length == 2 then match rec m (ts.getD 1 default) lev with
        | (.error c, lev, m) => (.error c, lev, m)
        | (.ok b, lev, m) => (Arith.two s a b, lev, m)
      else if nm s == [97, 98, 115] && decide (0 ≤ a) then (.ok a, lev, m)
      else (Arith.minus a, lev, m)
section
variable (rec : Nat → Term → Int → Except Int Int × Int × Nat) (m : Nat) (lev k n : Int) (s : ByteArray) (ts : List Term)
theorem evalB_var : evalB rec m lev 1 n s ts = (.error 8, lev, m) := by simp [evalB]
theorem evalB_int : evalB rec m lev 2 n s ts = (.ok n, lev, m) := by simp [evalB]
theorem evalB_no (h1 : k ≠ 1) (h2 : k ≠ 2) (h : ¬(k = 3 ∧ Arith.known s ts.length = true)) : evalB rec m lev k n s ts = (.error 9, lev, m) := by
  rw [evalB, if_neg (by simpa using h1), if_neg (by simpa using h2), if_pos]
  by_cases h3 : k = 3
  · simp [h3] at h ⊢; exact h
  · simp [h3]
theorem evalB_err (h : Arith.known s ts.length = true) {c : Int} {lev' : Int} {m' : Nat} (hr : rec m (ts.getD 0 default) lev = (.error c, lev', m')) : evalB rec m lev 3 n s ts = (.error c, lev', m') := by
  rw [evalB, if_neg (by decide), if_neg (by decide), if_neg (by simp [h]), hr]
theorem evalB_one (h : Arith.known s ts.length = true) (h2 : ts.length ≠ 2) {a : Int} {lev' : Int} {m' : Nat} (hr : rec m (ts.getD 0 default) lev = (.ok a, lev', m')) :
    evalB rec m lev 3 n s ts = (if nm s == [97, 98, 115] && decide (0 ≤ a) then .ok a else Arith.minus a, lev', m') := by
  rw [evalB, if_neg (by decide), if_neg (by decide), if_neg (by simp [h]), hr]
  dsimp only
  rw [if_neg (by simpa using h2)]
  split <;> rfl
theorem evalB_abs (h : Arith.known s ts.length = true) (h2 : ((ts.length : Int) == 2) = false) {a : Int} {lev' : Int} {m' : Nat} (hr : rec m (ts.getD 0 default) lev = (.ok a, lev', m'))
    (hs : nm s = [97, 98, 115]) (ha : 0 ≤ a) : evalB rec m lev 3 n s ts = (.ok a, lev', m') := by
  rw [evalB_one rec m lev n s ts h (by intro hx; rw [hx] at h2; exact absurd h2 (by decide)) hr, if_pos (by simp [hs, ha])]
theorem evalB_minus (h : Arith.known s ts.length = true) (h2 : ((ts.length : Int) == 2) = false) {a : Int} {lev' : Int} {m' : Nat} (hr : rec m (ts.getD 0 default) lev = (.ok a, lev', m'))
    (hs : nm s ≠ [97, 98, 115] ∨ a < 0) : evalB rec m lev 3 n s ts = (Arith.minus a, lev', m') := by
  rw [evalB_one rec m lev n s ts h (by intro hx; rw [hx] at h2; exact absurd h2 (by decide)) hr, if_neg]
  rcases hs with hs | hs
  · simp [hs]
  · simp; omega
theorem evalB_err2 (h : Arith.known s ts.length = true) (h2 : ts.length = 2) {a c : Int} {lev' lev'' : Int} {m' m'' : Nat} (hr : rec m (ts.getD 0 default) lev = (.ok a, lev', m'))
    (hr2 : rec m' (ts.getD 1 default) lev' = (.error c, lev'', m'')) : evalB rec m lev 3 n s ts = (.error c, lev'', m'') := by
  rw [evalB, if_neg (by decide), if_neg (by decide), if_neg (by simp [h]), hr]
  dsimp only
  rw [if_pos (by simpa using h2), hr2]
theorem evalB_two (h : Arith.known s ts.length = true) (h2 : ts.length = 2) {a b : Int} {lev' lev'' : Int} {m' m'' : Nat} (hr : rec m (ts.getD 0 default) lev = (.ok a, lev', m'))
    (hr2 : rec m' (ts.getD 1 default) lev' = (.ok b, lev'', m'')) : evalB rec m lev 3 n s ts = (Arith.two s a b, lev'', m'') := by
  rw [evalB, if_neg (by decide), if_neg (by decide), if_neg (by simp [h]), hr]
  dsimp only
  rw [if_pos (by simpa using h2), hr2]
end
/-- A term's value, or an error's number; the level; how many terms were evaluated. d bounds the depth. -/
def evalT (l : Lat) (st : PStore) : Nat → Nat → Term → Int → Except Int Int × Int × Nat
  | 0, m, _, lev => (.error 3, lev, m + 1)
  | d + 1, m, t, lev =>
    if 2000 < m + 1 then (.error 3, lev, m + 1) else
    evalB (evalT l st d) (m + 1) (l.join lev (l.opened (st.walk t)).2) (l.opened (st.walk t)).1.kind (l.opened (st.walk t)).1.n (l.opened (st.walk t)).1.s (l.opened (st.walk t)).1.kids

theorem evalT_succ (l : Lat) (st : PStore) (d m : Nat) (t : Term) (lev : Int) (h : ¬2000 < m + 1) : evalT l st (d + 1) m t lev =
    evalB (evalT l st d) (m + 1) (l.join lev (l.opened (st.walk t)).2) (l.opened (st.walk t)).1.kind (l.opened (st.walk t)).1.n (l.opened (st.walk t)).1.s (l.opened (st.walk t)).1.kids := by
  show (if 2000 < m + 1 then _ else _) = _
  rw [if_neg h]

def SumsAt (w : World) (bx sb lb : Nat) (lev : Int) (m : Nat) : Prop :=
  w.heap[bx]? = some (.cells #[.pointer (some ⟨sb, 0, none⟩), .pointer (some ⟨lb, 0, none⟩), .int .i64 lev, .int .i64 (m : Int)] 105 (0, 0))

def EvalOK (m : Nat) (r : Except Int Int × Int × Nat) : Prop := m ≤ r.2.2 ∧ ∀ a, r.1 = .ok a → r.2.2 ≤ 2000 ∧ I64 a
theorem EvalOK.err {m m' : Nat} (h : m ≤ m') (c lev : Int) : EvalOK m (.error c, lev, m') := ⟨h, fun a ha => by cases ha⟩
theorem EvalOK.one {m m' : Nat} (h : m ≤ m') (h2 : m' ≤ 2000) {x : Except Int Int} (hx : ∀ a, x = .ok a → I64 a) (lev : Int) : EvalOK m (x, lev, m') := ⟨h, fun a ha => ⟨h2, hx a ha⟩⟩
theorem Arith.minus_i64 {a m : Int} (h : Arith.minus a = .ok m) : I64 m := (Arith.fit_i64 h).2
theorem Arith.known_pos {s : ByteArray} {k : Nat} (h : Arith.known s k = true) : 1 ≤ k := by
  unfold Arith.known at h
  repeat' split at h
  all_goals simp at h
  all_goals omega
def EvalSaid (l : Lat) (st : PStore) (d : Nat) : Prop := ∀ (m : Nat) (t : Term) (lev : Int) (G F : List Nat) (sb lb bx : Nat) (v : Value) (w : World),
  m ≤ 2000 → 2000 ≤ m + d → LatAt w lb l → StoreAt G F w sb st → TermV F w t v → SumsAt w bx sb lb lev m → bx ∈ F → bx ∉ G →
  Calls Try.prog 67 #[.pointer (some ⟨bx, 0, none⟩), v] w fun e w' => e = ending (evalT l st d m t lev).1 ∧ SumsAt w' bx sb lb (evalT l st d m t lev).2.1 (evalT l st d m t lev).2.2 ∧ Frm [bx] w w' ∧ EvalOK m (evalT l st d m t lev)

set_option maxRecDepth 100000 in
set_option maxHeartbeats 1000000 in
theorem arith_eval (l : Lat) (st : PStore) : ∀ d, EvalSaid l st d := by
  intro d
  induction d with
  | zero =>
    intro m t lev G F sb lb bx v w hm hd hl hs ht hx hbF hbG
    have hm2 : m = 2000 := by omega
    subst hm2
    obtain ⟨q0, q1, q2, q3, q4, q5⟩ := blk4 hx
    have q6 : bx < w.heap.size + 1 := by omega
    obtain ⟨A, cap, rfl⟩ := ht.form
    go_enter Try.func67, Try.ntmps67
    go_wp2
    refine ⟨rfl, rfl, ?_, (by repeat (first | with_reducible (first | refine .alloc ?_ _ | refine .drewN ?_ _ | refine .drew ?_) | ((with_reducible refine .setCell ?_ ?_ _); rotate_left; focus (first | (left; simp; done) | (right; simp; (first | done | omega)))) | with_reducible (first | assumption | exact .refl _ _ | refine .trans0 ?_ ‹_›))), EvalOK.err (by omega) _ _⟩
    exact (Below.heap_alloc _ _ _ (by simpa [World.setCell] using q5)).trans (heap_setCell_at hx 3 _)
  | succ d ih =>
    intro m t lev G F sb lb bx v w hm hd hl hs ht hx hbF hbG
    obtain ⟨q0, q1, q2, q3, q4, q5⟩ := blk4 hx
    have q6 : bx < w.heap.size + 1 := by omega
    obtain ⟨A, cap, rfl⟩ := ht.form
    by_cases hm2 : 2000 < m + 1
    · have hm3 : m = 2000 := by omega
      subst hm3
      have HE : Hid (evalT l st (d + 1) 2000 t lev = (.error 3, lev, 2001)) := by
        show _ = _
        unfold evalT
        rw [if_pos (by omega)]
      go_enter Try.func67, Try.ntmps67
      go_wp2
      rw [HE.out]
      refine ⟨rfl, rfl, ?_, (by repeat (first | with_reducible (first | refine .alloc ?_ _ | refine .drewN ?_ _ | refine .drew ?_) | ((with_reducible refine .setCell ?_ ?_ _); rotate_left; focus (first | (left; simp; done) | (right; simp; (first | done | omega)))) | with_reducible (first | assumption | exact .refl _ _ | refine .trans0 ?_ ‹_›))), EvalOK.err (by omega) _ _⟩
      exact (Below.heap_alloc _ _ _ (by simpa [World.setCell] using q5)).trans (heap_setCell_at hx 3 _)
    · have hm3 : (m : Int) + 1 ≤ 2000 := by omega
      have hF := hs.lt
      have hGF := hs.sub
      have hlbx : lb ∉ [bx] := by
        intro he
        have he : lb = bx := by simpa using he
        subst he
        have := hl.blk.symm.trans hx
        simp at this
      go_enter Try.func67, Try.ntmps67
      go_wp2
      generalize hW : (World.setCell w _ _).alloc _ = W
      have hbx : SumsAt W bx sb lb lev (m + 1) := by
        subst hW
        exact (Below.heap_alloc _ _ _ (by simpa [World.setCell] using q5)).trans (heap_setCell_at hx 3 _)
      have hbt : W.heap[w.heap.size]? = some (.cells #[.int .i64 t.kind, .int .i64 t.n, .string t.s, .slice A t.kids.length cap] 26 (0, 0)) := by
        subst hW
        rw [show w.heap.size = (w.setCell ⟨bx, 3, none⟩ (.int .i64 ((m : Int) + 1))).heap.size by simp [World.setCell]]
        exact alloc_heap_new _ _
      have FW : Frm [bx] w W := by subst hW; exact (by repeat (first | with_reducible (first | refine .alloc ?_ _ | refine .drewN ?_ _ | refine .drew ?_) | ((with_reducible refine .setCell ?_ ?_ _); rotate_left; focus (first | (left; simp; done) | (right; simp; (first | done | omega)))) | with_reducible (first | assumption | exact .refl _ _ | refine .trans0 ?_ ‹_›)))
      have hszW : w.heap.size + 1 ≤ W.heap.size := by subst hW; simp [World.setCell]
      have hF2 : ∀ b, b ∈ w.heap.size :: F → b < W.heap.size := lt_one hF (by omega) (by omega)
      have hsW : StoreAt G (w.heap.size :: F) W sb st := hs.more FW (by simpa using hbG) (by simpa using hbF) (new_one (Nat.le_refl _)) (fun b hb => by simp [hb]) hF2
      have htW : TermV (w.heap.size :: F) W _ _ := (ht.away (new_one (Nat.le_refl _))).frm FW (by simp [hbF])
      have hlW : LatAt W lb l := hl.frm FW hlbx
      clear hW hs ht hl hx q0 q1 q2 q3 q4
      obtain ⟨p0, p1, p2, p3, p4, p5⟩ := blk4 hbx
      obtain ⟨r0, r1, r2, r3, r4, r5⟩ := blk4 hbt
      refine wp_region_U (fun w' => w'.cell? ⟨bx, 0, none⟩ = some (.pointer (some ⟨sb, 0, none⟩)) ∧ w'.cell? ⟨bx, 1, none⟩ = some (.pointer (some ⟨lb, 0, none⟩)) ∧ w'.cell? ⟨w.heap.size, 0, none⟩ = some (.int .i64 t.kind) ∧ w'.cell? ⟨w.heap.size, 1, none⟩ = some (.int .i64 t.n) ∧ w'.cell? ⟨w.heap.size, 2, none⟩ = some (.string t.s) ∧ w'.cell? ⟨w.heap.size, 3, none⟩ = some (.slice A t.kids.length cap)) (fun i => Nat.blt i 12) (by kernel_rfl) ?rgnS1 (fun hHeld => ?rgnB1)
      case rgnS1 => (first | (dsimp only; go_keep) | go_keep)
      case' rgnB1 => skip
      refine Pend.start [0, 1, 2, 3, 4, 5, 6, 7, 8] ?_
      iterate 9 (refine tk (v := ?_) rfl (by kernel_rfl) (by rfl) (fun _ _ _ h => h) (by assumption) ?_ ?_; rotate_left; (focus (intro wq hSw; (try dsimp only at hSw); go_simp; (first | done | with_reducible rfl))); try simp only [Act.put, List.setIfInBounds_toArray, List.set_cons_zero, List.set_cons_succ])
      refine Pend.done ?_
      refine one 9 (by kernel_rfl) rfl (fun K' hK => ?_)
      (go_simp; refine (store_walk G (w.heap.size :: F) sb st t _ _ (hsW.keep (by repeat (first | with_reducible (first | refine .alloc ?_ _ | refine .drewN ?_ _ | refine .drew ?_) | ((with_reducible refine .setCell ?_ ?_ _); rotate_left; focus (first | (left; simp; done) | (right; simp; (first | done | omega)))) | with_reducible (first | assumption | exact .refl _ _ | refine .trans0 ?_ ‹_›)))) (htW.keep (by repeat (first | with_reducible (first | refine .alloc ?_ _ | refine .drewN ?_ _ | refine .drew ?_) | ((with_reducible refine .setCell ?_ ?_ _); rotate_left; focus (first | (left; simp; done) | (right; simp; (first | done | omega)))) | with_reducible (first | assumption | exact .refl _ _ | refine .trans0 ?_ ‹_›))))).mono ?_; rintro e w2 ⟨⟨v2, rfl, hv2⟩, F2⟩; obtain ⟨A2, cap2, rfl⟩ := hv2.form; have hbx2 := F2.at0 hbx; have hbt2 := F2.at0 hbt; obtain ⟨P0, P1, P2, P3, P4, P5⟩ := blk4 hbx2; obtain ⟨R0, R1, R2, R3, R4, R5⟩ := blk4 hbt2; dsimp only)
      refine hK.out _ _ (fun _ => ?rgnS2) (fun hH => ?rgnB2)
      case rgnS2 => (first | (dsimp only; go_keep) | go_keep)
      case' rgnB2 => ((try clear hHeld); have hHeld := hH (by decide); clear hH)
      clear hK K'
      try simp only [Act.put, List.setIfInBounds_toArray, List.set_cons_zero, List.set_cons_succ]
      refine one 10 (by kernel_rfl) rfl (fun K' hK => ?_)
      (go_simp; refine (seal_open (w.heap.size :: F) l lb _ _ _ (hlW.frm0 (by repeat (first | with_reducible (first | refine .alloc ?_ _ | refine .drewN ?_ _ | refine .drew ?_) | ((with_reducible refine .setCell ?_ ?_ _); rotate_left; focus (first | (left; simp; done) | (right; simp; (first | done | omega)))) | with_reducible (first | assumption | exact .refl _ _ | refine .trans0 ?_ ‹_›)))) (hv2.keep (by repeat (first | with_reducible (first | refine .alloc ?_ _ | refine .drewN ?_ _ | refine .drew ?_) | ((with_reducible refine .setCell ?_ ?_ _); rotate_left; focus (first | (left; simp; done) | (right; simp; (first | done | omega)))) | with_reducible (first | assumption | exact .refl _ _ | refine .trans0 ?_ ‹_›)))) (fun b hb => by have := hF2 b hb; have := F2.size; simp at this; omega)).mono ?_; rintro e w3 ⟨⟨v3, rfl, hv3⟩, F3⟩; obtain ⟨A3, cap3, rfl⟩ := hv3.form; have hbx3 := F3.at0 hbx2; have hbt3 := F3.at0 hbt2; obtain ⟨P0', P1', P2', P3', P4', P5'⟩ := blk4 hbx3; obtain ⟨R0', R1', R2', R3', R4', R5'⟩ := blk4 hbt3; dsimp only)
      refine hK.out _ _ (fun _ => ?rgnS3) (fun hH => ?rgnB3)
      case rgnS3 => (first | (dsimp only; go_keep) | go_keep)
      case' rgnB3 => ((try clear hHeld); have hHeld := hH (by decide); clear hH)
      clear hK K'
      try simp only [Act.put, List.setIfInBounds_toArray, List.set_cons_zero, List.set_cons_succ]
      refine Pend.start [11, 12, 13] ?_
      (refine tk (v := ?_) rfl (by kernel_rfl) (by rfl) (fun _ _ _ h => h) (by assumption) ?_ ?_; rotate_left; (focus (intro wq hSw; (try dsimp only at hSw); go_simp; (first | done | with_reducible rfl))); try simp only [Act.put, List.setIfInBounds_toArray, List.set_cons_zero, List.set_cons_succ])
      iterate 2 (refine tkl (v := ?_) rfl (by kernel_rfl) (by rfl) (fun _ _ _ h => h) ?_ ?_; rotate_left; (focus (intro wq hSw; go_simp; (first | done | with_reducible rfl))); try simp only [Act.put, List.setIfInBounds_toArray, List.set_cons_zero, List.set_cons_succ])
      refine Pend.done ?_
      refine one 14 (by kernel_rfl) rfl (fun K' hK => ?_)
      (rw [if_pos (by rfl)]; go_simp)
      refine hK.out _ _ (fun h => absurd h (by decide)) (fun _ => ?_)
      clear hK K'
      try simp only [Act.put, List.setIfInBounds_toArray, List.set_cons_zero, List.set_cons_succ]
      refine Pend.start [15] ?_
      (refine tkl (v := ?_) rfl (by kernel_rfl) (by rfl) (fun _ _ _ h => h) ?_ ?_; rotate_left; (focus (intro wq hSw; go_simp; (first | done | with_reducible rfl))); try simp only [Act.put, List.setIfInBounds_toArray, List.set_cons_zero, List.set_cons_succ])
      refine Pend.done ?_
      refine wpAnyU_done (by kernel_rfl) ?_ _
      have HE := Lib.hid (evalT_succ l st d m t lev hm2)
      generalize l.opened (st.walk t) = o at *
      obtain ⟨⟨k, n, s, ts⟩, lv⟩ := o
      dsimp only [kind_mk, n_mk, s_mk, kids_mk] at *
      go_wp2
      generalize hW1 : World.setCell _ _ (.slice A3 _ _) = W1
      have F1 : Frm [w.heap.size] w3 W1 := by subst hW1; exact (by repeat (first | with_reducible (first | refine .alloc ?_ _ | refine .drewN ?_ _ | refine .drew ?_) | ((with_reducible refine .setCell ?_ ?_ _); rotate_left; focus (first | (left; simp; done) | (right; simp; (first | done | omega)))) | with_reducible (first | assumption | exact .refl _ _ | refine .trans0 ?_ ‹_›)))
      have hbx1 : SumsAt W1 bx sb lb lev (m + 1) := F1.at_ hbx3 (by simp; omega)
      have hbt1 : W1.heap[w.heap.size]? = some (.cells #[.int .i64 k, .int .i64 n, .string s, .slice A3 ts.length cap3] 26 (0, 0)) := by subst hW1; exact box_store4 hbt3 _ _ _ _
      have hv1 := hv3.frm F1 (by simp)
      have F20 : Frm [] W w2 := (Frm.refl [] W).drew.trans0 F2
      have F01 : Frm [bx] w W1 := ((FW.trans0 F20).trans0 F3).trans F1 (by simp)
      have hF3 : ∀ b, b ∈ w.heap.size :: F → b < W1.heap.size := fun b hb => by have := hF2 b hb; have := F20.size; have := F3.size; have := F1.size; omega
      have hl1 : LatAt W1 lb l := ((hlW.frm0 F20).frm0 F3).frm F1 (by have := hlW.lt; simp; intro h; have := (hlW.blk.symm.trans (h ▸ hbt)); simp at this)
      have hs1 : StoreAt G (w.heap.size :: F) W1 sb st := ((hsW.keep F20).keep F3).frm F1 (by intro b hb hg; have := hF _ (hGF _ hg); simp at hb; omega) (by simp)
      clear hW1 F1 hbx3 hbt3 hv3 hbx2 hbt2 hv2
      obtain ⟨p0, p1, p2, p3, p4, p5⟩ := blk4 hbx1
      obtain ⟨r0, r1, r2, r3, r4, r5⟩ := blk4 hbt1
      refine wp_region_U (fun w' => w'.cell? ⟨bx, 0, none⟩ = some (.pointer (some ⟨sb, 0, none⟩)) ∧ w'.cell? ⟨bx, 1, none⟩ = some (.pointer (some ⟨lb, 0, none⟩)) ∧ w'.cell? ⟨bx, 2, none⟩ = some (.int .i64 lev)) (fun i => Nat.blt i 13) (by kernel_rfl) ?rgnS4 (fun hHeld => ?rgnB4)
      case rgnS4 => (first | (dsimp only; go_keep) | go_keep)
      case' rgnB4 => skip
      refine Pend.start [0, 1, 2, 3, 4, 5, 6, 7, 8, 9] ?_
      iterate 10 (refine tk (v := ?_) rfl (by kernel_rfl) (by rfl) (fun _ _ _ h => h) (by assumption) ?_ ?_; rotate_left; (focus (intro wq hSw; (try dsimp only at hSw); go_simp; (first | done | with_reducible rfl))); try simp only [Act.put, List.setIfInBounds_toArray, List.set_cons_zero, List.set_cons_succ])
      refine Pend.done ?_
      refine one 10 (by kernel_rfl) rfl (fun K' hK => ?_)
      (go_simp; refine (lat_join l lb _ _ _ (hl1.frm0 (by repeat (first | with_reducible (first | refine .alloc ?_ _ | refine .drewN ?_ _ | refine .drew ?_) | ((with_reducible refine .setCell ?_ ?_ _); rotate_left; focus (first | (left; simp; done) | (right; simp; (first | done | omega)))) | with_reducible (first | assumption | exact .refl _ _ | refine .trans0 ?_ ‹_›))))).mono ?_; rintro e w4 ⟨rfl, D4⟩; have F4 := (Frm.refl [] W1).drew.trans0 (D4.frm []); have hbx4 := F4.at0 hbx1; have hbt4 := F4.at0 hbt1; obtain ⟨P0, P1, P2, P3, P4, P5⟩ := blk4 hbx4; dsimp only)
      refine hK.out _ _ (fun _ => ?rgnS5) (fun hH => ?rgnB5)
      case rgnS5 => (first | (dsimp only; go_keep) | go_keep)
      case' rgnB5 => ((try clear hHeld); have hHeld := hH (by decide); clear hH)
      clear hK K'
      try simp only [Act.put, List.setIfInBounds_toArray, List.set_cons_zero, List.set_cons_succ]
      refine Pend.start [11, 12] ?_
      iterate 2 (refine tk (v := ?_) rfl (by kernel_rfl) (by rfl) (fun _ _ _ h => h) (by assumption) ?_ ?_; rotate_left; (focus (intro wq hSw; (try dsimp only at hSw); go_simp; (first | done | with_reducible rfl))); try simp only [Act.put, List.setIfInBounds_toArray, List.set_cons_zero, List.set_cons_succ])
      refine Pend.done ?_
      refine one 13 (by kernel_rfl) rfl (fun K' hK => ?_)
      go_simp
      refine hK.out _ _ (fun h => absurd h (by decide)) (fun _ => ?_)
      clear hK K'
      try simp only [Act.put, List.setIfInBounds_toArray, List.set_cons_zero, List.set_cons_succ]
      refine wpAnyU_done (by kernel_rfl) ?_ _
      generalize l.join lev lv = lev2 at *
      have HE2 : Hid (evalT l st (d + 1) m _ lev = evalB (evalT l st d) (m + 1) lev2 k n s ts) := HE
      clear HE
      generalize hW2 : World.setCell w4 _ _ = W2
      have FW2 : Frm [bx] w4 W2 := by subst hW2; exact (by repeat (first | with_reducible (first | refine .alloc ?_ _ | refine .drewN ?_ _ | refine .drew ?_) | ((with_reducible refine .setCell ?_ ?_ _); rotate_left; focus (first | (left; simp; done) | (right; simp; (first | done | omega)))) | with_reducible (first | assumption | exact .refl _ _ | refine .trans0 ?_ ‹_›)))
      have hbx5 : SumsAt W2 bx sb lb lev2 (m + 1) := by subst hW2; exact heap_setCell_at hbx4 2 _
      have hbt5 := FW2.at_ hbt4 (by simp; omega)
      have hs2 : StoreAt G (w.heap.size :: F) W2 sb st := (hs1.keep F4).frm FW2 (by simpa using hbG) (by simp [hbF])
      have hv2 := (hv1.keep F4).frm FW2 (by simp [hbF])
      have hl2 : LatAt W2 lb l := (hl1.frm0 F4).frm FW2 hlbx
      have F02 : Frm [bx] w W2 := (F01.trans0 F4).trans' FW2
      clear hW2 FW2 F4 D4 hbx4 hbt4 hbx1 hbt1 hs1 hl1 hv1 p0 p1 p2 p3 r0 r1 r2 r3 P0 P1 P2 P3
      obtain ⟨p0, p1, p2, p3, p4, p5⟩ := blk4 hbx5
      obtain ⟨r0, r1, r2, r3, r4, r5⟩ := blk4 hbt5
      have hv3 := hv2
      simp only [TermV] at hv3
      obtain ⟨A4, cap4, hv4, hk1, hn1, hs4, hts, hc, hc2, hk⟩ := hv3
      simp only [Value.agg.injEq, Array.mk.injEq, List.cons.injEq, Value.slice.injEq, true_and, and_true] at hv4
      obtain ⟨rfl, rfl⟩ := hv4
      by_cases k1 : k = 1
      · subst k1
        have HF := Lib.hid (HE2.out.trans (evalB_var _ _ _ _ _ _))
        clear HE2
        go_wp2
        rw [HF.out]
        exact ⟨rfl, rfl, hbx5, F02, EvalOK.err (by omega) _ _⟩
      by_cases k2 : k = 2
      · subst k2
        have HF := Lib.hid (HE2.out.trans (evalB_int _ _ _ _ _ _))
        clear HE2
        go_wp2
        go_ret
        rw [HF.out]
        exact ⟨rfl, hbx5, F02, EvalOK.one (by omega) (by omega) (fun a ha => by cases ha; exact hn1) _⟩
      have F02b := F02.size
      by_cases kn : k = 3 ∧ Arith.known s ts.length = true
      · obtain ⟨rfl, kn⟩ := kn
        have kpos := Arith.known_pos kn
        obtain ⟨b0, off, A', c', rfl, hbn, hblt, e0, e1, e2, e3, hT0⟩ := hk.kid 0 (by omega)
        have ht0 : ts.getD 0 default = ts[0] := by rw [List.getD_eq_getElem?_getD, List.getElem?_eq_getElem (by omega)]; rfl
        generalize ts[0] = t0 at *
        simp only [Nat.zero_mul, Nat.add_zero] at e0 e1 e2 e3
        have hb0x : b0 ∉ [bx] := by simp; intro h; subst h; simp [hbF] at hbn
        go_wp2_with (first | (go_at_call 78; refine (arith_known _ _ _).mono ?_; rintro e w' ⟨rfl, rfl⟩) | (go_at_call 67; refine (ih (m + 1) t0 lev2 G (w.heap.size :: F) sb lb bx _ W2 (by omega) (by omega) hl2 hs2 hT0 hbx5 (by simp [hbF]) hbG).mono ?_; rintro e w5 ⟨rfl, hbx6, F5, ok5⟩; have hbt6 := F5.at_ hbt5 (by simp; omega); generalize hr : evalT l st d (m + 1) t0 lev2 = r at *; obtain ⟨x, lev3, m3⟩ := r; dsimp only at hbx6 ok5; have HR := Lib.hid hr; clear hr; obtain ⟨P0, P1, P2, P3, P4, P5⟩ := blk4 hbx6; obtain ⟨R0, R1, R2, R3, R4, R5⟩ := blk4 hbt6; obtain ⟨m3ge, hok⟩ := ok5; dsimp only at m3ge hok; cases x <;> simp only [ending]) | (go_at_call 80; refine (arith_minus _ _ (hok _ rfl).2).mono ?_; rintro e w' ⟨rfl, rfl⟩; generalize hq : Arith.minus _ = q; have HQ := Lib.hid hq; clear hq; cases q <;> simp only [ending]))
        · rw [HE2.out.trans (evalB_err _ _ _ _ _ _ kn (by rw [ht0]; exact HR.out))]
          exact ⟨rfl, rfl, hbx6, F02.trans' F5, EvalOK.err (by omega) _ _⟩
        · have hlen : ts.length = 2 := by have h0 := ‹((ts.length : Int) == 2) = true›; rw [beq_iff_eq] at h0; omega
          obtain ⟨b1, off1, A1, cp1, hA1, hbn1, hblt1, g0, g1, g2, g3, hT1⟩ := hk.kid 1 (by omega)
          cases hA1
          have ht1 : ts.getD 1 default = ts[1] := by rw [List.getD_eq_getElem?_getD, List.getElem?_eq_getElem (by omega)]; rfl
          generalize ts[1] = t1 at *
          simp only [Nat.one_mul] at g0 g1 g2 g3
          have hl3 : LatAt w5 lb l := hl2.frm F5 hlbx
          have hs3 : StoreAt G (w.heap.size :: F) w5 sb st := hs2.frm F5 (by simpa using hbG) (by simp [hbF])
          have hT2 := hT1.frm F5 (by simp [hbF])
          have G0 := (F5.cell (o := off + 4) (s := none) hblt hb0x).trans g0
          have G1 := (F5.cell (o := off + 4 + 1) (s := none) hblt hb0x).trans g1
          have G2 := (F5.cell (o := off + 4 + 2) (s := none) hblt hb0x).trans g2
          have G3 := (F5.cell (o := off + 4 + 3) (s := none) hblt hb0x).trans g3
          have hblt5 : b0 < w5.heap.size := by have := F5.size; omega
          obtain ⟨m3le, ia⟩ := hok _ rfl
          clear g0 g1 g2 g3 e0 e1 e2 e3 p0 p1 p2 p3 r0 r1 r2 r3
          refine wp_region_U (fun w' => w'.cell? ⟨w.heap.size, 2, none⟩ = some (.string s) ∧ w'.cell? ⟨w.heap.size, 3, none⟩ = some (.slice (some ⟨b0, off, none⟩) ts.length cap3) ∧ w'.cell? ⟨b0, off + 4, none⟩ = some (.int .i64 t1.kind) ∧ w'.cell? ⟨b0, off + 4 + 1, none⟩ = some (.int .i64 t1.n) ∧ w'.cell? ⟨b0, off + 4 + 2, none⟩ = some (.string t1.s) ∧ w'.cell? ⟨b0, off + 4 + 3, none⟩ = some (.slice A1 t1.kids.length cp1)) (fun i => Nat.blt i 11) (by kernel_rfl) ?rgnS6 (fun hHeld => ?rgnB6)
          case rgnS6 => (first | (dsimp only; go_keep) | go_keep)
          case' rgnB6 => skip
          refine Pend.start [0, 1, 2, 3, 4, 5, 6, 7] ?_
          iterate 8 (refine tk (v := ?_) rfl (by kernel_rfl) (by rfl) (fun _ _ _ h => h) (by assumption) ?_ ?_; rotate_left; (focus (intro wq hSw; (try dsimp only at hSw); go_simp; (first | done | with_reducible rfl))); try simp only [Act.put, List.setIfInBounds_toArray, List.set_cons_zero, List.set_cons_succ])
          refine Pend.done ?_
          refine one 8 (by kernel_rfl) rfl (fun K' hK => ?_)
          (go_simp; refine (ih m3 t1 lev3 G (w.heap.size :: F) sb lb bx _ _ (by omega) (by omega) (hl3.frm0 (by repeat (first | with_reducible (first | refine .alloc ?_ _ | refine .drewN ?_ _ | refine .drew ?_) | ((with_reducible refine .setCell ?_ ?_ _); rotate_left; focus (first | (left; simp; done) | (right; simp; (first | done | omega)))) | with_reducible (first | assumption | exact .refl _ _ | refine .trans0 ?_ ‹_›)))) (hs3.keep (by repeat (first | with_reducible (first | refine .alloc ?_ _ | refine .drewN ?_ _ | refine .drew ?_) | ((with_reducible refine .setCell ?_ ?_ _); rotate_left; focus (first | (left; simp; done) | (right; simp; (first | done | omega)))) | with_reducible (first | assumption | exact .refl _ _ | refine .trans0 ?_ ‹_›)))) (hT2.keep (by repeat (first | with_reducible (first | refine .alloc ?_ _ | refine .drewN ?_ _ | refine .drew ?_) | ((with_reducible refine .setCell ?_ ?_ _); rotate_left; focus (first | (left; simp; done) | (right; simp; (first | done | omega)))) | with_reducible (first | assumption | exact .refl _ _ | refine .trans0 ?_ ‹_›)))) (Frm.at0 (by repeat (first | with_reducible (first | refine .alloc ?_ _ | refine .drewN ?_ _ | refine .drew ?_) | ((with_reducible refine .setCell ?_ ?_ _); rotate_left; focus (first | (left; simp; done) | (right; simp; (first | done | omega)))) | with_reducible (first | assumption | exact .refl _ _ | refine .trans0 ?_ ‹_›))) hbx6) (by simp [hbF]) hbG).mono ?_; rintro e w6 ⟨rfl, hbx7, F6, ok6⟩; generalize hr2 : evalT l st d m3 t1 lev3 = r2 at *; obtain ⟨x2, lev4, m4⟩ := r2; dsimp only at hbx7 ok6; obtain ⟨m4ge, hok6⟩ := ok6; have HR2 := Lib.hid hr2; clear hr2; have hbt7 := F6.at_ (w := _) (Frm.at0 (by repeat (first | with_reducible (first | refine .alloc ?_ _ | refine .drewN ?_ _ | refine .drew ?_) | ((with_reducible refine .setCell ?_ ?_ _); rotate_left; focus (first | (left; simp; done) | (right; simp; (first | done | omega)))) | with_reducible (first | assumption | exact .refl _ _ | refine .trans0 ?_ ‹_›))) hbt6) (by simp; omega); obtain ⟨U0, U1, U2, U3, U4, U5⟩ := blk4 hbt7; have F06 := ((F02.trans' F5).drew).trans' F6; have V0 := (F6.cell (o := off + 4) (s := none) hblt5 hb0x).trans G0; have V1 := (F6.cell (o := off + 4 + 1) (s := none) hblt5 hb0x).trans G1; have V2 := (F6.cell (o := off + 4 + 2) (s := none) hblt5 hb0x).trans G2; have V3 := (F6.cell (o := off + 4 + 3) (s := none) hblt5 hb0x).trans G3; rcases x2 with c | b; (focus (simp only [ending]; go_wp2; rw [HE2.out.trans (evalB_err2 _ _ _ _ _ _ kn hlen (by rw [ht0]; exact HR.out) (by rw [ht1]; exact HR2.out))]; exact ⟨rfl, rfl, hbx7, F06, EvalOK.err (by omega) _ _⟩)); simp only [ending])
          refine hK.out _ _ (fun _ => ?rgnS7) (fun hH => ?rgnB7)
          case rgnS7 => (first | (dsimp only; go_keep) | go_keep)
          case' rgnB7 => ((try clear hHeld); have hHeld := hH (by decide); clear hH)
          clear hK K'
          try simp only [Act.put, List.setIfInBounds_toArray, List.set_cons_zero, List.set_cons_succ]
          refine one 9 (by kernel_rfl) rfl (fun K' hK => ?_)
          (go_simp; refine (arith_two _ _ _ _ ia (hok6 _ rfl).2).mono ?_; rintro e w7 ⟨rfl, rfl⟩; generalize hq : Arith.two _ _ _ = q; have HQ := Lib.hid hq; clear hq; rcases q with c | n2; (focus (simp only [ending]; go_wp2; rw [HE2.out.trans (evalB_two _ _ _ _ _ _ kn hlen (by rw [ht0]; exact HR.out) (by rw [ht1]; exact HR2.out)), HQ.out]; exact ⟨rfl, rfl, hbx7, F06, EvalOK.err (by omega) _ _⟩)); simp only [ending])
          refine hK.out _ _ (fun _ => ?rgnS8) (fun hH => ?rgnB8)
          case rgnS8 => (first | (dsimp only; go_keep) | go_keep)
          case' rgnB8 => ((try clear hHeld); have hHeld := hH (by decide); clear hH)
          clear hK K'
          try simp only [Act.put, List.setIfInBounds_toArray, List.set_cons_zero, List.set_cons_succ]
          refine Pend.start [10] ?_
          (refine tk (v := ?_) rfl (by kernel_rfl) (by rfl) (fun _ _ _ h => h) (by assumption) ?_ ?_; rotate_left; (focus (intro wq hSw; (try dsimp only at hSw); go_simp; (first | done | with_reducible rfl))); try simp only [Act.put, List.setIfInBounds_toArray, List.set_cons_zero, List.set_cons_succ])
          refine Pend.done ?_
          refine wpAnyU_done (by kernel_rfl) ?_ _
          go_wp2
          go_ret
          have i2 := Arith.two_i64 (hok6 _ rfl).2 HQ.out
          have m4le := (hok6 _ rfl).1
          rw [HE2.out.trans (evalB_two _ _ _ _ _ _ kn hlen (by rw [ht0]; exact HR.out) (by rw [ht1]; exact HR2.out)), HQ.out]
          exact ⟨rfl, hbx7, F06, EvalOK.one (by omega) m4le (fun a ha => by cases ha; exact i2) _⟩
        · go_ret
          rw [HE2.out.trans (evalB_abs _ _ _ _ _ _ kn ‹_› (by rw [ht0]; exact HR.out) (by rw [← nm_eq]; assumption) ‹_›)]
          exact ⟨rfl, hbx6, F02.trans' F5, EvalOK.one (by omega) (hok _ rfl).1 (fun a ha => by cases ha; exact (hok _ rfl).2) _⟩
        · rw [HE2.out.trans (evalB_minus _ _ _ _ _ _ kn ‹_› (by rw [ht0]; exact HR.out) (.inr ‹_›)), HQ.out]
          exact ⟨rfl, rfl, hbx6, F02.trans' F5, EvalOK.err (by omega) _ _⟩
        · go_ret
          have ia := (hok _ rfl).2
          have im := Arith.minus_i64 HQ.out
          rw [HE2.out.trans (evalB_minus _ _ _ _ _ _ kn ‹_› (by rw [ht0]; exact HR.out) (.inr ‹_›)), HQ.out]
          exact ⟨rfl, hbx6, F02.trans' F5, EvalOK.one (by omega) (hok _ rfl).1 (fun a ha => by cases ha; exact im) _⟩
        · rw [HE2.out.trans (evalB_minus _ _ _ _ _ _ kn ‹_› (by rw [ht0]; exact HR.out) (.inl (by rw [← nm_eq]; assumption))), HQ.out]
          exact ⟨rfl, rfl, hbx6, F02.trans' F5, EvalOK.err (by omega) _ _⟩
        · go_ret
          have im := Arith.minus_i64 HQ.out
          rw [HE2.out.trans (evalB_minus _ _ _ _ _ _ kn ‹_› (by rw [ht0]; exact HR.out) (.inl (by rw [← nm_eq]; assumption))), HQ.out]
          exact ⟨rfl, hbx6, F02.trans' F5, EvalOK.one (by omega) (hok _ rfl).1 (fun a ha => by cases ha; exact im) _⟩
      · have HF := Lib.hid (HE2.out.trans (evalB_no _ _ _ _ _ _ _ k1 k2 kn))
        clear HE2
        by_cases k3 : k = 3
        · have kf : Arith.known s ts.length = false := by simpa [k3] using kn
          go_wp2_with (go_at_call 78; refine (arith_known _ _ _).mono ?_; rintro e w' ⟨rfl, rfl⟩)
          all_goals (rw [HF.out]; exact ⟨rfl, rfl, hbx5, F02, EvalOK.err (by omega) _ _⟩)
        · go_wp2
          rw [HF.out]
          exact ⟨rfl, rfl, hbx5, F02, EvalOK.err (by omega) _ _⟩
end Go.Proofs.Ytkiofaojokofbaa
namespace Go.Proofs.Ytkiofaojokofbaa
open Go.RowKit

def Term.zero : Term := .mk 0 0 ⟨#[]⟩ []
namespace PStore
def fillTs (f : Int → Int → Term → Term × Int × Int) : Int → Int → List Term → List Term × Int × Int
  | l, e, [] => ([], l, e)
  | l, e, t :: ts => ((f l e t).1 :: (fillTs f (f l e t).2.1 (f l e t).2.2 ts).1, (fillTs f (f l e t).2.1 (f l e t).2.2 ts).2)
/-- The filler: how many parts are left, the error; both go on. -/
def fillT (s : PStore) : Nat → Int → Int → Int → Term → Term × Int × Int
  | 0, _, l, e, _ => (.zero, l, e)
  | d + 1, deep, l, e, t =>
    let e1 := if e = 0 ∧ 60 < deep then 7 else e
    let l1 := wrap64 (l - 1)
    let e2 := if e1 = 0 ∧ l1 < 0 then 3 else e1
    if e2 = 0 then (.mk (s.walk t).kind (s.walk t).n (s.walk t).s (fillTs (fillT s d (deep + 1)) l1 0 (s.walk t).kids).1, (fillTs (fillT s d (deep + 1)) l1 0 (s.walk t).kids).2) else (.zero, l1, e2)
end PStore

theorem wrap_i64 (x : Int) : I64 (wrap64 x) := by
  unfold I64 wrap64; omega
theorem PStore.fillT_bad {s : PStore} {d : Nat} {deep l e : Int} {t : Term} (h : e ≠ 0) : s.fillT (d + 1) deep l e t = (.zero, wrap64 (l - 1), e) := by
  simp [fillT, h]
theorem PStore.fillT_deep {s : PStore} {d : Nat} {deep l : Int} {t : Term} (h : 60 < deep) : s.fillT (d + 1) deep l 0 t = (.zero, wrap64 (l - 1), 7) := by
  simp [fillT, h]
theorem PStore.fillT_full {s : PStore} {d : Nat} {deep l : Int} {t : Term} (h : ¬ 60 < deep) (h2 : wrap64 (l - 1) < 0) : s.fillT (d + 1) deep l 0 t = (.zero, wrap64 (l - 1), 3) := by
  simp [fillT, h, h2]
theorem PStore.fillT_ok {s : PStore} {d : Nat} {deep l : Int} {t : Term} (h : ¬ 60 < deep) (h2 : ¬ wrap64 (l - 1) < 0) :
    s.fillT (d + 1) deep l 0 t = (.mk (s.walk t).kind (s.walk t).n (s.walk t).s (fillTs (fillT s d (deep + 1)) (wrap64 (l - 1)) 0 (s.walk t).kids).1, (fillTs (fillT s d (deep + 1)) (wrap64 (l - 1)) 0 (s.walk t).kids).2) := by
  simp [fillT, h, h2]

theorem blk3 {w : World} {b : Nat} {c0 c1 c2 : Value} {ty : TypeId} (h : w.heap[b]? = some (.cells #[c0, c1, c2] ty (0, 0))) :
    w.cell? ⟨b, 0, none⟩ = some c0 ∧ w.cell? ⟨b, 1, none⟩ = some c1 ∧ w.cell? ⟨b, 2, none⟩ = some c2 ∧ (∀ o, w.frozen? ⟨b, o, none⟩ = false) ∧ b < w.heap.size :=
  ⟨by simp [World.cell?, h], by simp [World.cell?, h], by simp [World.cell?, h], fun o => by simp [World.frozen?, h], (Array.getElem?_eq_some_iff.1 h).1⟩

theorem OwnTerms.frm1 {F : List Nat} {w w' : World} {base fb : Nat} {v : Value} {ts : List Term} {xs : List Value} (h : OwnTerms F w base v ts xs) (f : Frm [fb] w w') (hF : fb ∈ F) (hb : fb < base) : OwnTerms F w' base v ts xs := by
  have hlt := h.own_lt
  obtain ⟨h1, h2, h3⟩ := h
  refine ⟨?_, h2, fun j t hj => ?_⟩
  · refine h1.kept (row := some fb) ⟨f.os, f.tape, f.output, f.size, fun k hk hn => f.block k hk (by simpa using fun e => hn (by rw [e]))⟩ ?_
    cases hv : v.ownBlock with
    | none => simp
    | some g =>
      have := (hlt g (by simp [hv])).1
      refine .inr (fun e => ?_)
      cases e
      omega
  · obtain ⟨c0, c1, c2, c3, e0, e1, e2, e3, ht⟩ := h3 j t hj
    exact ⟨c0, c1, c2, c3, e0, e1, e2, e3, ht.frm f (fun b hb => by rw [List.mem_singleton.1 hb]; exact List.mem_append.2 (.inr hF))⟩
theorem fillTs_step {f : Int → Int → Term → Term × Int × Int} {l e : Int} {t : Term} {ts : List Term} : PStore.fillTs f l e (t :: ts) = ((f l e t).1 :: (PStore.fillTs f (f l e t).2.1 (f l e t).2.2 ts).1, (PStore.fillTs f (f l e t).2.1 (f l e t).2.2 ts).2) := rfl

set_option maxRecDepth 100000 in
set_option maxHeartbeats 2000000 in
theorem store_fill (sb fb : Nat) (st : PStore) : ∀ (d : Nat) (deep l e : Int) (t : Term) (G F : List Nat) (va : Value) (w : World), 1 ≤ d → 62 ≤ d + deep → 0 ≤ deep → deep ≤ 61 → I64 l → I64 e → StoreAt G F w sb st → TermV F w t va → fb ∈ F → fb ∉ G →
    w.heap[fb]? = some (.cells #[.pointer (some ⟨sb, 0, none⟩), .int .i64 l, .int .i64 e] 101 (0, 0)) →
    Calls Try.prog 62 #[.pointer (some ⟨fb, 0, none⟩), va, .int .i64 deep] w fun x w' => (∃ v', x = .returned v' ∧ TermV F w' (st.fillT d deep l e t).1 v') ∧
      w'.heap[fb]? = some (.cells #[.pointer (some ⟨sb, 0, none⟩), .int .i64 (st.fillT d deep l e t).2.1, .int .i64 (st.fillT d deep l e t).2.2] 101 (0, 0)) ∧ I64 (st.fillT d deep l e t).2.1 ∧ I64 (st.fillT d deep l e t).2.2 ∧ Frm [fb] w w' := by
  intro d
  induction d with
  | zero => intro deep l e t G F va w h; omega
  | succ d ih =>
    intro deep l e t G F va w _ hd hd0 hd1 il ie hs ht hfF hfG hfb
    have IH := Lib.hid ih
    clear ih
    have hF := hs.lt
    have hsub := hs.sub
    obtain ⟨q0, q1, q2, q3, q4⟩ := blk3 hfb
    have hv := ht
    obtain ⟨A, cap, rfl⟩ := ht.form
    obtain ⟨il1, il2⟩ := il
    obtain ⟨ie1, ie2⟩ := ie
    go_enter Try.func62, Try.ntmps62
    go_wp2
    generalize hW : (World.alloc w _).alloc _ = W
    have hbt : W.heap[w.heap.size]? = some (.cells #[.int .i64 t.kind, .int .i64 t.n, .string t.s, .slice A t.kids.length cap] 26 (0, 0)) := by subst hW; exact (by repeat (first | rw [heap_alloc_at] | rw [heap_size_alloc] | rfl | rw [if_pos (by omega)] | rw [if_neg (by omega)]))
    have hbr : W.heap[w.heap.size + 1]? = some (.cells #[.int .i64 0, .int .i64 0, .string ⟨#[]⟩, .slice none 0 0] 26 (0, 0)) := by subst hW; exact (by repeat (first | rw [heap_alloc_at] | rw [heap_size_alloc] | rfl | rw [if_pos (by omega)] | rw [if_neg (by omega)]))
    have FW : Frm [] w W := by subst hW; exact (by repeat (first | with_reducible (first | refine .alloc ?_ _ | refine .drewN ?_ _ | refine .drew ?_) | ((with_reducible refine .setCell ?_ ?_ _); rotate_left; focus (first | (left; simp; done) | (right; simp; (first | done | omega)))) | with_reducible (first | assumption | exact .refl _ _ | refine .trans0 ?_ ‹_›)))
    have hszW : w.heap.size + 2 ≤ W.heap.size := by subst hW; simp
    have hF2 : ∀ b, b ∈ w.heap.size :: (w.heap.size + 1) :: F → b < W.heap.size := by
      intro b hb
      rcases List.mem_cons.1 hb with rfl | hb
      · omega
      rcases List.mem_cons.1 hb with rfl | hb
      · omega
      have := hF b hb; omega
    have hsW : StoreAt G (w.heap.size :: (w.heap.size + 1) :: F) W sb st := hs.more FW (by simp) (by simp) (new_two (Nat.le_refl _) (by omega)) (fun b hb => by simp [hb]) hF2
    have htW := (ht.away (F' := w.heap.size :: (w.heap.size + 1) :: F) (new_two (Nat.le_refl _) (by omega))).keep FW
    have hbf := FW.at0 hfb
    clear hW hs ht hv hfb q0 q1 q2 q3
    obtain ⟨p0, p1, p2, p3, p4⟩ := blk3 hbf
    obtain ⟨r0, r1, r2, r3, r4, r5⟩ := blk4 hbt
    refine wp_region_U (fun w' => w'.cell? ⟨fb, 0, none⟩ = some (.pointer (some ⟨sb, 0, none⟩)) ∧ w'.cell? ⟨w.heap.size, 0, none⟩ = some (.int .i64 t.kind) ∧ w'.cell? ⟨w.heap.size, 1, none⟩ = some (.int .i64 t.n) ∧ w'.cell? ⟨w.heap.size, 2, none⟩ = some (.string t.s) ∧ w'.cell? ⟨w.heap.size, 3, none⟩ = some (.slice A t.kids.length cap)) (fun i => Nat.blt i 5) (by kernel_rfl) ?rgnS1 (fun hHeld => ?rgnB1)
    case rgnS1 => (first | (dsimp only; go_keep) | go_keep)
    case' rgnB1 => skip
    refine Pend.start [0, 1, 2, 3, 4] ?_
    iterate 5 (refine tk (v := ?_) rfl (by kernel_rfl) (by rfl) (fun _ _ _ h => h) (by assumption) ?_ ?_; rotate_left; (focus (intro wq hSw; (try dsimp only at hSw); go_simp; (first | done | with_reducible rfl))); try simp only [Act.put, List.setIfInBounds_toArray, List.set_cons_zero, List.set_cons_succ])
    refine Pend.done ?_
    refine one 5 (by kernel_rfl) rfl (fun K' hK => ?_)
    (go_simp; refine (store_walk G (w.heap.size :: (w.heap.size + 1) :: F) sb st t _ _ (hsW.keep (by repeat (first | with_reducible (first | refine .alloc ?_ _ | refine .drewN ?_ _ | refine .drew ?_) | ((with_reducible refine .setCell ?_ ?_ _); rotate_left; focus (first | (left; simp; done) | (right; simp; (first | done | omega)))) | with_reducible (first | assumption | exact .refl _ _ | refine .trans0 ?_ ‹_›)))) (htW.keep (by repeat (first | with_reducible (first | refine .alloc ?_ _ | refine .drewN ?_ _ | refine .drew ?_) | ((with_reducible refine .setCell ?_ ?_ _); rotate_left; focus (first | (left; simp; done) | (right; simp; (first | done | omega)))) | with_reducible (first | assumption | exact .refl _ _ | refine .trans0 ?_ ‹_›))))).mono ?_; rintro e w2 ⟨⟨v2, rfl, hv2⟩, F2⟩; obtain ⟨A2, cap2, rfl⟩ := hv2.form; have hbf2 := F2.at0 hbf; have hbt2 := F2.at0 hbt; have hbr2 := F2.at0 hbr; obtain ⟨P0, P1, P2, P3, P4⟩ := blk3 hbf2; obtain ⟨R0, R1, R2, R3, R4, R5⟩ := blk4 hbt2; dsimp only)
    refine hK.out _ _ (fun h => absurd h (by decide)) (fun _ => ?_)
    clear hK K'
    try simp only [Act.put, List.setIfInBounds_toArray, List.set_cons_zero, List.set_cons_succ]
    refine one 6 (by kernel_rfl) rfl (fun K' hK => ?_)
    go_simp
    refine hK.out _ _ (fun h => absurd h (by decide)) (fun _ => ?_)
    clear hK K'
    try simp only [Act.put, List.setIfInBounds_toArray, List.set_cons_zero, List.set_cons_succ]
    refine wpAnyU_done (by kernel_rfl) ?_ _
    have HU : Hid (st.walk t = st.walk t) := rfl
    generalize hu : st.walk t = u at *
    have HU := Lib.hid hu
    clear hu
    generalize hW1 : World.setCell _ _ (.slice A2 _ _) = W1
    have F1 : Frm [w.heap.size] w2 W1 := by subst hW1; exact (by repeat (first | with_reducible (first | refine .alloc ?_ _ | refine .drewN ?_ _ | refine .drew ?_) | ((with_reducible refine .setCell ?_ ?_ _); rotate_left; focus (first | (left; simp; done) | (right; simp; (first | done | omega)))) | with_reducible (first | assumption | exact .refl _ _ | refine .trans0 ?_ ‹_›)))
    have F02 : Frm [] w w2 := (FW.drew).trans0 F2
    have F01 : Frm [] w W1 := F02.trans F1 (fun x hx => .inr (by rw [List.mem_singleton.1 hx]; exact Nat.le_refl _))
    have hfw : fb < w.heap.size := hF fb hfF
    have hbf1 := F1.at_ hbf2 (by simp; omega)
    have hbr1 := F1.at_ hbr2 (by simp)
    have hbu : W1.heap[w.heap.size]? = some (.cells #[.int .i64 u.kind, .int .i64 u.n, .string u.s, .slice A2 u.kids.length cap2] 26 (0, 0)) := by subst hW1; exact box_store4 hbt2 _ _ _ _
    have hvu : TermV (w.heap.size :: (w.heap.size + 1) :: F) W1 u (.agg #[.int .i64 u.kind, .int .i64 u.n, .string u.s, .slice A2 u.kids.length cap2]) := hv2.frm F1 (by simp)
    have hs1 : StoreAt G (w.heap.size :: (w.heap.size + 1) :: F) W1 sb st := (hsW.keep ((Frm.refl [] W).drew.trans0 F2)).frm F1 (fun b hb hg => by have := hF _ (hsub _ hg); rw [List.mem_singleton.1 hb] at this; omega) (by simp)
    clear hW1 F1 hbf2 hbr2 hbt2 hv2 hbf hbt hbr htW hsW p0 p1 p2 p3 p4 r0 r1 r2 r3 r4 r5 P0 P1 P2 P3 P4 R0 R1 R2 R3 R4 R5 FW hszW F2
    obtain ⟨p0, p1, p2, p3, p4⟩ := blk3 hbf1
    obtain ⟨r0, r1, r2, r3, r4, r5⟩ := blk4 hbu
    obtain ⟨y0, y1, y2, y3, y4, y5⟩ := blk4 hbr1
    have hfb1 : fb ≠ w.heap.size + 1 := by omega
    have hfb0 : fb ≠ w.heap.size := by omega
    by_cases he0 : e = 0
    · subst he0
      by_cases hdp : 60 < deep
      · have HZ := Lib.hid (PStore.fillT_deep (s := st) (d := d) (l := l) (t := t) hdp)
        go_wp2
        rw [HZ.out]
        refine bodyPost_ret (v := .agg #[.int .i64 0, .int .i64 0, .string ⟨#[]⟩, .slice none 0 0]) (by simp [results, Try.results62, go_sem, y0, y1, y2, y3]) rfl ?_
        refine ⟨⟨_, rfl, TermV.leaf F _ (by unfold I64; omega) (by unfold I64; omega) (by decide)⟩, ?_, wrap_i64 _, (show I64 7 from ⟨by decide, by decide⟩), (by repeat (first | with_reducible (first | refine .alloc ?_ _ | refine .drewN ?_ _ | refine .drew ?_) | ((with_reducible refine .setCell ?_ ?_ _); rotate_left; focus (first | (left; simp; done) | (right; simp; (first | done | omega)))) | with_reducible (first | assumption | exact .refl _ _ | refine .trans0 ?_ ‹_›)))⟩
        repeat rw [heap_setCell_ne _ _ _ (by simp; omega)]
        exact heap_setCell_at (heap_setCell_at hbf1 2 _) 1 _
      · by_cases hlf : wrap64 (l - 1) < 0
        · have HZ := Lib.hid (PStore.fillT_full (s := st) (d := d) (t := t) hdp hlf)
          go_wp2
          rw [HZ.out]
          refine bodyPost_ret (v := .agg #[.int .i64 0, .int .i64 0, .string ⟨#[]⟩, .slice none 0 0]) (by simp [results, Try.results62, go_sem, y0, y1, y2, y3]) rfl ?_
          refine ⟨⟨_, rfl, TermV.leaf F _ (by unfold I64; omega) (by unfold I64; omega) (by decide)⟩, ?_, wrap_i64 _, (show I64 3 from ⟨by decide, by decide⟩), (by repeat (first | with_reducible (first | refine .alloc ?_ _ | refine .drewN ?_ _ | refine .drew ?_) | ((with_reducible refine .setCell ?_ ?_ _); rotate_left; focus (first | (left; simp; done) | (right; simp; (first | done | omega)))) | with_reducible (first | assumption | exact .refl _ _ | refine .trans0 ?_ ‹_›)))⟩
          repeat rw [heap_setCell_ne _ _ _ (by simp; omega)]
          exact heap_setCell_at (heap_setCell_at hbf1 1 _) 2 _
        · have HZ := Lib.hid (PStore.fillT_ok (s := st) (d := d) (t := t) hdp hlf)
          rw [HU.out] at HZ
          generalize hl1 : wrap64 (l - 1) = l1 at *
          have il1' : I64 l1 := by rw [← hl1]; exact wrap_i64 _
          have hl1' := Lib.hid hl1
          go_wp2
          generalize hW2 : World.setCell W1 _ _ = W2
          have FW2 : Frm [fb] W1 W2 := by subst hW2; exact (Frm.refl [fb] W1).setCell (.inl (by simp)) _
          have hbf2 : W2.heap[fb]? = some (.cells #[.pointer (some ⟨sb, 0, none⟩), .int .i64 l1, .int .i64 0] 101 (0, 0)) := by subst hW2; exact heap_setCell_at hbf1 1 _
          have hsz2 : W2.heap.size = W1.heap.size := by subst hW2; simp [World.setCell]
          have F0W2 : Frm [fb] w W2 := (F01.mono (by simp)).trans' FW2
          have hbu2 := FW2.at_ hbu (by simpa using Ne.symm hfb0)
          have hbr2 := FW2.at_ hbr1 (by simpa using Ne.symm hfb1)
          have hvu2 := hvu
          obtain ⟨uk, un, us, kids⟩ := u
          simp only [Term.kids, Term.kind, Term.n, Term.s] at hvu hvu2 hbu2 HZ ⊢
          simp only [TermV] at hvu2
          obtain ⟨A4, cap4, he4, hk1, hn1, hs1', hl1k, hc, hc2, hk⟩ := hvu2
          simp only [Value.agg.injEq, Array.mk.injEq, List.cons.injEq, and_true, Value.slice.injEq, true_and] at he4
          obtain ⟨rfl, rfl⟩ := he4
          obtain ⟨i0, hi, hz0, hz1, hz2⟩ := info_parts Try.infoTerm
          have hfbs : fb < W2.heap.size := by omega
          have hsW1 : w.heap.size + 1 < W1.heap.size := y5
          have hdd : 1 ≤ d ∧ 62 ≤ (d : Int) + (deep + 1) ∧ 0 ≤ deep + 1 ∧ deep + 1 ≤ 61 := by omega
          clear hW2 p0 p1 p2 p3 p4 r0 r1 r2 r3 r4 r5 y0 y1 y2 y3 y4 y5 hbf1 hbr1 hbu hvu HU hl1' hl1
          have HS := Lib.hid (fun (F' : List Nat) (wx : World) => @StoreAt.more G (w.heap.size :: (w.heap.size + 1) :: F) F' [fb] W1 wx sb st hs1)
          clear hs1
          go_loopw [7, 59] (fun a i wr => ∃ (j : Nat) (ys : List Term) (lj ej : Int) (xs : List Value), j ≤ kids.length ∧ i = .int .i64 j ∧ ys.length = j ∧
              PStore.fillTs (st.fillT d (deep + 1)) l1 0 kids = (ys ++ (PStore.fillTs (st.fillT d (deep + 1)) lj ej (kids.drop j)).1, (PStore.fillTs (st.fillT d (deep + 1)) lj ej (kids.drop j)).2) ∧ I64 lj ∧ I64 ej ∧ Frm [fb] W2 wr ∧
              wr.heap[fb]? = some (.cells #[.pointer (some ⟨sb, 0, none⟩), .int .i64 lj, .int .i64 ej] 101 (0, 0)) ∧ OwnTerms (w.heap.size :: (w.heap.size + 1) :: F) wr W2.heap.size a ys xs) (fun _ i _ => kids.length - (intOf i).toNat)
          case atStart => exact ⟨0, [], l1, 0, [], Nat.zero_le _, rfl, rfl, rfl, il1', ⟨by decide, by decide⟩, Frm.refl _ _, hbf2, OwnTerms.nil _ _ _⟩
          case round =>
            obtain ⟨j, ys, lj, ej, xs, hj, rfl, hyl, hfl, ilj, iej, FR, hbfr, hown⟩ := hrel
            have HOWN := Lib.hid hown
            have HFL := Lib.hid hfl
            clear hown hfl
            by_cases hlt : j < kids.length
            · have FRw : Frm [fb] W1 wr := FW2.trans' FR
              have hszr := FR.size
              have hmemF : fb ∈ w.heap.size :: (w.heap.size + 1) :: F := by simp [hfF]
              have hnew : ∀ b, b ∈ u7.ownBlock.toList ++ (w.heap.size :: (w.heap.size + 1) :: F) → b ∈ w.heap.size :: (w.heap.size + 1) :: F ∨ W1.heap.size ≤ b := by
                intro b hb
                rcases List.mem_append.1 hb with hb | hb
                · exact .inr (by have := (HOWN.out.own_lt b hb).1; omega)
                · exact .inl hb
              have hlt1 : ∀ b, b ∈ u7.ownBlock.toList ++ (w.heap.size :: (w.heap.size + 1) :: F) → b < wr.heap.size := by
                intro b hb
                rcases List.mem_append.1 hb with hb | hb
                · exact (HOWN.out.own_lt b hb).2
                · have := hF2 b hb; have := F01.size; have := FRw.size
                  rcases List.mem_cons.1 hb with rfl | hb
                  · omega
                  rcases List.mem_cons.1 hb with rfl | hb
                  · omega
                  have := hF b hb; omega
              have hsr : StoreAt G (u7.ownBlock.toList ++ (w.heap.size :: (w.heap.size + 1) :: F)) wr sb st := HS.out _ wr FRw (fun b hb => by rw [List.mem_singleton.1 hb]; exact hfG) (fun b hb => by rw [List.mem_singleton.1 hb]; exact hmemF) hnew (fun b hb => List.mem_append.2 (.inr hb)) hlt1
              obtain ⟨b', off, A', cap', rfl, hb1, hb2, e0, e1, e2, e3, hkid⟩ := ((hk.away (F' := u7.ownBlock.toList ++ (w.heap.size :: (w.heap.size + 1) :: F)) hnew).frm FRw (fun b hb => by rw [List.mem_singleton.1 hb]; exact List.mem_append.2 (.inr hmemF))).kid j hlt
              have hdrop := List.drop_eq_getElem_cons hlt
              generalize kids[j] = kd at *
              have HFL2 := HFL.out
              rw [hdrop, fillTs_step] at HFL2
              have HFL := Lib.hid HFL2
              clear HFL2 hdrop
              have hmm : fb ∈ u7.ownBlock.toList ++ (w.heap.size :: (w.heap.size + 1) :: F) := List.mem_append.2 (.inr hmemF)
              obtain ⟨hd1', hd2', hd3', hd4'⟩ := hdd
              go_wp2_with (first
                | (go_at_call 62; refine (IH.out (deep + 1) lj ej kd G (u7.ownBlock.toList ++ (w.heap.size :: (w.heap.size + 1) :: F)) _ _ hd1' hd2' hd3' hd4' ilj iej (hsr.keep (by repeat (first | with_reducible (first | refine .alloc ?_ _ | refine .drewN ?_ _ | refine .drew ?_) | ((with_reducible refine .setCell ?_ ?_ _); rotate_left; focus (first | (left; simp; done) | (right; simp; (first | done | omega)))) | with_reducible (first | assumption | exact .refl _ _ | refine .trans0 ?_ ‹_›)))) (hkid.keep (by repeat (first | with_reducible (first | refine .alloc ?_ _ | refine .drewN ?_ _ | refine .drew ?_) | ((with_reducible refine .setCell ?_ ?_ _); rotate_left; focus (first | (left; simp; done) | (right; simp; (first | done | omega)))) | with_reducible (first | assumption | exact .refl _ _ | refine .trans0 ?_ ‹_›)))) hmm hfG (((by repeat (first | with_reducible (first | refine .alloc ?_ _ | refine .drewN ?_ _ | refine .drew ?_) | ((with_reducible refine .setCell ?_ ?_ _); rotate_left; focus (first | (left; simp; done) | (right; simp; (first | done | omega)))) | with_reducible (first | assumption | exact .refl _ _ | refine .trans0 ?_ ‹_›))) : Frm [] wr _).at0 hbfr)).mono ?_; rintro x w3 ⟨⟨v3, rfl, hv3⟩, hb3, il3, ie3, F3⟩; obtain ⟨A3, cap3, rfl⟩ := hv3.form; have HV3 := Lib.hid hv3; clear hv3; have F3' : Frm [fb] wr w3 := ((Frm.refl [fb] wr).alloc _).trans' F3; have hsz3 := F3'.size; have hown2 := Lib.hid (fun o => HOWN.out.frm1 (F3'.alloc o) hmemF hfbs))
                | (at_builtin; go_must (refine wpList_append_own_at _ rfl _ _ 22 rfl W2.heap.size 26 i0 _ 4 56 Try.underlying22 hi hz0 hz1 hz2 rfl (by decide) u7 _ _ rfl (hown2.out _).1 ⟨w3.heap.size, 0, none⟩ 1 1 [.int .i64 (st.fillT d (deep + 1) lj ej kd).1.kind, .int .i64 (st.fillT d (deep + 1) lj ej kd).1.n, .string (st.fillT d (deep + 1) lj ej kd).1.s, .slice A3 (st.fillT d (deep + 1) lj ej kd).1.kids.length cap3] rfl rfl ?c1x ?c2x ?c3x ?c4x ?c5x ?_); (case c1x => exact cells_new _ _ _); (case c2x => simp [Value.oneCell']); (case c3x => (first | (unfold maxLen; omega) | (simp [maxLen]; omega))); (case c4x => (first | omega | (simp; omega))); (case c5x => (first | omega | (simp; omega))); intro v4 w4 how4 hgw4 _ hatw4))
              have hbm3 : w3.heap.size = w3.heap.size := rfl
              have hfb3 : fb < w3.heap.size := by omega
              refine ⟨⟨j + 1, ys ++ [(st.fillT d (deep + 1) lj ej kd).1], (st.fillT d (deep + 1) lj ej kd).2.1, (st.fillT d (deep + 1) lj ej kd).2.2, _, by omega, by simp, by simp [hyl], ?_, il3, ie3, ?_, ?_, (hown2.out _).snoc (HV3.out.keep (by repeat (first | with_reducible (first | refine .alloc ?_ _ | refine .drewN ?_ _ | refine .drew ?_) | ((with_reducible refine .setCell ?_ ?_ _); rotate_left; focus (first | (left; simp; done) | (right; simp; (first | done | omega)))) | with_reducible (first | assumption | exact .refl _ _ | refine .trans0 ?_ ‹_›)))) how4 hgw4 hatw4⟩, by simp [intOf]; omega⟩
              · rw [HFL.out]; simp [List.append_assoc]
              · exact ((FR.trans' F3').alloc _).grown hgw4 (fun b hb => .inr (HOWN.out.own_lt b (by simpa using hb)).1)
              · refine (hgw4.block fb (by simp; omega) (fun e => ?_)).trans ((Below.heap_alloc _ _ _ hfb3).trans hb3)
                have := (HOWN.out.own_lt fb (by simp [← e])).1
                omega
            · have hje : j = kids.length := by omega
              have HFL2 := HFL.out
              rw [hje, List.drop_length] at HFL2
              simp only [PStore.fillTs, List.append_nil] at HFL2
              rw [HFL2] at HZ
              clear HFL HFL2
              subst hje
              have hbu3 := FR.at_ hbu2 (by simpa using Ne.symm hfb0)
              have hbr3 := FR.at_ hbr2 (by simpa using Ne.symm hfb1)
              obtain ⟨A3, cap3, rfl, hle3, hcap3, hk3⟩ := HOWN.out.kids (fun b hb => by
                have := hsW1
                rcases List.mem_cons.1 hb with rfl | hb
                · omega
                rcases List.mem_cons.1 hb with rfl | hb
                · omega
                have := hF b hb; omega)
              obtain ⟨r0, r1, r2, r3, r4, r5⟩ := blk4 hbu3
              obtain ⟨y0, y1, y2, y3, y4, y5⟩ := blk4 hbr3
              have F0r : Frm [fb] w wr := F0W2.trans' FR
              have hyl' := hyl
              rw [hyl] at hle3
              rw [show (Value.slice A3 ys.length cap3) = .slice A3 kids.length cap3 by rw [hyl]] at *
              go_wp2
              rw [HZ.out]
              refine bodyPost_ret (v := .agg #[.int .i64 uk, .int .i64 un, .string us, .slice A3 kids.length cap3]) (by simp [results, Try.results62, go_sem, y0, y1, y2, y3]) rfl ?_
              have hfin : Frm [w.heap.size, w.heap.size + 1] wr (((((wr.setCell ⟨w.heap.size, 3, none⟩ (.slice A3 kids.length cap3)).setCell ⟨w.heap.size + 1, 0, none⟩ (.int .i64 uk)).setCell ⟨w.heap.size + 1, 1, none⟩ (.int .i64 un)).setCell ⟨w.heap.size + 1, 2, none⟩ (.string us)).setCell ⟨w.heap.size + 1, 3, none⟩ (.slice A3 kids.length cap3)) :=
                (((((Frm.refl [w.heap.size, w.heap.size + 1] wr).setCell (.inl (by simp)) _).setCell (.inl (by simp)) _).setCell (.inl (by simp)) _).setCell (.inl (by simp)) _).setCell (.inl (by simp)) _
              refine ⟨⟨_, rfl, TermV.of_kids (G := [w.heap.size, w.heap.size + 1]) hk1 hn1 hs1' (by omega) (by omega) hcap3 hk3 hfin (by simp) (fun b hb => by simp [hb]) hyl'.symm⟩, hfin.at_ hbfr (by simp; omega), ilj, iej, F0r.trans hfin (fun x hx => .inr ?_)⟩
              rcases List.mem_cons.1 hx with rfl | hx
              · exact Nat.le_refl _
              · rw [List.mem_singleton.1 hx]; omega
    · have heb : (e == 0) = false := by simpa using he0
      have HZ := Lib.hid (PStore.fillT_bad (s := st) (d := d) (deep := deep) (l := l) (t := t) he0)
      clear he0
      go_wp2
      rw [HZ.out]
      refine bodyPost_ret (v := .agg #[.int .i64 0, .int .i64 0, .string ⟨#[]⟩, .slice none 0 0]) (by simp [results, Try.results62, go_sem, y0, y1, y2, y3]) rfl ?_
      refine ⟨⟨_, rfl, TermV.leaf F _ (by unfold I64; omega) (by unfold I64; omega) (by decide)⟩, ?_, wrap_i64 _, ⟨ie1, ie2⟩, (by repeat (first | with_reducible (first | refine .alloc ?_ _ | refine .drewN ?_ _ | refine .drew ?_) | ((with_reducible refine .setCell ?_ ?_ _); rotate_left; focus (first | (left; simp; done) | (right; simp; (first | done | omega)))) | with_reducible (first | assumption | exact .refl _ _ | refine .trans0 ?_ ‹_›)))⟩
      repeat rw [heap_setCell_ne _ _ _ (by simp; omega)]
      exact heap_setCell_at hbf1 1 _
end Go.Proofs.Ytkiofaojokofbaa
namespace Go.Proofs.Ytkiofaojokofbaa
open Go.RowKit

def PStore.full (s : PStore) (t : Term) : Term × Int := if (s.fillT 61 1 1000 0 t).2.2 = 0 then ((s.fillT 61 1 1000 0 t).1, 0) else (.zero, (s.fillT 61 1 1000 0 t).2.2)

theorem box4_frm' (w : World) (b : Nat) (d0 d1 d2 d3 : Value) : Frm [b] w ((((w.setCell ⟨b, 0, none⟩ d0).setCell ⟨b, 1, none⟩ d1).setCell ⟨b, 2, none⟩ d2).setCell ⟨b, 3, none⟩ d3) :=
  ((((Frm.refl [b] w).setCell (.inl (by simp)) _).setCell (.inl (by simp)) _).setCell (.inl (by simp)) _).setCell (.inl (by simp)) _
set_option maxRecDepth 100000 in
set_option maxHeartbeats 1000000 in
theorem store_full (G F : List Nat) (sb : Nat) (st : PStore) (t : Term) (va : Value) (w : World) (hs : StoreAt G F w sb st) (ht : TermV F w t va) :
    Calls Try.prog 52 #[.pointer (some ⟨sb, 0, none⟩), va] w fun e w' => (∃ v', e = .returned (.tuple #[v', .int .i64 (st.full t).2]) ∧ TermV F w' (st.full t).1 v') ∧ Frm [] w w' := by
  have hF := hs.lt
  have hGF := hs.sub
  have hv := ht
  obtain ⟨A, cap, rfl⟩ := ht.form
  have hfG : w.heap.size + 2 ∉ G := fun h => by have := hF _ (hGF _ h); omega
  have i1000 : I64 1000 := ⟨by decide, by decide⟩
  have i0 : I64 0 := ⟨by decide, by decide⟩
  have hmm : w.heap.size + 2 ∈ (w.heap.size + 1) :: (w.heap.size + 2) :: F := by simp
  have hF2 : ∀ (o o' o'' : Obj), ∀ b, b ∈ (w.heap.size + 1) :: (w.heap.size + 2) :: F → b < (((w.alloc o).alloc o').alloc o'').heap.size := by
    intro o o' o'' b hb
    rcases List.mem_cons.1 hb with rfl | hb
    · simp
    rcases List.mem_cons.1 hb with rfl | hb
    · simp
    · have := hF b hb; simp; omega
  cases hx : decide ((st.fillT 61 1 1000 0 t).2.2 = 0)
  all_goals
    have hx' := hx
    simp only [decide_eq_true_eq, decide_eq_false_iff_not] at hx'
  · have HX : Hid (st.full t = (.zero, (st.fillT 61 1 1000 0 t).2.2)) := by show _ = _; unfold PStore.full; rw [if_neg hx']
    have hxb : ((st.fillT 61 1 1000 0 t).2.2 == 0) = false := by simpa using hx'
    clear hx hx'
    go_enter Try.func52, Try.ntmps52
    go_wp2_with (go_at_call 62; refine (store_fill sb (w.heap.size + 2) st 61 1 1000 0 t G ((w.heap.size + 1) :: (w.heap.size + 2) :: F) _ _ (by omega) (by omega) (by omega) (by omega) i1000 i0 (hs.more (H := []) (by repeat (first | with_reducible (first | refine .alloc ?_ _ | refine .drewN ?_ _ | refine .drew ?_) | ((with_reducible refine .setCell ?_ ?_ _); rotate_left; focus (first | (left; simp; done) | (right; simp; (first | done | omega)))) | with_reducible (first | assumption | exact .refl _ _ | refine .trans0 ?_ ‹_›))) (by simp) (by simp) (new_two (by omega) (by omega)) (fun b hb => List.mem_cons_of_mem _ (List.mem_cons_of_mem _ hb)) (hF2 _ _ _)) ((hv.away (new_two (by omega) (by omega))).keep (by repeat (first | with_reducible (first | refine .alloc ?_ _ | refine .drewN ?_ _ | refine .drew ?_) | ((with_reducible refine .setCell ?_ ?_ _); rotate_left; focus (first | (left; simp; done) | (right; simp; (first | done | omega)))) | with_reducible (first | assumption | exact .refl _ _ | refine .trans0 ?_ ‹_›)))) hmm hfG (by repeat (first | rw [heap_alloc_at] | rw [heap_size_alloc] | rfl | rw [if_pos (by omega)] | rw [if_neg (by omega)]))).mono ?_; rintro x w1 ⟨⟨v1, rfl, hv1⟩, hb1, il1, ie1, F1⟩; obtain ⟨A1, cap1, rfl⟩ := hv1.form; generalize st.fillT 61 1 1000 0 t = R at *; obtain ⟨p0, p1, p2, p3, p4⟩ := blk3 hb1; have hr1 := F1.at_ (b := w.heap.size + 1) (o := .cells #[.int .i64 0, .int .i64 0, .string ⟨#[]⟩, .slice none 0 0] 26 (0, 0)) (by repeat (first | rw [heap_alloc_at] | rw [heap_size_alloc] | rfl | rw [if_pos (by omega)] | rw [if_neg (by omega)])) (by simp); obtain ⟨y0, y1, y2, y3, y4, y5⟩ := blk4 hr1)
    go_region
    go_wp2
    have hzb := box_store4 hr1 (.int .i64 0) (.int .i64 0) (.string ⟨#[]⟩) (.slice none 0 0)
    have FZ := box4_frm' w1 (w.heap.size + 1) (.int .i64 0) (.int .i64 0) (.string ⟨#[]⟩) (.slice none 0 0)
    generalize (World.setCell (World.setCell _ _ _) _ _) = WZ at *
    have hzb2 := (Below.heap_alloc WZ (.cells #[.int .i64 R.1.kind, .int .i64 R.1.n, .string R.1.s, .slice A1 R.1.kids.length cap1] 26) _ (Array.getElem?_eq_some_iff.1 hzb).1).trans hzb
    have FZ2 := (FZ.alloc (.cells #[.int .i64 R.1.kind, .int .i64 R.1.n, .string R.1.s, .slice A1 R.1.kids.length cap1] 26)).drew
    obtain ⟨x0, x1, x2, x3, x4, x5⟩ := blk4 hzb2
    clear hzb y0 y1 y2 y3 y4 y5
    refine bodyPost_ret (v := .tuple #[.agg #[.int .i64 0, .int .i64 0, .string ⟨#[]⟩, .slice none 0 0], .int .i64 R.2.2]) (by simp [results, Try.results52, go_sem, x0, x1, x2, x3]) rfl ?_
    rw [HX.out]
    refine ⟨⟨_, rfl, TermV.leaf F _ ⟨by decide, by decide⟩ ⟨by decide, by decide⟩ (by decide)⟩, ?_⟩
    refine (((((Frm.refl [] w).alloc _).alloc _).alloc _).trans F1 (fun x hx => .inr (by rw [List.mem_singleton.1 hx]; omega))).trans FZ2 (fun x hx => .inr (by rw [List.mem_singleton.1 hx]; omega))
  · have HX : Hid (st.full t = ((st.fillT 61 1 1000 0 t).1, 0)) := by show _ = _; unfold PStore.full; rw [if_pos hx']
    have hxb : ((st.fillT 61 1 1000 0 t).2.2 == 0) = true := by simpa using hx'
    have hxb2 : ((st.fillT 61 1 1000 0 t).2.2 != 0) = false := by simpa using hx'
    clear hx hx'
    go_enter Try.func52, Try.ntmps52
    go_wp2_with (go_at_call 62; refine (store_fill sb (w.heap.size + 2) st 61 1 1000 0 t G ((w.heap.size + 1) :: (w.heap.size + 2) :: F) _ _ (by omega) (by omega) (by omega) (by omega) i1000 i0 (hs.more (H := []) (by repeat (first | with_reducible (first | refine .alloc ?_ _ | refine .drewN ?_ _ | refine .drew ?_) | ((with_reducible refine .setCell ?_ ?_ _); rotate_left; focus (first | (left; simp; done) | (right; simp; (first | done | omega)))) | with_reducible (first | assumption | exact .refl _ _ | refine .trans0 ?_ ‹_›))) (by simp) (by simp) (new_two (by omega) (by omega)) (fun b hb => List.mem_cons_of_mem _ (List.mem_cons_of_mem _ hb)) (hF2 _ _ _)) ((hv.away (new_two (by omega) (by omega))).keep (by repeat (first | with_reducible (first | refine .alloc ?_ _ | refine .drewN ?_ _ | refine .drew ?_) | ((with_reducible refine .setCell ?_ ?_ _); rotate_left; focus (first | (left; simp; done) | (right; simp; (first | done | omega)))) | with_reducible (first | assumption | exact .refl _ _ | refine .trans0 ?_ ‹_›)))) hmm hfG (by repeat (first | rw [heap_alloc_at] | rw [heap_size_alloc] | rfl | rw [if_pos (by omega)] | rw [if_neg (by omega)]))).mono ?_; rintro x w1 ⟨⟨v1, rfl, hv1⟩, hb1, il1, ie1, F1⟩; obtain ⟨A1, cap1, rfl⟩ := hv1.form; have HV1 := Lib.hid hv1; generalize st.fillT 61 1 1000 0 t = R at *; obtain ⟨p0, p1, p2, p3, p4⟩ := blk3 hb1; have hr1 := F1.at_ (b := w.heap.size + 1) (o := .cells #[.int .i64 0, .int .i64 0, .string ⟨#[]⟩, .slice none 0 0] 26 (0, 0)) (by repeat (first | rw [heap_alloc_at] | rw [heap_size_alloc] | rfl | rw [if_pos (by omega)] | rw [if_neg (by omega)])) (by simp); obtain ⟨y0, y1, y2, y3, y4, y5⟩ := blk4 hr1)
    have hzb := box_store4 hr1 (.int .i64 R.1.kind) (.int .i64 R.1.n) (.string R.1.s) (.slice A1 R.1.kids.length cap1)
    have FZ := box4_frm' w1 (w.heap.size + 1) (.int .i64 R.1.kind) (.int .i64 R.1.n) (.string R.1.s) (.slice A1 R.1.kids.length cap1)
    generalize (World.setCell (World.setCell _ _ _) _ _) = WZ at *
    have hzb2 := (Below.heap_alloc WZ (.cells #[.int .i64 R.1.kind, .int .i64 R.1.n, .string R.1.s, .slice A1 R.1.kids.length cap1] 26) _ (Array.getElem?_eq_some_iff.1 hzb).1).trans hzb
    have FZ2 := (FZ.alloc (.cells #[.int .i64 R.1.kind, .int .i64 R.1.n, .string R.1.s, .slice A1 R.1.kids.length cap1] 26))
    obtain ⟨x0, x1, x2, x3, x4, x5⟩ := blk4 hzb2
    clear hzb y0 y1 y2 y3 y4 y5
    refine bodyPost_ret (v := .tuple #[.agg #[.int .i64 R.1.kind, .int .i64 R.1.n, .string R.1.s, .slice A1 R.1.kids.length cap1], .int .i64 0]) (by simp [results, Try.results52, go_sem, x0, x1, x2, x3]) rfl ?_
    rw [HX.out]
    have hsz1 := F1.size
    refine ⟨⟨_, rfl, (HV1.out.frm (F := (w.heap.size + 1) :: (w.heap.size + 2) :: F) (G := [w.heap.size + 1]) FZ2 (by simp)).away (fun b hb => .inl (List.mem_cons_of_mem _ (List.mem_cons_of_mem _ hb)))⟩, ?_⟩
    refine (((((Frm.refl [] w).alloc _).alloc _).alloc _).trans F1 (fun x hx => .inr (by rw [List.mem_singleton.1 hx]; omega))).trans FZ2 (fun x hx => .inr (by rw [List.mem_singleton.1 hx]; omega))
end Go.Proofs.Ytkiofaojokofbaa
namespace Go.Proofs.Ytkiofaojokofbaa
open Go.RowKit

/-- A slice of pairs in a row of its own (block ≥ base); the terms lie away from F and from that row. -/
def OwnPairs (F : List Nat) (w : World) (base : Nat) (v : Value) (ps : List (Term × Term)) (xs : List Value) : Prop :=
  w.ownsRow base 113 8 v ps.length xs ∧
  ∀ j p, ps[j]? = some p → ∃ c0 c1 c2 c3 d0 d1 d2 d3, xs[j * 8]? = some c0 ∧ xs[j * 8 + 1]? = some c1 ∧ xs[j * 8 + 2]? = some c2 ∧ xs[j * 8 + 3]? = some c3 ∧ xs[j * 8 + 4]? = some d0 ∧ xs[j * 8 + 5]? = some d1 ∧ xs[j * 8 + 6]? = some d2 ∧ xs[j * 8 + 7]? = some d3 ∧
    TermV (v.ownBlock.toList ++ F) w p.1 (.agg #[c0, c1, c2, c3]) ∧ TermV (v.ownBlock.toList ++ F) w p.2 (.agg #[d0, d1, d2, d3])
theorem OwnPairs.nil (F : List Nat) (w : World) (base : Nat) : OwnPairs F w base (.slice none 0 0) [] [] := ⟨w.ownsRow_nil base _ _, fun j t h => by simp at h⟩
theorem OwnPairs.own_lt {F : List Nat} {w : World} {base : Nat} {v : Value} {ps : List (Term × Term)} {xs : List Value} (h : OwnPairs F w base v ps xs) : ∀ b, b ∈ v.ownBlock.toList → base ≤ b ∧ b < w.heap.size := by
  intro b hb
  simp only [Option.mem_toList] at hb
  exact h.1.lt b hb
/-- A world in which F's blocks alone, and new ones, have turned. -/
theorem OwnPairs.over {G F F' : List Nat} {w w' : World} {base : Nat} {v : Value} {ps : List (Term × Term)} {xs : List Value} (h : OwnPairs F w base v ps xs) (f : Frm G w w') (hG : ∀ b, b ∈ G → b ∈ F) (hF : ∀ g, v.ownBlock = some g → g ∉ G)
    (h1 : ∀ b, b ∈ F → b ∈ F') (h2 : ∀ b, b ∈ F' → b ∈ F ∨ w.heap.size ≤ b) : OwnPairs F' w' base v ps xs := by
  have hlt := h.own_lt
  obtain ⟨hr, hp⟩ := h
  have hblk : ∀ g, v.ownBlock = some g → w'.heap[g]? = w.heap[g]? := fun g hg => by
    have h3 := hlt g (by simp [hg])
    exact f.block g h3.2 (hF g hg)
  refine ⟨?_, fun j p hj => ?_⟩
  · obtain ⟨hl, h3⟩ := hr
    refine ⟨hl, ?_⟩
    rcases h3 with h3 | ⟨g, cap, cur, rfl, hg, hh, h4⟩
    · exact .inl h3
    · exact .inr ⟨g, cap, cur, rfl, hg, (hblk g rfl).trans hh, h4⟩
  · obtain ⟨c0, c1, c2, c3, d0, d1, d2, d3, e0, e1, e2, e3, e4, e5, e6, e7, t1, t2⟩ := hp j p hj
    have mv : ∀ {t x}, TermV (v.ownBlock.toList ++ F) w t x → TermV (v.ownBlock.toList ++ F') w' t x := fun ht =>
      (ht.away (F' := v.ownBlock.toList ++ F') (fun b hb => by
        rcases List.mem_append.1 hb with hb | hb
        · exact .inl (List.mem_append.2 (.inl hb))
        · exact (h2 b hb).imp (fun h => List.mem_append.2 (.inr h)) id)).frm f (fun b hb => List.mem_append.2 (.inr (h1 b (hG b hb))))
    exact ⟨c0, c1, c2, c3, d0, d1, d2, d3, e0, e1, e2, e3, e4, e5, e6, e7, mv t1, mv t2⟩
theorem OwnPairs.keep {F : List Nat} {w w' : World} {base : Nat} {v : Value} {ps : List (Term × Term)} {xs : List Value} (h : OwnPairs F w base v ps xs) (f : Frm [] w w') : OwnPairs F w' base v ps xs := by
  have hlt := h.own_lt
  obtain ⟨hr, hp⟩ := h
  refine ⟨?_, fun j p hj => ?_⟩
  · obtain ⟨hl, h3⟩ := hr
    refine ⟨hl, ?_⟩
    rcases h3 with h3 | ⟨g, cap, cur, rfl, hg, hh, h4⟩
    · exact .inl h3
    · exact .inr ⟨g, cap, cur, rfl, hg, f.at0 hh, h4⟩
  · obtain ⟨c0, c1, c2, c3, d0, d1, d2, d3, e0, e1, e2, e3, e4, e5, e6, e7, t1, t2⟩ := hp j p hj
    exact ⟨c0, c1, c2, c3, d0, d1, d2, d3, e0, e1, e2, e3, e4, e5, e6, e7, t1.keep f, t2.keep f⟩
/-- Behind an append of more pairs. -/
theorem OwnPairs.app {F : List Nat} {w w' : World} {base : Nat} {v v' : Value} {ps qs : List (Term × Term)} {xs ys : List Value} (h : OwnPairs F w base v ps xs)
    (hq : ∀ j p, qs[j]? = some p → ∃ c0 c1 c2 c3 d0 d1 d2 d3, ys[j * 8]? = some c0 ∧ ys[j * 8 + 1]? = some c1 ∧ ys[j * 8 + 2]? = some c2 ∧ ys[j * 8 + 3]? = some c3 ∧ ys[j * 8 + 4]? = some d0 ∧ ys[j * 8 + 5]? = some d1 ∧ ys[j * 8 + 6]? = some d2 ∧ ys[j * 8 + 7]? = some d3 ∧
      TermV (v.ownBlock.toList ++ F) w p.1 (.agg #[c0, c1, c2, c3]) ∧ TermV (v.ownBlock.toList ++ F) w p.2 (.agg #[d0, d1, d2, d3]))
    (ho : w'.ownsRow base 113 8 v' (ps.length + qs.length) (xs ++ ys)) (hg : w.grownBy w' v.ownBlock) (hat : v'.ownBlock = v.ownBlock ∨ v'.ownBlock = some w.heap.size) : OwnPairs F w' base v' (ps ++ qs) (xs ++ ys) := by
  obtain ⟨h1, h2⟩ := h
  have move : ∀ u x, TermV (v.ownBlock.toList ++ F) w u x → TermV (v'.ownBlock.toList ++ F) w' u x := by
    intro u x hx
    refine TermV.same _ _ w w' (fun b hb hlt hb' => ?_) (fun b hb hlt => hg.block b hlt (fun e => hb (by rw [← e]; simp))) u x hx
    rcases List.mem_append.1 hb' with hb' | hb'
    · rcases hat with e | e
      · rw [e] at hb'; exact hb (List.mem_append.2 (.inl hb'))
      · rw [e] at hb'; simp at hb'; omega
    · exact hb (List.mem_append.2 (.inr hb'))
  refine ⟨by rw [List.length_append]; exact ho, fun j p hj => ?_⟩
  have hxl := h1.1
  by_cases hlt : j < ps.length
  · rw [List.getElem?_append_left hlt] at hj
    obtain ⟨c0, c1, c2, c3, d0, d1, d2, d3, e0, e1, e2, e3, e4, e5, e6, e7, t1, t2⟩ := h2 j p hj
    refine ⟨c0, c1, c2, c3, d0, d1, d2, d3, ?_, ?_, ?_, ?_, ?_, ?_, ?_, ?_, move _ _ t1, move _ _ t2⟩ <;> (rw [List.getElem?_append_left (by omega)]; assumption)
  · rw [List.getElem?_append_right (by omega)] at hj
    obtain ⟨c0, c1, c2, c3, d0, d1, d2, d3, e0, e1, e2, e3, e4, e5, e6, e7, t1, t2⟩ := hq _ p hj
    refine ⟨c0, c1, c2, c3, d0, d1, d2, d3, ?_, ?_, ?_, ?_, ?_, ?_, ?_, ?_, move _ _ t1, move _ _ t2⟩ <;>
      (rw [List.getElem?_append_right (by omega)]; first | (rw [show ∀ c, j * 8 + c - xs.length = (j - ps.length) * 8 + c from fun c => by omega]; assumption) | (rw [show j * 8 - xs.length = (j - ps.length) * 8 by omega]; assumption))
theorem OwnPairs.self {F : List Nat} {w : World} {base : Nat} {v : Value} {ps : List (Term × Term)} {xs : List Value} (h : OwnPairs F w base v ps xs) : OwnPairs (v.ownBlock.toList ++ F) w base v ps xs := by
  obtain ⟨h1, h2⟩ := h
  refine ⟨h1, fun j p hj => ?_⟩
  obtain ⟨c0, c1, c2, c3, d0, d1, d2, d3, e0, e1, e2, e3, e4, e5, e6, e7, t1, t2⟩ := h2 j p hj
  have sub : ∀ b, b ∈ v.ownBlock.toList ++ (v.ownBlock.toList ++ F) → b ∈ v.ownBlock.toList ++ F ∨ w.heap.size ≤ b := fun b hb => by
    rcases List.mem_append.1 hb with hb | hb
    · exact .inl (List.mem_append.2 (.inl hb))
    · exact .inl hb
  exact ⟨c0, c1, c2, c3, d0, d1, d2, d3, e0, e1, e2, e3, e4, e5, e6, e7, t1.away sub, t2.away sub⟩
theorem OwnPairs.form {F : List Nat} {w : World} {base : Nat} {v : Value} {ps : List (Term × Term)} {xs : List Value} (h : OwnPairs F w base v ps xs) : ∃ A cap, v = .slice A ps.length cap := by
  rcases h.1.2 with ⟨rfl, h0⟩ | ⟨g, cap, cur, rfl, _⟩
  · exact ⟨none, 0, by rw [h0]⟩
  · exact ⟨_, _, rfl⟩
theorem OwnPairs.nonnil {F : List Nat} {w : World} {base : Nat} {v : Value} {ps : List (Term × Term)} {xs : List Value} (h : OwnPairs F w base v ps xs) (hn : 0 < ps.length) : ∃ g cap, v = .slice (some ⟨g, 0, none⟩) ps.length cap := by
  rcases h.1.2 with ⟨rfl, h0⟩ | ⟨g, cap, cur, rfl, _⟩
  · omega
  · exact ⟨_, _, rfl⟩
theorem OwnPairs.one {F : List Nat} {w : World} {base : Nat} {v : Value} {ps : List (Term × Term)} {xs : List Value} (h : OwnPairs F w base v ps xs) : ∀ u ∈ xs, u.oneCell' = true := by
  intro u hu
  obtain ⟨i, hi, rfl⟩ := List.getElem_of_mem hu
  have hl := h.1.1
  obtain ⟨p, hp⟩ : ∃ p, ps[i / 8]? = some p := ⟨_, List.getElem?_eq_getElem (by omega)⟩
  obtain ⟨c0, c1, c2, c3, d0, d1, d2, d3, e0, e1, e2, e3, e4, e5, e6, e7, t1, t2⟩ := h.2 _ p hp
  obtain ⟨A1, k1, q1⟩ := t1.form
  obtain ⟨A2, k2, q2⟩ := t2.form
  simp only [Value.agg.injEq, Array.mk.injEq, List.cons.injEq, and_true] at q1 q2
  obtain ⟨rfl, rfl, rfl, rfl⟩ := q1
  obtain ⟨rfl, rfl, rfl, rfl⟩ := q2
  have hii : xs[i]? = some xs[i] := List.getElem?_eq_getElem hi
  have hm : i % 8 < 8 := Nat.mod_lt _ (by decide)
  have hd := Nat.div_add_mod i 8
  have pick : ∀ c x, i % 8 = c → xs[i / 8 * 8 + c]? = some x → xs[i] = x := fun c x hc hx => by
    rw [show i / 8 * 8 + c = i by omega, hii] at hx
    exact Option.some.inj hx
  rcases (by omega : i % 8 = 0 ∨ i % 8 = 1 ∨ i % 8 = 2 ∨ i % 8 = 3 ∨ i % 8 = 4 ∨ i % 8 = 5 ∨ i % 8 = 6 ∨ i % 8 = 7) with hc | hc | hc | hc | hc | hc | hc | hc
  · rw [pick 0 _ hc e0]; rfl
  · rw [pick 1 _ hc e1]; rfl
  · rw [pick 2 _ hc e2]; rfl
  · rw [pick 3 _ hc e3]; rfl
  · rw [pick 4 _ hc e4]; rfl
  · rw [pick 5 _ hc e5]; rfl
  · rw [pick 6 _ hc e6]; rfl
  · rw [pick 7 _ hc e7]; rfl
theorem TermV.kidsOf {F : List Nat} {w : World} {k n : Int} {s : ByteArray} {ts : List Term} {c0 c1 c2 : Value} {A : Option Addr} {m cap : Nat} (h : TermV F w (.mk k n s ts) (.agg #[c0, c1, c2, .slice A m cap])) : KidsV F w ts A 0 ∧ ts.length ≤ 1048576 := by
  simp only [TermV] at h
  obtain ⟨A', cap', he, _, _, _, hl, _, _, hk⟩ := h
  simp only [Value.agg.injEq, Array.mk.injEq, List.cons.injEq, Value.slice.injEq, and_true] at he
  obtain ⟨-, -, -, rfl, -, -⟩ := he
  exact ⟨hk, hl⟩
/-- The last pair, and the row without it. -/
theorem OwnPairs.pop {F : List Nat} {w : World} {base : Nat} {v : Value} {ps : List (Term × Term)} {p : Term × Term} {xs : List Value} (h : OwnPairs F w base v (ps ++ [p]) xs) :
    ∃ g cap c0 c1 c2 c3 d0 d1 d2 d3, v = .slice (some ⟨g, 0, none⟩) (ps.length + 1) cap ∧ ps.length + 1 ≤ cap ∧ OwnPairs F w base (.slice (some ⟨g, 0, none⟩) ps.length cap) ps (xs.take (ps.length * 8)) ∧ g < w.heap.size ∧
      w.cell? ⟨g, ps.length * 8, none⟩ = some c0 ∧ w.cell? ⟨g, ps.length * 8 + 1, none⟩ = some c1 ∧ w.cell? ⟨g, ps.length * 8 + 2, none⟩ = some c2 ∧ w.cell? ⟨g, ps.length * 8 + 3, none⟩ = some c3 ∧ w.cell? ⟨g, ps.length * 8 + 4, none⟩ = some d0 ∧ w.cell? ⟨g, ps.length * 8 + 5, none⟩ = some d1 ∧
      w.cell? ⟨g, ps.length * 8 + 6, none⟩ = some d2 ∧ w.cell? ⟨g, ps.length * 8 + 7, none⟩ = some d3 ∧ TermV (g :: F) w p.1 (.agg #[c0, c1, c2, c3]) ∧ TermV (g :: F) w p.2 (.agg #[d0, d1, d2, d3]) := by
  obtain ⟨⟨hl, h1⟩, h2⟩ := h
  rw [List.length_append, List.length_singleton] at hl h1
  rcases h1 with ⟨_, h1⟩ | ⟨g, cap, cur, rfl, hb, hh, hc, hm, hs, ht⟩
  · omega
  · obtain ⟨c0, c1, c2, c3, d0, d1, d2, d3, e0, e1, e2, e3, e4, e5, e6, e7, t1, t2⟩ := h2 ps.length p (by simp)
    have rd : ∀ i u, xs[i]? = some u → w.cell? ⟨g, i, none⟩ = some u := fun i u hi => by
      have hlt := (List.getElem?_eq_some_iff.1 hi).1
      rw [← ht, List.getElem?_take_of_lt (by omega)] at hi
      rw [show w.cell? ⟨g, i, none⟩ = cur[i]? by simp [World.cell?, hh]]
      simpa using hi
    refine ⟨g, cap, c0, c1, c2, c3, d0, d1, d2, d3, rfl, hc, ⟨⟨by rw [List.length_take]; omega, .inr ⟨g, cap, cur, rfl, hb, hh, by omega, hm, hs, ?_⟩⟩, fun j q hj => ?_⟩, (Array.getElem?_eq_some_iff.1 hh).1, rd _ _ e0, rd _ _ e1, rd _ _ e2, rd _ _ e3, rd _ _ e4, rd _ _ e5, rd _ _ e6, rd _ _ e7, ?_, ?_⟩
    · rw [← ht, List.take_take]; congr 1; omega
    · have hjl := (List.getElem?_eq_some_iff.1 hj).1
      obtain ⟨a0, a1, a2, a3, b0, b1, b2, b3, k0, k1, k2, k3, k4, k5, k6, k7, s1, s2⟩ := h2 j q (by rw [List.getElem?_append_left hjl]; exact hj)
      refine ⟨a0, a1, a2, a3, b0, b1, b2, b3, ?_, ?_, ?_, ?_, ?_, ?_, ?_, ?_, s1, s2⟩ <;> (rw [List.getElem?_take_of_lt (by omega)]; assumption)
    · exact t1
    · exact t2
end Go.Proofs.Ytkiofaojokofbaa
namespace Go.Proofs.Ytkiofaojokofbaa
open Go.RowKit

theorem Try.infoUPair : (Try.prog.info? 113).map (fun i => (i.zero, i.size, i.bytes)) = some (some (.agg #[.int .i64 0, .int .i64 0, .string ⟨#[]⟩, .slice none 0 0, .int .i64 0, .int .i64 0, .string ⟨#[]⟩, .slice none 0 0]), 8, 112) := by kernel_rfl

set_option maxRecDepth 100000 in
set_option maxHeartbeats 1000000 in
theorem unify_pairs (xa bs : List Term) (A B : Option Addr) (ca cb : Nat) (F : List Nat) (w : World) (hA : KidsV F w xa A 0) (hB : KidsV F w bs B 0) (hlen : xa.length = bs.length) (hl : xa.length ≤ 1048576) :
    Calls Try.prog 72 #[.slice A xa.length ca, .slice B bs.length cb] w fun e w' => (∃ v xs, e = .returned v ∧ OwnPairs F w' w.heap.size v (xa.zip bs).reverse xs) ∧ Frm [] w w' := by
  obtain ⟨i0, hi, hz0, hz1, hz2⟩ := info_parts Try.infoUPair
  have hzl : (xa.zip bs).length = xa.length := by rw [List.length_zip]; omega
  have HL := Lib.hid hlen
  rw [← hlen]
  clear hlen
  go_enter Try.func72, Try.ntmps72
  go_wp2
  go_loopw [5, 6] (fun a i wr => ∃ (k : Nat) (xs : List Value), k ≤ xa.length ∧ i = .int .i64 ((k : Int) - 1) ∧ OwnPairs F wr w.heap.size a ((xa.zip bs).drop k).reverse xs ∧ Frm [] w wr) (fun _ i _ => (intOf i + 1).toNat)
  case atStart => exact ⟨xa.length, [], Nat.le_refl _, rfl, by rw [List.drop_of_length_le (by omega)]; exact OwnPairs.nil _ _ _, (by repeat (first | with_reducible (first | refine .alloc ?_ _ | refine .drewN ?_ _ | refine .drew ?_) | ((with_reducible refine .setCell ?_ ?_ _); rotate_left; focus (first | (left; simp; done) | (right; simp; (first | done | omega)))) | with_reducible (first | assumption | exact .refl _ _ | refine .trans0 ?_ ‹_›)))⟩
  case round =>
    obtain ⟨k, xs, hk, rfl, hown, FR⟩ := hrel
    have HOWN := Lib.hid hown
    clear hown
    have hszr := FR.size
    cases k with
    | succ k =>
      have hka : k < xa.length := by omega
      have hkb : k < bs.length := by have := HL.out; omega
      have hsp : ((k + 1 : Nat) : Int) - 1 = (k : Int) := by omega
      have hgood : ∀ b, b ∈ u5.ownBlock.toList ++ F → b ∈ F ∨ w.heap.size ≤ b := fun b hb => by
        rcases List.mem_append.1 hb with hb | hb
        · exact .inr (HOWN.out.own_lt b hb).1
        · exact .inl hb
      obtain ⟨b1, o1, A1, c1, rfl, hb1, hl1, e0, e1, e2, e3, hk1⟩ := ((hA.away hgood).keep FR).kid k hka
      obtain ⟨b2, o2, A2, c2, rfl, hb2, hl2, g0, g1, g2, g3, hk2⟩ := ((hB.away hgood).keep FR).kid k hkb
      have HK1 := Lib.hid hk1
      have HK2 := Lib.hid hk2
      have HZ : Hid ((xa.zip bs).drop k = (xa[k], bs[k]) :: (xa.zip bs).drop (k + 1)) := by
        show _ = _
        rw [List.drop_eq_getElem_cons (by omega), List.getElem_zip]
      clear hk1 hk2
      generalize xa[k] = ta at *
      generalize bs[k] = tb at *
      rw [hsp]
      go_wp2
      refine wp_region_U (fun w' => w'.cell? ⟨b1, o1 + k * 4, none⟩ = some (.int .i64 ta.kind) ∧ w'.cell? ⟨b1, o1 + k * 4 + 1, none⟩ = some (.int .i64 ta.n) ∧ w'.cell? ⟨b1, o1 + k * 4 + 2, none⟩ = some (.string ta.s) ∧ w'.cell? ⟨b1, o1 + k * 4 + 3, none⟩ = some (.slice A1 ta.kids.length c1) ∧ w'.cell? ⟨b2, o2 + k * 4, none⟩ = some (.int .i64 tb.kind) ∧ w'.cell? ⟨b2, o2 + k * 4 + 1, none⟩ = some (.int .i64 tb.n) ∧ w'.cell? ⟨b2, o2 + k * 4 + 2, none⟩ = some (.string tb.s) ∧ w'.cell? ⟨b2, o2 + k * 4 + 3, none⟩ = some (.slice A2 tb.kids.length c2)) (fun i => Nat.blt i 11) (by kernel_rfl) ?rgnS1 (fun hHeld => ?rgnB1)
      case rgnS1 => (first | (dsimp only; go_keep) | go_keep)
      case' rgnB1 => skip
      refine Pend.start [0, 1, 2, 3, 4, 5, 6, 7, 8, 9] ?_
      iterate 10 (refine tk (v := ?_) rfl (by kernel_rfl) (by rfl) (fun _ _ _ h => h) (by assumption) ?_ ?_; rotate_left; (focus (intro wq hSw; (try dsimp only at hSw); go_simp; (first | done | with_reducible rfl))); try simp only [Act.put, List.setIfInBounds_toArray, List.set_cons_zero, List.set_cons_succ])
      refine Pend.done ?_
      refine one 10 (by kernel_rfl) rfl (fun K' hK => ?_)
      (rw [if_pos (by rfl)]; go_simp)
      refine hK.out _ _ (fun _ => ?rgnS2) (fun hH => ?rgnB2)
      case rgnS2 => (first | (dsimp only; go_keep) | go_keep)
      case' rgnB2 => ((try clear hHeld); have hHeld := hH (by decide); clear hH)
      clear hK K'
      try simp only [Act.put, List.setIfInBounds_toArray, List.set_cons_zero, List.set_cons_succ]
      refine one 11 (by kernel_rfl) rfl (fun K' hK => ?_)
      (rw [if_pos (by rfl)]; obtain ⟨v', w6, hr6, ho6, hg6, hn6, hat6⟩ := run_append_own_at (P := Try.prog) (wr.drew.alloc (.cells #[.int .i64 ta.kind, .int .i64 ta.n, .string ta.s, .slice A1 ta.kids.length c1, .int .i64 tb.kind, .int .i64 tb.n, .string tb.s, .slice A2 tb.kids.length c2] 113)) w.heap.size 110 110 113 i0 _ 8 112 Try.underlying110 hi hz0 hz1 hz2 rfl (by decide) u5 _ _ (HOWN.out.keep (by repeat (first | with_reducible (first | refine .alloc ?_ _ | refine .drewN ?_ _ | refine .drew ?_) | ((with_reducible refine .setCell ?_ ?_ _); rotate_left; focus (first | (left; simp; done) | (right; simp; (first | done | omega)))) | with_reducible (first | assumption | exact .refl _ _ | refine .trans0 ?_ ‹_›)))).1 ⟨wr.heap.size, 0, none⟩ 1 1 [.int .i64 ta.kind, .int .i64 ta.n, .string ta.s, .slice A1 ta.kids.length c1, .int .i64 tb.kind, .int .i64 tb.n, .string tb.s, .slice A2 tb.kids.length c2] rfl (cells_new wr.drew _ _) (by simp [Value.oneCell']) (by rw [List.length_reverse, List.length_drop]; unfold maxLen; omega) (by rw [List.length_reverse, List.length_drop]; omega) (by simp; omega); refine Lib.wp_append_run _ _ _ _ _ rfl _ _ rfl rfl _ _ hr6 ?_)
      refine hK.out _ _ (fun h => absurd h (by decide)) (fun _ => ?_)
      clear hK K'
      try simp only [Act.put, List.setIfInBounds_toArray, List.set_cons_zero, List.set_cons_succ]
      refine one 12 (by kernel_rfl) rfl (fun K' hK => ?_)
      go_simp
      refine hK.out _ _ (fun h => absurd h (by decide)) (fun _ => ?_)
      clear hK K'
      try simp only [Act.put, List.setIfInBounds_toArray, List.set_cons_zero, List.set_cons_succ]
      refine wpAnyU_done (by kernel_rfl) ?_ _
      go_wp2
      go_roundw
      case rel =>
        refine ⟨k, xs ++ [.int .i64 ta.kind, .int .i64 ta.n, .string ta.s, .slice A1 ta.kids.length c1, .int .i64 tb.kind, .int .i64 tb.n, .string tb.s, .slice A2 tb.kids.length c2], by omega, rfl, ?_, ?_⟩
        · rw [HZ.out, List.reverse_cons]
          refine (HOWN.out.keep (by repeat (first | with_reducible (first | refine .alloc ?_ _ | refine .drewN ?_ _ | refine .drew ?_) | ((with_reducible refine .setCell ?_ ?_ _); rotate_left; focus (first | (left; simp; done) | (right; simp; (first | done | omega)))) | with_reducible (first | assumption | exact .refl _ _ | refine .trans0 ?_ ‹_›)))).app (fun j p hj => ?_) (by simpa using ho6) hg6 hat6
          cases j with
          | succ j => simp at hj
          | zero =>
            simp only [List.getElem?_cons_zero, Option.some.injEq] at hj
            subst hj
            exact ⟨_, _, _, _, _, _, _, _, rfl, rfl, rfl, rfl, rfl, rfl, rfl, rfl, HK1.out.keep (by repeat (first | with_reducible (first | refine .alloc ?_ _ | refine .drewN ?_ _ | refine .drew ?_) | ((with_reducible refine .setCell ?_ ?_ _); rotate_left; focus (first | (left; simp; done) | (right; simp; (first | done | omega)))) | with_reducible (first | assumption | exact .refl _ _ | refine .trans0 ?_ ‹_›))), HK2.out.keep (by repeat (first | with_reducible (first | refine .alloc ?_ _ | refine .drewN ?_ _ | refine .drew ?_) | ((with_reducible refine .setCell ?_ ?_ _); rotate_left; focus (first | (left; simp; done) | (right; simp; (first | done | omega)))) | with_reducible (first | assumption | exact .refl _ _ | refine .trans0 ?_ ‹_›)))⟩
        · exact ((by repeat (first | with_reducible (first | refine .alloc ?_ _ | refine .drewN ?_ _ | refine .drew ?_) | ((with_reducible refine .setCell ?_ ?_ _); rotate_left; focus (first | (left; simp; done) | (right; simp; (first | done | omega)))) | with_reducible (first | assumption | exact .refl _ _ | refine .trans0 ?_ ‹_›))) : Frm [] w _).grown hg6 (fun b hb => .inr (HOWN.out.own_lt b (by simpa using hb)).1)
      case measure => simp [intOf]
    | zero =>
      go_wp2
      go_ret
      exact ⟨⟨_, xs, rfl, by simpa using HOWN.out⟩, FR⟩
theorem unify_pairs_nil (A B : Option Addr) (ca cb : Nat) (w : World) : Calls Try.prog 72 #[.slice A 0 ca, .slice B 0 cb] w fun e w' => e = .returned (.slice none 0 0) ∧ Frm [] w w' := by
  go_enter Try.func72, Try.ntmps72
  go_wp2
  go_loopw [5, 6] (fun a i wr => a = .slice none 0 0 ∧ i = .int .i64 (-1) ∧ wr = w) (fun _ _ _ => 0)
  case atStart => exact ⟨rfl, rfl, rfl⟩
  case round =>
    obtain ⟨rfl, rfl, rfl⟩ := hrel
    go_wp2
    go_ret
    exact ⟨rfl, (by repeat (first | with_reducible (first | refine .alloc ?_ _ | refine .drewN ?_ _ | refine .drew ?_) | ((with_reducible refine .setCell ?_ ?_ _); rotate_left; focus (first | (left; simp; done) | (right; simp; (first | done | omega)))) | with_reducible (first | assumption | exact .refl _ _ | refine .trans0 ?_ ‹_›)))⟩
end Go.Proofs.Ytkiofaojokofbaa
namespace Go.Proofs.Ytkiofaojokofbaa
open Go.RowKit

theorem StoreTo.after {G F : List Nat} {w w1 w2 : World} {sb : Nat} {st : PStore} (h : StoreTo G F w1 w2 sb st) (f : Frm [] w w1) : StoreTo G F w w2 sb st := by
  obtain ⟨G', F', h1, h2, h3, h4, h5⟩ := h
  have := f.size
  exact ⟨G', F', h1, (f.mono (by simp)).trans' h2, h3, fun b hb => (h4 b hb).imp id (fun h => by omega), fun b hb => (h5 b hb).imp id (fun h => by omega)⟩
theorem StoreTo.before {G F : List Nat} {w w1 w2 : World} {sb : Nat} {st : PStore} (h : StoreTo G F w w1 sb st) (f : Frm [] w1 w2) : StoreTo G F w w2 sb st := by
  obtain ⟨G', F', h1, h2, h3, h4, h5⟩ := h
  exact ⟨G', F', h1.keep f, h2.trans0 f, h3, h4, h5⟩

namespace PStore
noncomputable def bindF (s : PStore) (v : Int) (t : Term) : Int × PStore := (Classical.choose (s.binds_some v t), Classical.choose (Classical.choose_spec (s.binds_some v t)))
theorem bindF_spec (s : PStore) (v : Int) (t : Term) : s.Binds v t (s.bindF v t).1 (s.bindF v t).2 := Classical.choose_spec (Classical.choose_spec (s.binds_some v t))
/-- A pair with a variable: is it dealt with, and does it hold? -/
noncomputable def bindP (s : PStore) (a b : Term) : Bool × Bool × PStore :=
  if a.kind = 1 ∧ b.kind = 1 ∧ a.n = b.n then (true, true, s)
  else if a.kind = 1 then (true, (s.bindF a.n b).1 == 0, (s.bindF a.n b).2)
  else if b.kind = 1 then (true, (s.bindF b.n a).1 == 0, (s.bindF b.n a).2)
  else (false, false, s)
end PStore

theorem i64_n {F : List Nat} {w : World} {t : Term} {v : Value} (h : TermV F w t v) : I64 t.n := by
  obtain ⟨tk, tn, tS, tts⟩ := t
  simp only [TermV] at h
  obtain ⟨_, _, _, _, h, _⟩ := h
  exact h

theorem blk8 {w : World} {b : Nat} {c0 c1 c2 c3 d0 d1 d2 d3 : Value} {ty : TypeId} (h : w.heap[b]? = some (.cells #[c0, c1, c2, c3, d0, d1, d2, d3] ty (0, 0))) :
    w.cell? ⟨b, 0, none⟩ = some c0 ∧ w.cell? ⟨b, 1, none⟩ = some c1 ∧ w.cell? ⟨b, 2, none⟩ = some c2 ∧ w.cell? ⟨b, 3, none⟩ = some c3 ∧ w.cell? ⟨b, 4, none⟩ = some d0 ∧ w.cell? ⟨b, 5, none⟩ = some d1 ∧ w.cell? ⟨b, 6, none⟩ = some d2 ∧ w.cell? ⟨b, 7, none⟩ = some d3 ∧ (∀ o, w.frozen? ⟨b, o, none⟩ = false) ∧ b < w.heap.size :=
  ⟨by simp [World.cell?, h], by simp [World.cell?, h], by simp [World.cell?, h], by simp [World.cell?, h], by simp [World.cell?, h], by simp [World.cell?, h], by simp [World.cell?, h], by simp [World.cell?, h], fun o => by simp [World.frozen?, h], (Array.getElem?_eq_some_iff.1 h).1⟩

set_option maxRecDepth 100000 in
set_option maxHeartbeats 1000000 in
theorem unify_bind (G F : List Nat) (sb : Nat) (st : PStore) (a b : Term) (a0 a1 a2 a3 b0 b1 b2 b3 : Value) (w : World) (hs : StoreAt G F w sb st) (ha : TermV F w a (.agg #[a0, a1, a2, a3])) (hb : TermV F w b (.agg #[b0, b1, b2, b3])) :
    Calls Try.prog 73 #[.pointer (some ⟨sb, 0, none⟩), .agg #[a0, a1, a2, a3, b0, b1, b2, b3]] w fun e w' => e = .returned (.tuple #[.bool (st.bindP a b).1, .bool (st.bindP a b).2.1]) ∧ StoreTo G F w w' sb (st.bindP a b).2.2 := by
  obtain ⟨A1, c1, ea⟩ := ha.form
  obtain ⟨A2, c2, eb⟩ := hb.form
  simp only [Value.agg.injEq, Array.mk.injEq, List.cons.injEq, and_true] at ea eb
  obtain ⟨rfl, rfl, rfl, rfl⟩ := ea
  obtain ⟨rfl, rfl, rfl, rfl⟩ := eb
  have SQ := Lib.hid (fun w' => @StoreTo.quiet G F w w' sb st hs)
  have ian := i64_n ha
  have ibn := i64_n hb
  have HA := Lib.hid ha
  have HB := Lib.hid hb
  have HS := Lib.hid hs
  clear ha hb hs
  by_cases ka : a.kind = 1
  · by_cases kb : b.kind = 1 ∧ a.n = b.n
    · have HP : Hid (st.bindP a b = (true, true, st)) := by show _ = _; unfold PStore.bindP; rw [if_pos ⟨ka, kb.1, kb.2⟩]
      have e1 : (a.kind == 1) = true := by simpa using ka
      have e2 : (b.kind == 1) = true := by simpa using kb.1
      have e3 : (a.n == b.n) = true := by simpa using kb.2
      clear ka kb
      go_enter Try.func73, Try.ntmps73
      go_wp2
      go_ret2
      rw [HP.out]
      exact ⟨rfl, SQ.out _ (by repeat (first | with_reducible (first | refine .alloc ?_ _ | refine .drewN ?_ _ | refine .drew ?_) | ((with_reducible refine .setCell ?_ ?_ _); rotate_left; focus (first | (left; simp; done) | (right; simp; (first | done | omega)))) | with_reducible (first | assumption | exact .refl _ _ | refine .trans0 ?_ ‹_›)))⟩
    · have hp := st.bindF_spec a.n b
      have HP : Hid (st.bindP a b = (true, (st.bindF a.n b).1 == 0, (st.bindF a.n b).2)) := by
        show _ = _; unfold PStore.bindP; rw [if_neg (fun h => kb h.2), if_pos ka]
      generalize st.bindF a.n b = R at *
      obtain ⟨c, st'⟩ := R
      have HPP := Lib.hid hp
      clear hp
      have e1 : (a.kind == 1) = true := by simpa using ka
      have e2 : ((b.kind == 1) = false) ∨ ((b.kind == 1) = true ∧ (a.n == b.n) = false) := by
        by_cases h1 : b.kind = 1
        · exact .inr ⟨by simpa using h1, by simpa using fun h => kb ⟨h1, h⟩⟩
        · exact .inl (by simpa using h1)
      clear ka kb
      rcases e2 with e2 | ⟨e2, e3⟩
      all_goals
        go_enter Try.func73, Try.ntmps73
        go_wp2_with (go_at_call 85; refine (store_bind G F sb st b _ a.n ian c st' HPP.out _ (HS.out.keep (by repeat (first | with_reducible (first | refine .alloc ?_ _ | refine .drewN ?_ _ | refine .drew ?_) | ((with_reducible refine .setCell ?_ ?_ _); rotate_left; focus (first | (left; simp; done) | (right; simp; (first | done | omega)))) | with_reducible (first | assumption | exact .refl _ _ | refine .trans0 ?_ ‹_›)))) (HB.out.keep (by repeat (first | with_reducible (first | refine .alloc ?_ _ | refine .drewN ?_ _ | refine .drew ?_) | ((with_reducible refine .setCell ?_ ?_ _); rotate_left; focus (first | (left; simp; done) | (right; simp; (first | done | omega)))) | with_reducible (first | assumption | exact .refl _ _ | refine .trans0 ?_ ‹_›))))).mono ?_; rintro e w2 ⟨rfl, TO⟩)
        go_ret2
        rw [HP.out]
        exact ⟨rfl, TO.after (by repeat (first | with_reducible (first | refine .alloc ?_ _ | refine .drewN ?_ _ | refine .drew ?_) | ((with_reducible refine .setCell ?_ ?_ _); rotate_left; focus (first | (left; simp; done) | (right; simp; (first | done | omega)))) | with_reducible (first | assumption | exact .refl _ _ | refine .trans0 ?_ ‹_›)))⟩
  · by_cases kb : b.kind = 1
    · have hp := st.bindF_spec b.n a
      have HP : Hid (st.bindP a b = (true, (st.bindF b.n a).1 == 0, (st.bindF b.n a).2)) := by
        show _ = _; unfold PStore.bindP; rw [if_neg (fun h => ka h.1), if_neg ka, if_pos kb]
      generalize st.bindF b.n a = R at *
      obtain ⟨c, st'⟩ := R
      have HPP := Lib.hid hp
      clear hp
      have e1 : (a.kind == 1) = false := by simpa using ka
      have e2 : (b.kind == 1) = true := by simpa using kb
      clear ka kb
      go_enter Try.func73, Try.ntmps73
      go_wp2_with (go_at_call 85; refine (store_bind G F sb st a _ b.n ibn c st' HPP.out _ (HS.out.keep (by repeat (first | with_reducible (first | refine .alloc ?_ _ | refine .drewN ?_ _ | refine .drew ?_) | ((with_reducible refine .setCell ?_ ?_ _); rotate_left; focus (first | (left; simp; done) | (right; simp; (first | done | omega)))) | with_reducible (first | assumption | exact .refl _ _ | refine .trans0 ?_ ‹_›)))) (HA.out.keep (by repeat (first | with_reducible (first | refine .alloc ?_ _ | refine .drewN ?_ _ | refine .drew ?_) | ((with_reducible refine .setCell ?_ ?_ _); rotate_left; focus (first | (left; simp; done) | (right; simp; (first | done | omega)))) | with_reducible (first | assumption | exact .refl _ _ | refine .trans0 ?_ ‹_›))))).mono ?_; rintro e w2 ⟨rfl, TO⟩)
      go_ret2
      rw [HP.out]
      exact ⟨rfl, TO.after (by repeat (first | with_reducible (first | refine .alloc ?_ _ | refine .drewN ?_ _ | refine .drew ?_) | ((with_reducible refine .setCell ?_ ?_ _); rotate_left; focus (first | (left; simp; done) | (right; simp; (first | done | omega)))) | with_reducible (first | assumption | exact .refl _ _ | refine .trans0 ?_ ‹_›)))⟩
    · have HP : Hid (st.bindP a b = (false, false, st)) := by show _ = _; unfold PStore.bindP; rw [if_neg (fun h => ka h.1), if_neg ka, if_neg kb]
      have e1 : (a.kind == 1) = false := by simpa using ka
      have e2 : (b.kind == 1) = false := by simpa using kb
      clear ka kb
      go_enter Try.func73, Try.ntmps73
      go_wp2
      go_ret2
      rw [HP.out]
      exact ⟨rfl, SQ.out _ (by repeat (first | with_reducible (first | refine .alloc ?_ _ | refine .drewN ?_ _ | refine .drew ?_) | ((with_reducible refine .setCell ?_ ?_ _); rotate_left; focus (first | (left; simp; done) | (right; simp; (first | done | omega)))) | with_reducible (first | assumption | exact .refl _ _ | refine .trans0 ?_ ‹_›)))⟩
end Go.Proofs.Ytkiofaojokofbaa
