/- The layer arith: the value of a term. -/
import Derived.Test.YtpffcfmhiebhdaaArithB
import Derived.Test.YtpffcfmhiebhdaaRgn
import Derived.WalkSpells
import Derived.WalkLawsBesides
import Derived.Deep.QuietTactic
import Derived.BigQuiet
import Derived.Deep.DeepCutAuto
import Derived.Deep.RegionHeld3
import Derived.Lib.Hide
import Derived.Handy
namespace Go.Proofs.Ytpffcfmhiebhdaa
open Go.RowKit

theorem kind_mk (k n : Int) (s : ByteArray) (ts : List Term) : (Term.mk k n s ts).kind = k := rfl
theorem n_mk (k n : Int) (s : ByteArray) (ts : List Term) : (Term.mk k n s ts).n = n := rfl
theorem s_mk (k n : Int) (s : ByteArray) (ts : List Term) : (Term.mk k n s ts).s = s := rfl
theorem kids_mk (k n : Int) (s : ByteArray) (ts : List Term) : (Term.mk k n s ts).kids = ts := rfl
/-- A node's value, from those of its parts. -/
def evalB (rec : Nat → Term → Int → Except Int Int × Int × Nat) (m : Nat) (lev : Int) (k n : Int) (s : ByteArray) (ts : List Term) : Except Int Int × Int × Nat :=
  if k == 1 then (.error 8, lev, m)
  else if k == 2 then (.ok n, lev, m)
  else if k != 3 || !Arith.known s ts.length then (.error 9, lev, m)
  else match rec m (ts.getD 0 default) lev with
    | (.error c, lev, m) => (.error c, lev, m)
    | (.ok a, lev, m) =>
      if ts.length == 2 then match rec m (ts.getD 1 default) lev with
        | (.error c, lev, m) => (.error c, lev, m)
        | (.ok b, lev, m) => (Arith.two s a b, lev, m)
      else if nm s == [97, 98, 115] && decide (0 ≤ a) then (.ok a, lev, m)
      else (Arith.minus a, lev, m)
section
variable (rec : Nat → Term → Int → Except Int Int × Int × Nat) (m : Nat) (lev k n : Int) (s : ByteArray) (ts : List Term)
theorem evalB_var : evalB rec m lev 1 n s ts = (.error 8, lev, m) := by simp [evalB]
theorem evalB_int : evalB rec m lev 2 n s ts = (.ok n, lev, m) := by simp [evalB]
theorem evalB_no (h1 : k ≠ 1) (h2 : k ≠ 2) (h : ¬(k = 3 ∧ Arith.known s ts.length = true)) : evalB rec m lev k n s ts = (.error 9, lev, m) := by
  rw [evalB, if_neg (by simpa using h1), if_neg (by simpa using h2), if_pos]
  by_cases h3 : k = 3
  · simp [h3] at h ⊢; exact h
  · simp [h3]
theorem evalB_err (h : Arith.known s ts.length = true) {c : Int} {lev' : Int} {m' : Nat} (hr : rec m (ts.getD 0 default) lev = (.error c, lev', m')) : evalB rec m lev 3 n s ts = (.error c, lev', m') := by
  rw [evalB, if_neg (by decide), if_neg (by decide), if_neg (by simp [h]), hr]
theorem evalB_one (h : Arith.known s ts.length = true) (h2 : ts.length ≠ 2) {a : Int} {lev' : Int} {m' : Nat} (hr : rec m (ts.getD 0 default) lev = (.ok a, lev', m')) :
    evalB rec m lev 3 n s ts = (if nm s == [97, 98, 115] && decide (0 ≤ a) then .ok a else Arith.minus a, lev', m') := by
  rw [evalB, if_neg (by decide), if_neg (by decide), if_neg (by simp [h]), hr]
  dsimp only
  rw [if_neg (by simpa using h2)]
  split <;> rfl
theorem evalB_abs (h : Arith.known s ts.length = true) (h2 : ((ts.length : Int) == 2) = false) {a : Int} {lev' : Int} {m' : Nat} (hr : rec m (ts.getD 0 default) lev = (.ok a, lev', m'))
    (hs : nm s = [97, 98, 115]) (ha : 0 ≤ a) : evalB rec m lev 3 n s ts = (.ok a, lev', m') := by
  rw [evalB_one rec m lev n s ts h (by intro hx; rw [hx] at h2; exact absurd h2 (by decide)) hr, if_pos (by simp [hs, ha])]
theorem evalB_minus (h : Arith.known s ts.length = true) (h2 : ((ts.length : Int) == 2) = false) {a : Int} {lev' : Int} {m' : Nat} (hr : rec m (ts.getD 0 default) lev = (.ok a, lev', m'))
    (hs : nm s ≠ [97, 98, 115] ∨ a < 0) : evalB rec m lev 3 n s ts = (Arith.minus a, lev', m') := by
  rw [evalB_one rec m lev n s ts h (by intro hx; rw [hx] at h2; exact absurd h2 (by decide)) hr, if_neg]
  rcases hs with hs | hs
  · simp [hs]
  · simp; omega
theorem evalB_err2 (h : Arith.known s ts.length = true) (h2 : ts.length = 2) {a c : Int} {lev' lev'' : Int} {m' m'' : Nat} (hr : rec m (ts.getD 0 default) lev = (.ok a, lev', m'))
    (hr2 : rec m' (ts.getD 1 default) lev' = (.error c, lev'', m'')) : evalB rec m lev 3 n s ts = (.error c, lev'', m'') := by
  rw [evalB, if_neg (by decide), if_neg (by decide), if_neg (by simp [h]), hr]
  dsimp only
  rw [if_pos (by simpa using h2), hr2]
theorem evalB_two (h : Arith.known s ts.length = true) (h2 : ts.length = 2) {a b : Int} {lev' lev'' : Int} {m' m'' : Nat} (hr : rec m (ts.getD 0 default) lev = (.ok a, lev', m'))
    (hr2 : rec m' (ts.getD 1 default) lev' = (.ok b, lev'', m'')) : evalB rec m lev 3 n s ts = (Arith.two s a b, lev'', m'') := by
  rw [evalB, if_neg (by decide), if_neg (by decide), if_neg (by simp [h]), hr]
  dsimp only
  rw [if_pos (by simpa using h2), hr2]
end
/-- A term's value, or an error's number; the level; how many terms were evaluated. d bounds the depth. -/
def evalT (l : Lat) (st : PStore) : Nat → Nat → Term → Int → Except Int Int × Int × Nat
  | 0, m, _, lev => (.error 3, lev, m + 1)
  | d + 1, m, t, lev =>
    if 2000 < m + 1 then (.error 3, lev, m + 1) else
    evalB (evalT l st d) (m + 1) (l.join lev (l.opened (st.walk t)).2) (l.opened (st.walk t)).1.kind (l.opened (st.walk t)).1.n (l.opened (st.walk t)).1.s (l.opened (st.walk t)).1.kids

theorem evalT_succ (l : Lat) (st : PStore) (d m : Nat) (t : Term) (lev : Int) (h : ¬2000 < m + 1) : evalT l st (d + 1) m t lev =
    evalB (evalT l st d) (m + 1) (l.join lev (l.opened (st.walk t)).2) (l.opened (st.walk t)).1.kind (l.opened (st.walk t)).1.n (l.opened (st.walk t)).1.s (l.opened (st.walk t)).1.kids := by
  show (if 2000 < m + 1 then _ else _) = _
  rw [if_neg h]

def SumsAt (w : World) (bx sb lb : Nat) (lev : Int) (m : Nat) : Prop :=
  w.heap[bx]? = some (.cells #[.pointer (some ⟨sb, 0, none⟩), .pointer (some ⟨lb, 0, none⟩), .int .i64 lev, .int .i64 (m : Int)] 66 (0, 0))

def EvalOK (m : Nat) (r : Except Int Int × Int × Nat) : Prop := m ≤ r.2.2 ∧ ∀ a, r.1 = .ok a → r.2.2 ≤ 2000 ∧ I64 a
theorem EvalOK.err {m m' : Nat} (h : m ≤ m') (c lev : Int) : EvalOK m (.error c, lev, m') := ⟨h, fun a ha => by cases ha⟩
theorem EvalOK.one {m m' : Nat} (h : m ≤ m') (h2 : m' ≤ 2000) {x : Except Int Int} (hx : ∀ a, x = .ok a → I64 a) (lev : Int) : EvalOK m (x, lev, m') := ⟨h, fun a ha => ⟨h2, hx a ha⟩⟩
theorem Arith.minus_i64 {a m : Int} (h : Arith.minus a = .ok m) : I64 m := (Arith.fit_i64 h).2
theorem Arith.known_pos {s : ByteArray} {k : Nat} (h : Arith.known s k = true) : 1 ≤ k := by
  unfold Arith.known at h
  repeat' split at h
  all_goals simp at h
  all_goals omega
def EvalSaid (l : Lat) (st : PStore) (d : Nat) : Prop := ∀ (m : Nat) (t : Term) (lev : Int) (G F : List Nat) (sb lb bx : Nat) (v : Value) (w : World),
  m ≤ 2000 → 2000 ≤ m + d → LatAt w lb l → StoreAt G F w sb st → TermV F w t v → SumsAt w bx sb lb lev m → bx ∈ F → bx ∉ G →
  Calls Try.prog 30 #[.pointer (some ⟨bx, 0, none⟩), v] w fun e w' => e = ending (evalT l st d m t lev).1 ∧ SumsAt w' bx sb lb (evalT l st d m t lev).2.1 (evalT l st d m t lev).2.2 ∧ Frm [bx] w w' ∧ EvalOK m (evalT l st d m t lev)

set_option maxRecDepth 100000 in
set_option maxHeartbeats 1000000 in
theorem arith_eval (l : Lat) (st : PStore) : ∀ d, EvalSaid l st d := by
  intro d
  induction d with
  | zero =>
    intro m t lev G F sb lb bx v w hm hd hl hs ht hx hbF hbG
    have hm2 : m = 2000 := by omega
    subst hm2
    obtain ⟨q0, q1, q2, q3, q4, q5⟩ := blk4 hx
    have q6 : bx < w.heap.size + 1 := by omega
    obtain ⟨A, cap, rfl⟩ := ht.form
    go_enter Try.func30, Try.ntmps30
    go_wp2
    refine ⟨rfl, rfl, ?_, (by repeat (first | (with_reducible refine Frm.alloc ?_ _) | (with_reducible refine Frm.drewN ?_ _) | (with_reducible refine Frm.drew ?_) | ((with_reducible refine Frm.setCell ?_ ?_ _); rotate_left; (focus (first | (left; simp; done) | (right; simp; done) | (right; simp; omega)))) | with_reducible assumption | with_reducible exact Frm.refl _ _ | (with_reducible refine Frm.trans0 ?_ ‹_›))), EvalOK.err (by omega) _ _⟩
    exact (Below.heap_alloc _ _ _ (by simpa [World.setCell] using q5)).trans (heap_setCell_at hx 3 _)
  | succ d ih =>
    intro m t lev G F sb lb bx v w hm hd hl hs ht hx hbF hbG
    obtain ⟨q0, q1, q2, q3, q4, q5⟩ := blk4 hx
    have q6 : bx < w.heap.size + 1 := by omega
    obtain ⟨A, cap, rfl⟩ := ht.form
    by_cases hm2 : 2000 < m + 1
    · have hm3 : m = 2000 := by omega
      subst hm3
      have HE : Hid (evalT l st (d + 1) 2000 t lev = (.error 3, lev, 2001)) := by
        show _ = _
        unfold evalT
        rw [if_pos (by omega)]
      go_enter Try.func30, Try.ntmps30
      go_wp2
      rw [HE.out]
      refine ⟨rfl, rfl, ?_, (by repeat (first | (with_reducible refine Frm.alloc ?_ _) | (with_reducible refine Frm.drewN ?_ _) | (with_reducible refine Frm.drew ?_) | ((with_reducible refine Frm.setCell ?_ ?_ _); rotate_left; (focus (first | (left; simp; done) | (right; simp; done) | (right; simp; omega)))) | with_reducible assumption | with_reducible exact Frm.refl _ _ | (with_reducible refine Frm.trans0 ?_ ‹_›))), EvalOK.err (by omega) _ _⟩
      exact (Below.heap_alloc _ _ _ (by simpa [World.setCell] using q5)).trans (heap_setCell_at hx 3 _)
    · have hm3 : (m : Int) + 1 ≤ 2000 := by omega
      have hF := hs.lt
      have hGF := hs.sub
      have hlbx : lb ∉ [bx] := by
        intro he
        have he : lb = bx := by simpa using he
        subst he
        have := hl.blk.symm.trans hx
        simp at this
      go_enter Try.func30, Try.ntmps30
      go_wp2
      generalize hW : (World.setCell w _ _).alloc _ = W
      have hbx : SumsAt W bx sb lb lev (m + 1) := by
        subst hW
        exact (Below.heap_alloc _ _ _ (by simpa [World.setCell] using q5)).trans (heap_setCell_at hx 3 _)
      have hbt : W.heap[w.heap.size]? = some (.cells #[.int .i64 t.kind, .int .i64 t.n, .string t.s, .slice A t.kids.length cap] 35 (0, 0)) := by
        subst hW
        rw [show w.heap.size = (w.setCell ⟨bx, 3, none⟩ (.int .i64 ((m : Int) + 1))).heap.size by simp [World.setCell]]
        exact alloc_heap_new _ _
      have FW : Frm [bx] w W := by subst hW; exact (by repeat (first | (with_reducible refine Frm.alloc ?_ _) | (with_reducible refine Frm.drewN ?_ _) | (with_reducible refine Frm.drew ?_) | ((with_reducible refine Frm.setCell ?_ ?_ _); rotate_left; (focus (first | (left; simp; done) | (right; simp; done) | (right; simp; omega)))) | with_reducible assumption | with_reducible exact Frm.refl _ _ | (with_reducible refine Frm.trans0 ?_ ‹_›)))
      have hszW : w.heap.size + 1 ≤ W.heap.size := by subst hW; simp [World.setCell]
      have hF2 : ∀ b, b ∈ w.heap.size :: F → b < W.heap.size := lt_one hF (by omega) (by omega)
      have hsW : StoreAt G (w.heap.size :: F) W sb st := hs.more FW (by simpa using hbG) (by simpa using hbF) (new_one (Nat.le_refl _)) (fun b hb => by simp [hb]) hF2
      have htW : TermV (w.heap.size :: F) W _ _ := (ht.away (new_one (Nat.le_refl _))).frm FW (by simp [hbF])
      have hlW : LatAt W lb l := hl.frm FW hlbx
      clear hW hs ht hl hx q0 q1 q2 q3 q4
      obtain ⟨p0, p1, p2, p3, p4, p5⟩ := blk4 hbx
      obtain ⟨r0, r1, r2, r3, r4, r5⟩ := blk4 hbt
      refine wp_region_T (fun w' => w'.cell? ⟨bx, 0, none⟩ = some (.pointer (some ⟨sb, 0, none⟩)) ∧ w'.cell? ⟨bx, 1, none⟩ = some (.pointer (some ⟨lb, 0, none⟩)) ∧ w'.cell? ⟨w.heap.size, 0, none⟩ = some (.int .i64 t.kind) ∧ w'.cell? ⟨w.heap.size, 1, none⟩ = some (.int .i64 t.n) ∧ w'.cell? ⟨w.heap.size, 2, none⟩ = some (.string t.s) ∧ w'.cell? ⟨w.heap.size, 3, none⟩ = some (.slice A t.kids.length cap)) 12 (by kernel_rfl) ?rgnS1 (fun hHeld => ?rgnB1)
      case rgnS1 => (first | (dsimp only; go_keep) | go_keep)
      case' rgnB1 => skip
      first | (refine wpAnyT_take (i := 0) (oi := { dst := some 21, op := Go.Op.move (Go.Operand.tmp 0), type := 64, pos := "arith.go:121", after := #[], guard := none }) (v := ?_) rfl (by kernel_rfl) (by kernel_rfl) (by kernel_rfl) (by kernel_rfl) (fun _ _ _ h => h) (Or.inl ⟨by rfl, ?_⟩) (by assumption) ?_; rotate_left; (focus (intro w hSw; (try dsimp only at hSw); go_simp; done))) | (refine wpAnyT_take (i := 0) (oi := { dst := some 21, op := Go.Op.move (Go.Operand.tmp 0), type := 64, pos := "arith.go:121", after := #[], guard := none }) (v := ?_) rfl (by kernel_rfl) (by kernel_rfl) (by kernel_rfl) (by kernel_rfl) (fun _ _ _ h => h) (Or.inl ⟨by rfl, ?_⟩) (by assumption) ?_; rotate_left; (focus (intro w hSw; (try dsimp only at hSw); go_simp; with_reducible rfl)))
      try simp only [Act.put, List.setIfInBounds_toArray, List.set_cons_zero, List.set_cons_succ]
      first | (refine wpAnyT_take (i := 1) (oi := { dst := some 22, op := Go.Op.nilCheck (Go.Operand.tmp 21), type := 0, pos := "arith.go:121", after := #[{ on := 0, ground := Go.Ground.data }], guard := none }) (v := ?_) rfl (by kernel_rfl) (by kernel_rfl) (by kernel_rfl) (by kernel_rfl) (fun _ _ _ h => h) (Or.inl ⟨by rfl, ?_⟩) (by assumption) ?_; rotate_left; (focus (intro w hSw; (try dsimp only at hSw); go_simp; done))) | (refine wpAnyT_take (i := 1) (oi := { dst := some 22, op := Go.Op.nilCheck (Go.Operand.tmp 21), type := 0, pos := "arith.go:121", after := #[{ on := 0, ground := Go.Ground.data }], guard := none }) (v := ?_) rfl (by kernel_rfl) (by kernel_rfl) (by kernel_rfl) (by kernel_rfl) (fun _ _ _ h => h) (Or.inl ⟨by rfl, ?_⟩) (by assumption) ?_; rotate_left; (focus (intro w hSw; (try dsimp only at hSw); go_simp; with_reducible rfl)))
      try simp only [Act.put, List.setIfInBounds_toArray, List.set_cons_zero, List.set_cons_succ]
      first | (refine wpAnyT_take (i := 2) (oi := { dst := some 23, op := Go.Op.fieldAddr 66 (Go.Operand.tmp 22) 1, type := 0, pos := "arith.go:121", after := #[{ on := 1, ground := Go.Ground.data }], guard := none }) (v := ?_) rfl (by kernel_rfl) (by kernel_rfl) (by kernel_rfl) (by kernel_rfl) (fun _ _ _ h => h) (Or.inl ⟨by rfl, ?_⟩) (by assumption) ?_; rotate_left; (focus (intro w hSw; (try dsimp only at hSw); go_simp; done))) | (refine wpAnyT_take (i := 2) (oi := { dst := some 23, op := Go.Op.fieldAddr 66 (Go.Operand.tmp 22) 1, type := 0, pos := "arith.go:121", after := #[{ on := 1, ground := Go.Ground.data }], guard := none }) (v := ?_) rfl (by kernel_rfl) (by kernel_rfl) (by kernel_rfl) (by kernel_rfl) (fun _ _ _ h => h) (Or.inl ⟨by rfl, ?_⟩) (by assumption) ?_; rotate_left; (focus (intro w hSw; (try dsimp only at hSw); go_simp; with_reducible rfl)))
      try simp only [Act.put, List.setIfInBounds_toArray, List.set_cons_zero, List.set_cons_succ]
      first | (refine wpAnyT_take (i := 3) (oi := { dst := some 24, op := Go.Op.load 28 (Go.Operand.tmp 23), type := 28, pos := "arith.go:121", after := #[{ on := 2, ground := Go.Ground.data }], guard := none }) (v := ?_) rfl (by kernel_rfl) (by kernel_rfl) (by kernel_rfl) (by kernel_rfl) (fun _ _ _ h => h) (Or.inl ⟨by rfl, ?_⟩) (by assumption) ?_; rotate_left; (focus (intro w hSw; (try dsimp only at hSw); go_simp; done))) | (refine wpAnyT_take (i := 3) (oi := { dst := some 24, op := Go.Op.load 28 (Go.Operand.tmp 23), type := 28, pos := "arith.go:121", after := #[{ on := 2, ground := Go.Ground.data }], guard := none }) (v := ?_) rfl (by kernel_rfl) (by kernel_rfl) (by kernel_rfl) (by kernel_rfl) (fun _ _ _ h => h) (Or.inl ⟨by rfl, ?_⟩) (by assumption) ?_; rotate_left; (focus (intro w hSw; (try dsimp only at hSw); go_simp; with_reducible rfl)))
      try simp only [Act.put, List.setIfInBounds_toArray, List.set_cons_zero, List.set_cons_succ]
      first | (refine wpAnyT_take (i := 4) (oi := { dst := some 25, op := Go.Op.move (Go.Operand.tmp 0), type := 64, pos := "arith.go:121", after := #[], guard := none }) (v := ?_) rfl (by kernel_rfl) (by kernel_rfl) (by kernel_rfl) (by kernel_rfl) (fun _ _ _ h => h) (Or.inl ⟨by rfl, ?_⟩) (by assumption) ?_; rotate_left; (focus (intro w hSw; (try dsimp only at hSw); go_simp; done))) | (refine wpAnyT_take (i := 4) (oi := { dst := some 25, op := Go.Op.move (Go.Operand.tmp 0), type := 64, pos := "arith.go:121", after := #[], guard := none }) (v := ?_) rfl (by kernel_rfl) (by kernel_rfl) (by kernel_rfl) (by kernel_rfl) (fun _ _ _ h => h) (Or.inl ⟨by rfl, ?_⟩) (by assumption) ?_; rotate_left; (focus (intro w hSw; (try dsimp only at hSw); go_simp; with_reducible rfl)))
      try simp only [Act.put, List.setIfInBounds_toArray, List.set_cons_zero, List.set_cons_succ]
      first | (refine wpAnyT_take (i := 5) (oi := { dst := some 26, op := Go.Op.nilCheck (Go.Operand.tmp 25), type := 0, pos := "arith.go:121", after := #[{ on := 4, ground := Go.Ground.data }], guard := none }) (v := ?_) rfl (by kernel_rfl) (by kernel_rfl) (by kernel_rfl) (by kernel_rfl) (fun _ _ _ h => h) (Or.inl ⟨by rfl, ?_⟩) (by assumption) ?_; rotate_left; (focus (intro w hSw; (try dsimp only at hSw); go_simp; done))) | (refine wpAnyT_take (i := 5) (oi := { dst := some 26, op := Go.Op.nilCheck (Go.Operand.tmp 25), type := 0, pos := "arith.go:121", after := #[{ on := 4, ground := Go.Ground.data }], guard := none }) (v := ?_) rfl (by kernel_rfl) (by kernel_rfl) (by kernel_rfl) (by kernel_rfl) (fun _ _ _ h => h) (Or.inl ⟨by rfl, ?_⟩) (by assumption) ?_; rotate_left; (focus (intro w hSw; (try dsimp only at hSw); go_simp; with_reducible rfl)))
      try simp only [Act.put, List.setIfInBounds_toArray, List.set_cons_zero, List.set_cons_succ]
      first | (refine wpAnyT_take (i := 6) (oi := { dst := some 27, op := Go.Op.fieldAddr 66 (Go.Operand.tmp 26) 0, type := 0, pos := "arith.go:121", after := #[{ on := 5, ground := Go.Ground.data }], guard := none }) (v := ?_) rfl (by kernel_rfl) (by kernel_rfl) (by kernel_rfl) (by kernel_rfl) (fun _ _ _ h => h) (Or.inl ⟨by rfl, ?_⟩) (by assumption) ?_; rotate_left; (focus (intro w hSw; (try dsimp only at hSw); go_simp; done))) | (refine wpAnyT_take (i := 6) (oi := { dst := some 27, op := Go.Op.fieldAddr 66 (Go.Operand.tmp 26) 0, type := 0, pos := "arith.go:121", after := #[{ on := 5, ground := Go.Ground.data }], guard := none }) (v := ?_) rfl (by kernel_rfl) (by kernel_rfl) (by kernel_rfl) (by kernel_rfl) (fun _ _ _ h => h) (Or.inl ⟨by rfl, ?_⟩) (by assumption) ?_; rotate_left; (focus (intro w hSw; (try dsimp only at hSw); go_simp; with_reducible rfl)))
      try simp only [Act.put, List.setIfInBounds_toArray, List.set_cons_zero, List.set_cons_succ]
      first | (refine wpAnyT_take (i := 7) (oi := { dst := some 28, op := Go.Op.load 31 (Go.Operand.tmp 27), type := 31, pos := "arith.go:121", after := #[{ on := 6, ground := Go.Ground.data }], guard := none }) (v := ?_) rfl (by kernel_rfl) (by kernel_rfl) (by kernel_rfl) (by kernel_rfl) (fun _ _ _ h => h) (Or.inl ⟨by rfl, ?_⟩) (by assumption) ?_; rotate_left; (focus (intro w hSw; (try dsimp only at hSw); go_simp; done))) | (refine wpAnyT_take (i := 7) (oi := { dst := some 28, op := Go.Op.load 31 (Go.Operand.tmp 27), type := 31, pos := "arith.go:121", after := #[{ on := 6, ground := Go.Ground.data }], guard := none }) (v := ?_) rfl (by kernel_rfl) (by kernel_rfl) (by kernel_rfl) (by kernel_rfl) (fun _ _ _ h => h) (Or.inl ⟨by rfl, ?_⟩) (by assumption) ?_; rotate_left; (focus (intro w hSw; (try dsimp only at hSw); go_simp; with_reducible rfl)))
      try simp only [Act.put, List.setIfInBounds_toArray, List.set_cons_zero, List.set_cons_succ]
      first | (refine wpAnyT_take (i := 8) (oi := { dst := some 29, op := Go.Op.load 35 (Go.Operand.tmp 3), type := 35, pos := "arith.go:121", after := #[], guard := none }) (v := ?_) rfl (by kernel_rfl) (by kernel_rfl) (by kernel_rfl) (by kernel_rfl) (fun _ _ _ h => h) (Or.inl ⟨by rfl, ?_⟩) (by assumption) ?_; rotate_left; (focus (intro w hSw; (try dsimp only at hSw); go_simp; done))) | (refine wpAnyT_take (i := 8) (oi := { dst := some 29, op := Go.Op.load 35 (Go.Operand.tmp 3), type := 35, pos := "arith.go:121", after := #[], guard := none }) (v := ?_) rfl (by kernel_rfl) (by kernel_rfl) (by kernel_rfl) (by kernel_rfl) (fun _ _ _ h => h) (Or.inl ⟨by rfl, ?_⟩) (by assumption) ?_; rotate_left; (focus (intro w hSw; (try dsimp only at hSw); go_simp; with_reducible rfl)))
      try simp only [Act.put, List.setIfInBounds_toArray, List.set_cons_zero, List.set_cons_succ]
      refine wpAnyT_one (i := 9) (o := { dst := some 30, op := Go.Op.call { callee := Go.Callee.value (Go.Operand.func 41), args := #[Go.Operand.tmp 28, Go.Operand.tmp 29], argTypes := #[31, 35] }, type := 35, pos := "arith.go:121", after := #[{ on := 7, ground := Go.Ground.data }, { on := 8, ground := Go.Ground.data }], guard := none }) (by kernel_rfl) rfl (fun K' hK => ?_)
      (go_simp; refine (store_walk G (w.heap.size :: F) sb st t _ _ (hsW.keep (by repeat (first | (with_reducible refine Frm.alloc ?_ _) | (with_reducible refine Frm.drewN ?_ _) | (with_reducible refine Frm.drew ?_) | ((with_reducible refine Frm.setCell ?_ ?_ _); rotate_left; (focus (first | (left; simp; done) | (right; simp; done) | (right; simp; omega)))) | with_reducible assumption | with_reducible exact Frm.refl _ _ | (with_reducible refine Frm.trans0 ?_ ‹_›)))) (htW.keep (by repeat (first | (with_reducible refine Frm.alloc ?_ _) | (with_reducible refine Frm.drewN ?_ _) | (with_reducible refine Frm.drew ?_) | ((with_reducible refine Frm.setCell ?_ ?_ _); rotate_left; (focus (first | (left; simp; done) | (right; simp; done) | (right; simp; omega)))) | with_reducible assumption | with_reducible exact Frm.refl _ _ | (with_reducible refine Frm.trans0 ?_ ‹_›))))).mono ?_; rintro e w2 ⟨⟨v2, rfl, hv2⟩, F2⟩; obtain ⟨A2, cap2, rfl⟩ := hv2.form; have hbx2 := F2.at0 hbx; have hbt2 := F2.at0 hbt; obtain ⟨P0, P1, P2, P3, P4, P5⟩ := blk4 hbx2; obtain ⟨R0, R1, R2, R3, R4, R5⟩ := blk4 hbt2; dsimp only)
      refine hK.out _ _ (fun _ => ?rgnS2) (fun hH => ?rgnB2)
      case rgnS2 => (first | (dsimp only; go_keep) | go_keep)
      case' rgnB2 => (clear hHeld; have hHeld := hH (by decide); clear hH)
      clear hK K'
      try simp only [Act.put, List.setIfInBounds_toArray, List.set_cons_zero, List.set_cons_succ]
      refine wpAnyT_one (i := 10) (o := { dst := some 31, op := Go.Op.call { callee := Go.Callee.value (Go.Operand.func 40), args := #[Go.Operand.tmp 24, Go.Operand.tmp 30], argTypes := #[28, 35] }, type := 75, pos := "arith.go:121", after := #[{ on := 3, ground := Go.Ground.data }, { on := 9, ground := Go.Ground.data }, { on := 9, ground := Go.Ground.chain }], guard := none }) (by kernel_rfl) rfl (fun K' hK => ?_)
      (go_simp; refine (seal_open (w.heap.size :: F) l lb _ _ _ (hlW.frm0 (by repeat (first | (with_reducible refine Frm.alloc ?_ _) | (with_reducible refine Frm.drewN ?_ _) | (with_reducible refine Frm.drew ?_) | ((with_reducible refine Frm.setCell ?_ ?_ _); rotate_left; (focus (first | (left; simp; done) | (right; simp; done) | (right; simp; omega)))) | with_reducible assumption | with_reducible exact Frm.refl _ _ | (with_reducible refine Frm.trans0 ?_ ‹_›)))) (hv2.keep (by repeat (first | (with_reducible refine Frm.alloc ?_ _) | (with_reducible refine Frm.drewN ?_ _) | (with_reducible refine Frm.drew ?_) | ((with_reducible refine Frm.setCell ?_ ?_ _); rotate_left; (focus (first | (left; simp; done) | (right; simp; done) | (right; simp; omega)))) | with_reducible assumption | with_reducible exact Frm.refl _ _ | (with_reducible refine Frm.trans0 ?_ ‹_›)))) (fun b hb => by have := hF2 b hb; have := F2.size; simp at this; omega)).mono ?_; rintro e w3 ⟨⟨v3, rfl, hv3⟩, F3⟩; obtain ⟨A3, cap3, rfl⟩ := hv3.form; have hbx3 := F3.at0 hbx2; have hbt3 := F3.at0 hbt2; obtain ⟨P0', P1', P2', P3', P4', P5'⟩ := blk4 hbx3; obtain ⟨R0', R1', R2', R3', R4', R5'⟩ := blk4 hbt3; dsimp only)
      refine hK.out _ _ (fun _ => ?rgnS3) (fun hH => ?rgnB3)
      case rgnS3 => (first | (dsimp only; go_keep) | go_keep)
      case' rgnB3 => (clear hHeld; have hHeld := hH (by decide); clear hH)
      clear hK K'
      try simp only [Act.put, List.setIfInBounds_toArray, List.set_cons_zero, List.set_cons_succ]
      first | (refine wpAnyT_take (i := 11) (oi := { dst := some 20, op := Go.Op.move (Go.Operand.tmp 31), type := 75, pos := "arith.go:121", after := #[{ on := 10, ground := Go.Ground.data }], guard := none }) (v := ?_) rfl (by kernel_rfl) (by kernel_rfl) (by kernel_rfl) (by kernel_rfl) (fun _ _ _ h => h) (Or.inl ⟨by rfl, ?_⟩) (by assumption) ?_; rotate_left; (focus (intro w hSw; (try dsimp only at hSw); go_simp; done))) | (refine wpAnyT_take (i := 11) (oi := { dst := some 20, op := Go.Op.move (Go.Operand.tmp 31), type := 75, pos := "arith.go:121", after := #[{ on := 10, ground := Go.Ground.data }], guard := none }) (v := ?_) rfl (by kernel_rfl) (by kernel_rfl) (by kernel_rfl) (by kernel_rfl) (fun _ _ _ h => h) (Or.inl ⟨by rfl, ?_⟩) (by assumption) ?_; rotate_left; (focus (intro w hSw; (try dsimp only at hSw); go_simp; with_reducible rfl)))
      try simp only [Act.put, List.setIfInBounds_toArray, List.set_cons_zero, List.set_cons_succ]
      first | (refine wpAnyT_take' (i := 12) (oi := { dst := some 32, op := Go.Op.extract (Go.Operand.tmp 20) 0, type := 35, pos := "arith.go:121", after := #[{ on := 11, ground := Go.Ground.data }], guard := none }) (v := ?_) rfl (by kernel_rfl) (by kernel_rfl) (by kernel_rfl) (by kernel_rfl) (fun _ _ _ h => h) (Or.inl ⟨by rfl, ?_⟩) ?_; rotate_left; (focus (intro w hSw; (try dsimp only at hSw); go_simp; done))) | (refine wpAnyT_take' (i := 12) (oi := { dst := some 32, op := Go.Op.extract (Go.Operand.tmp 20) 0, type := 35, pos := "arith.go:121", after := #[{ on := 11, ground := Go.Ground.data }], guard := none }) (v := ?_) rfl (by kernel_rfl) (by kernel_rfl) (by kernel_rfl) (by kernel_rfl) (fun _ _ _ h => h) (Or.inl ⟨by rfl, ?_⟩) ?_; rotate_left; (focus (intro w hSw; (try dsimp only at hSw); go_simp; with_reducible rfl)))
      try simp only [Act.put, List.setIfInBounds_toArray, List.set_cons_zero, List.set_cons_succ]
      first | (refine wpAnyT_take' (i := 13) (oi := { dst := some 33, op := Go.Op.extract (Go.Operand.tmp 20) 1, type := 3, pos := "arith.go:121", after := #[{ on := 11, ground := Go.Ground.data }, { on := 14, ground := Go.Ground.gcOnly Go.Departure.lateStores }], guard := none }) (v := ?_) rfl (by kernel_rfl) (by kernel_rfl) (by kernel_rfl) (by kernel_rfl) (fun _ _ _ h => h) (Or.inl ⟨by rfl, ?_⟩) ?_; rotate_left; (focus (intro w hSw; (try dsimp only at hSw); go_simp; done))) | (refine wpAnyT_take' (i := 13) (oi := { dst := some 33, op := Go.Op.extract (Go.Operand.tmp 20) 1, type := 3, pos := "arith.go:121", after := #[{ on := 11, ground := Go.Ground.data }, { on := 14, ground := Go.Ground.gcOnly Go.Departure.lateStores }], guard := none }) (v := ?_) rfl (by kernel_rfl) (by kernel_rfl) (by kernel_rfl) (by kernel_rfl) (fun _ _ _ h => h) (Or.inl ⟨by rfl, ?_⟩) ?_; rotate_left; (focus (intro w hSw; (try dsimp only at hSw); go_simp; with_reducible rfl)))
      try simp only [Act.put, List.setIfInBounds_toArray, List.set_cons_zero, List.set_cons_succ]
      refine wpAnyT_one (i := 14) (o := { dst := none, op := Go.Op.store 35 (Go.Operand.tmp 3) (Go.Operand.tmp 32), type := 0, pos := "arith.go:121", after := #[{ on := 12, ground := Go.Ground.data }, { on := 10, ground := Go.Ground.chain }, { on := 0, ground := Go.Ground.phase }, { on := 1, ground := Go.Ground.phase }, { on := 2, ground := Go.Ground.phase }, { on := 3, ground := Go.Ground.phase }, { on := 4, ground := Go.Ground.phase }, { on := 5, ground := Go.Ground.phase }, { on := 6, ground := Go.Ground.phase }, { on := 7, ground := Go.Ground.phase }, { on := 8, ground := Go.Ground.phase }, { on := 9, ground := Go.Ground.phase }, { on := 10, ground := Go.Ground.phase }, { on := 11, ground := Go.Ground.phase }, { on := 12, ground := Go.Ground.phase }, { on := 13, ground := Go.Ground.textOnly Go.Departure.lateStores }], guard := none }) (by kernel_rfl) rfl (fun K' hK => ?_)
      (rw [if_pos (by rfl)]; go_simp)
      refine hK.out _ _ (fun h => absurd h (by decide)) (fun _ => ?_)
      clear hK K'
      try simp only [Act.put, List.setIfInBounds_toArray, List.set_cons_zero, List.set_cons_succ]
      first | (refine wpAnyT_take' (i := 15) (oi := { dst := some 5, op := Go.Op.assign (Go.Operand.tmp 33), type := 3, pos := "arith.go:121", after := #[{ on := 13, ground := Go.Ground.data }, { on := 14, ground := Go.Ground.chain }, { on := 0, ground := Go.Ground.phase }, { on := 1, ground := Go.Ground.phase }, { on := 2, ground := Go.Ground.phase }, { on := 3, ground := Go.Ground.phase }, { on := 4, ground := Go.Ground.phase }, { on := 5, ground := Go.Ground.phase }, { on := 6, ground := Go.Ground.phase }, { on := 7, ground := Go.Ground.phase }, { on := 8, ground := Go.Ground.phase }, { on := 9, ground := Go.Ground.phase }, { on := 10, ground := Go.Ground.phase }, { on := 11, ground := Go.Ground.phase }, { on := 12, ground := Go.Ground.phase }, { on := 13, ground := Go.Ground.phase }, { on := 14, ground := Go.Ground.phase }], guard := none }) (v := ?_) rfl (by kernel_rfl) (by kernel_rfl) (by kernel_rfl) (by kernel_rfl) (fun _ _ _ h => h) (Or.inl ⟨by rfl, ?_⟩) ?_; rotate_left; (focus (intro w hSw; (try dsimp only at hSw); go_simp; done))) | (refine wpAnyT_take' (i := 15) (oi := { dst := some 5, op := Go.Op.assign (Go.Operand.tmp 33), type := 3, pos := "arith.go:121", after := #[{ on := 13, ground := Go.Ground.data }, { on := 14, ground := Go.Ground.chain }, { on := 0, ground := Go.Ground.phase }, { on := 1, ground := Go.Ground.phase }, { on := 2, ground := Go.Ground.phase }, { on := 3, ground := Go.Ground.phase }, { on := 4, ground := Go.Ground.phase }, { on := 5, ground := Go.Ground.phase }, { on := 6, ground := Go.Ground.phase }, { on := 7, ground := Go.Ground.phase }, { on := 8, ground := Go.Ground.phase }, { on := 9, ground := Go.Ground.phase }, { on := 10, ground := Go.Ground.phase }, { on := 11, ground := Go.Ground.phase }, { on := 12, ground := Go.Ground.phase }, { on := 13, ground := Go.Ground.phase }, { on := 14, ground := Go.Ground.phase }], guard := none }) (v := ?_) rfl (by kernel_rfl) (by kernel_rfl) (by kernel_rfl) (by kernel_rfl) (fun _ _ _ h => h) (Or.inl ⟨by rfl, ?_⟩) ?_; rotate_left; (focus (intro w hSw; (try dsimp only at hSw); go_simp; with_reducible rfl)))
      try simp only [Act.put, List.setIfInBounds_toArray, List.set_cons_zero, List.set_cons_succ]
      refine wpAnyT_done (by kernel_rfl) ?_ _
      have HE := Lib.hid (evalT_succ l st d m t lev hm2)
      generalize l.opened (st.walk t) = o at *
      obtain ⟨⟨k, n, s, ts⟩, lv⟩ := o
      dsimp only [kind_mk, n_mk, s_mk, kids_mk] at *
      go_wp2
      generalize hW1 : World.setCell _ _ (.slice A3 _ _) = W1
      have F1 : Frm [w.heap.size] w3 W1 := by subst hW1; exact (by repeat (first | (with_reducible refine Frm.alloc ?_ _) | (with_reducible refine Frm.drewN ?_ _) | (with_reducible refine Frm.drew ?_) | ((with_reducible refine Frm.setCell ?_ ?_ _); rotate_left; (focus (first | (left; simp; done) | (right; simp; done) | (right; simp; omega)))) | with_reducible assumption | with_reducible exact Frm.refl _ _ | (with_reducible refine Frm.trans0 ?_ ‹_›)))
      have hbx1 : SumsAt W1 bx sb lb lev (m + 1) := F1.at_ hbx3 (by simp; omega)
      have hbt1 : W1.heap[w.heap.size]? = some (.cells #[.int .i64 k, .int .i64 n, .string s, .slice A3 ts.length cap3] 35 (0, 0)) := by subst hW1; exact box_store4 hbt3 _ _ _ _
      have hv1 := hv3.frm F1 (by simp)
      have F20 : Frm [] W w2 := (Frm.refl [] W).drew.trans0 F2
      have F01 : Frm [bx] w W1 := ((FW.trans0 F20).trans0 F3).trans F1 (by simp)
      have hF3 : ∀ b, b ∈ w.heap.size :: F → b < W1.heap.size := fun b hb => by have := hF2 b hb; have := F20.size; have := F3.size; have := F1.size; omega
      have hl1 : LatAt W1 lb l := ((hlW.frm0 F20).frm0 F3).frm F1 (by have := hlW.lt; simp; intro h; have := (hlW.blk.symm.trans (h ▸ hbt)); simp at this)
      have hs1 : StoreAt G (w.heap.size :: F) W1 sb st := ((hsW.keep F20).keep F3).frm F1 (by intro b hb hg; have := hF _ (hGF _ hg); simp at hb; omega) (by simp)
      clear hW1 F1 hbx3 hbt3 hv3 hbx2 hbt2 hv2
      obtain ⟨p0, p1, p2, p3, p4, p5⟩ := blk4 hbx1
      obtain ⟨r0, r1, r2, r3, r4, r5⟩ := blk4 hbt1
      refine wp_region_T (fun w' => w'.cell? ⟨bx, 0, none⟩ = some (.pointer (some ⟨sb, 0, none⟩)) ∧ w'.cell? ⟨bx, 1, none⟩ = some (.pointer (some ⟨lb, 0, none⟩)) ∧ w'.cell? ⟨bx, 2, none⟩ = some (.int .i64 lev)) 13 (by kernel_rfl) ?rgnS4 (fun hHeld => ?rgnB4)
      case rgnS4 => (first | (dsimp only; go_keep) | go_keep)
      case' rgnB4 => skip
      first | (refine wpAnyT_take (i := 0) (oi := { dst := some 34, op := Go.Op.move (Go.Operand.tmp 0), type := 64, pos := "arith.go:122", after := #[], guard := none }) (v := ?_) rfl (by kernel_rfl) (by kernel_rfl) (by kernel_rfl) (by kernel_rfl) (fun _ _ _ h => h) (Or.inl ⟨by rfl, ?_⟩) (by assumption) ?_; rotate_left; (focus (intro w hSw; (try dsimp only at hSw); go_simp; done))) | (refine wpAnyT_take (i := 0) (oi := { dst := some 34, op := Go.Op.move (Go.Operand.tmp 0), type := 64, pos := "arith.go:122", after := #[], guard := none }) (v := ?_) rfl (by kernel_rfl) (by kernel_rfl) (by kernel_rfl) (by kernel_rfl) (fun _ _ _ h => h) (Or.inl ⟨by rfl, ?_⟩) (by assumption) ?_; rotate_left; (focus (intro w hSw; (try dsimp only at hSw); go_simp; with_reducible rfl)))
      try simp only [Act.put, List.setIfInBounds_toArray, List.set_cons_zero, List.set_cons_succ]
      first | (refine wpAnyT_take (i := 1) (oi := { dst := some 35, op := Go.Op.move (Go.Operand.tmp 0), type := 64, pos := "arith.go:122", after := #[], guard := none }) (v := ?_) rfl (by kernel_rfl) (by kernel_rfl) (by kernel_rfl) (by kernel_rfl) (fun _ _ _ h => h) (Or.inl ⟨by rfl, ?_⟩) (by assumption) ?_; rotate_left; (focus (intro w hSw; (try dsimp only at hSw); go_simp; done))) | (refine wpAnyT_take (i := 1) (oi := { dst := some 35, op := Go.Op.move (Go.Operand.tmp 0), type := 64, pos := "arith.go:122", after := #[], guard := none }) (v := ?_) rfl (by kernel_rfl) (by kernel_rfl) (by kernel_rfl) (by kernel_rfl) (fun _ _ _ h => h) (Or.inl ⟨by rfl, ?_⟩) (by assumption) ?_; rotate_left; (focus (intro w hSw; (try dsimp only at hSw); go_simp; with_reducible rfl)))
      try simp only [Act.put, List.setIfInBounds_toArray, List.set_cons_zero, List.set_cons_succ]
      first | (refine wpAnyT_take (i := 2) (oi := { dst := some 36, op := Go.Op.nilCheck (Go.Operand.tmp 35), type := 0, pos := "arith.go:122", after := #[{ on := 1, ground := Go.Ground.data }], guard := none }) (v := ?_) rfl (by kernel_rfl) (by kernel_rfl) (by kernel_rfl) (by kernel_rfl) (fun _ _ _ h => h) (Or.inl ⟨by rfl, ?_⟩) (by assumption) ?_; rotate_left; (focus (intro w hSw; (try dsimp only at hSw); go_simp; done))) | (refine wpAnyT_take (i := 2) (oi := { dst := some 36, op := Go.Op.nilCheck (Go.Operand.tmp 35), type := 0, pos := "arith.go:122", after := #[{ on := 1, ground := Go.Ground.data }], guard := none }) (v := ?_) rfl (by kernel_rfl) (by kernel_rfl) (by kernel_rfl) (by kernel_rfl) (fun _ _ _ h => h) (Or.inl ⟨by rfl, ?_⟩) (by assumption) ?_; rotate_left; (focus (intro w hSw; (try dsimp only at hSw); go_simp; with_reducible rfl)))
      try simp only [Act.put, List.setIfInBounds_toArray, List.set_cons_zero, List.set_cons_succ]
      first | (refine wpAnyT_take (i := 3) (oi := { dst := some 37, op := Go.Op.fieldAddr 66 (Go.Operand.tmp 36) 1, type := 0, pos := "arith.go:122", after := #[{ on := 2, ground := Go.Ground.data }], guard := none }) (v := ?_) rfl (by kernel_rfl) (by kernel_rfl) (by kernel_rfl) (by kernel_rfl) (fun _ _ _ h => h) (Or.inl ⟨by rfl, ?_⟩) (by assumption) ?_; rotate_left; (focus (intro w hSw; (try dsimp only at hSw); go_simp; done))) | (refine wpAnyT_take (i := 3) (oi := { dst := some 37, op := Go.Op.fieldAddr 66 (Go.Operand.tmp 36) 1, type := 0, pos := "arith.go:122", after := #[{ on := 2, ground := Go.Ground.data }], guard := none }) (v := ?_) rfl (by kernel_rfl) (by kernel_rfl) (by kernel_rfl) (by kernel_rfl) (fun _ _ _ h => h) (Or.inl ⟨by rfl, ?_⟩) (by assumption) ?_; rotate_left; (focus (intro w hSw; (try dsimp only at hSw); go_simp; with_reducible rfl)))
      try simp only [Act.put, List.setIfInBounds_toArray, List.set_cons_zero, List.set_cons_succ]
      first | (refine wpAnyT_take (i := 4) (oi := { dst := some 38, op := Go.Op.load 28 (Go.Operand.tmp 37), type := 28, pos := "arith.go:122", after := #[{ on := 3, ground := Go.Ground.data }], guard := none }) (v := ?_) rfl (by kernel_rfl) (by kernel_rfl) (by kernel_rfl) (by kernel_rfl) (fun _ _ _ h => h) (Or.inl ⟨by rfl, ?_⟩) (by assumption) ?_; rotate_left; (focus (intro w hSw; (try dsimp only at hSw); go_simp; done))) | (refine wpAnyT_take (i := 4) (oi := { dst := some 38, op := Go.Op.load 28 (Go.Operand.tmp 37), type := 28, pos := "arith.go:122", after := #[{ on := 3, ground := Go.Ground.data }], guard := none }) (v := ?_) rfl (by kernel_rfl) (by kernel_rfl) (by kernel_rfl) (by kernel_rfl) (fun _ _ _ h => h) (Or.inl ⟨by rfl, ?_⟩) (by assumption) ?_; rotate_left; (focus (intro w hSw; (try dsimp only at hSw); go_simp; with_reducible rfl)))
      try simp only [Act.put, List.setIfInBounds_toArray, List.set_cons_zero, List.set_cons_succ]
      first | (refine wpAnyT_take (i := 5) (oi := { dst := some 39, op := Go.Op.move (Go.Operand.tmp 0), type := 64, pos := "arith.go:122", after := #[], guard := none }) (v := ?_) rfl (by kernel_rfl) (by kernel_rfl) (by kernel_rfl) (by kernel_rfl) (fun _ _ _ h => h) (Or.inl ⟨by rfl, ?_⟩) (by assumption) ?_; rotate_left; (focus (intro w hSw; (try dsimp only at hSw); go_simp; done))) | (refine wpAnyT_take (i := 5) (oi := { dst := some 39, op := Go.Op.move (Go.Operand.tmp 0), type := 64, pos := "arith.go:122", after := #[], guard := none }) (v := ?_) rfl (by kernel_rfl) (by kernel_rfl) (by kernel_rfl) (by kernel_rfl) (fun _ _ _ h => h) (Or.inl ⟨by rfl, ?_⟩) (by assumption) ?_; rotate_left; (focus (intro w hSw; (try dsimp only at hSw); go_simp; with_reducible rfl)))
      try simp only [Act.put, List.setIfInBounds_toArray, List.set_cons_zero, List.set_cons_succ]
      first | (refine wpAnyT_take (i := 6) (oi := { dst := some 40, op := Go.Op.nilCheck (Go.Operand.tmp 39), type := 0, pos := "arith.go:122", after := #[{ on := 5, ground := Go.Ground.data }], guard := none }) (v := ?_) rfl (by kernel_rfl) (by kernel_rfl) (by kernel_rfl) (by kernel_rfl) (fun _ _ _ h => h) (Or.inl ⟨by rfl, ?_⟩) (by assumption) ?_; rotate_left; (focus (intro w hSw; (try dsimp only at hSw); go_simp; done))) | (refine wpAnyT_take (i := 6) (oi := { dst := some 40, op := Go.Op.nilCheck (Go.Operand.tmp 39), type := 0, pos := "arith.go:122", after := #[{ on := 5, ground := Go.Ground.data }], guard := none }) (v := ?_) rfl (by kernel_rfl) (by kernel_rfl) (by kernel_rfl) (by kernel_rfl) (fun _ _ _ h => h) (Or.inl ⟨by rfl, ?_⟩) (by assumption) ?_; rotate_left; (focus (intro w hSw; (try dsimp only at hSw); go_simp; with_reducible rfl)))
      try simp only [Act.put, List.setIfInBounds_toArray, List.set_cons_zero, List.set_cons_succ]
      first | (refine wpAnyT_take (i := 7) (oi := { dst := some 41, op := Go.Op.fieldAddr 66 (Go.Operand.tmp 40) 2, type := 0, pos := "arith.go:122", after := #[{ on := 6, ground := Go.Ground.data }], guard := none }) (v := ?_) rfl (by kernel_rfl) (by kernel_rfl) (by kernel_rfl) (by kernel_rfl) (fun _ _ _ h => h) (Or.inl ⟨by rfl, ?_⟩) (by assumption) ?_; rotate_left; (focus (intro w hSw; (try dsimp only at hSw); go_simp; done))) | (refine wpAnyT_take (i := 7) (oi := { dst := some 41, op := Go.Op.fieldAddr 66 (Go.Operand.tmp 40) 2, type := 0, pos := "arith.go:122", after := #[{ on := 6, ground := Go.Ground.data }], guard := none }) (v := ?_) rfl (by kernel_rfl) (by kernel_rfl) (by kernel_rfl) (by kernel_rfl) (fun _ _ _ h => h) (Or.inl ⟨by rfl, ?_⟩) (by assumption) ?_; rotate_left; (focus (intro w hSw; (try dsimp only at hSw); go_simp; with_reducible rfl)))
      try simp only [Act.put, List.setIfInBounds_toArray, List.set_cons_zero, List.set_cons_succ]
      first | (refine wpAnyT_take (i := 8) (oi := { dst := some 42, op := Go.Op.load 3 (Go.Operand.tmp 41), type := 3, pos := "arith.go:122", after := #[{ on := 7, ground := Go.Ground.data }], guard := none }) (v := ?_) rfl (by kernel_rfl) (by kernel_rfl) (by kernel_rfl) (by kernel_rfl) (fun _ _ _ h => h) (Or.inl ⟨by rfl, ?_⟩) (by assumption) ?_; rotate_left; (focus (intro w hSw; (try dsimp only at hSw); go_simp; done))) | (refine wpAnyT_take (i := 8) (oi := { dst := some 42, op := Go.Op.load 3 (Go.Operand.tmp 41), type := 3, pos := "arith.go:122", after := #[{ on := 7, ground := Go.Ground.data }], guard := none }) (v := ?_) rfl (by kernel_rfl) (by kernel_rfl) (by kernel_rfl) (by kernel_rfl) (fun _ _ _ h => h) (Or.inl ⟨by rfl, ?_⟩) (by assumption) ?_; rotate_left; (focus (intro w hSw; (try dsimp only at hSw); go_simp; with_reducible rfl)))
      try simp only [Act.put, List.setIfInBounds_toArray, List.set_cons_zero, List.set_cons_succ]
      first | (refine wpAnyT_take (i := 9) (oi := { dst := some 43, op := Go.Op.move (Go.Operand.tmp 5), type := 3, pos := "arith.go:122", after := #[], guard := none }) (v := ?_) rfl (by kernel_rfl) (by kernel_rfl) (by kernel_rfl) (by kernel_rfl) (fun _ _ _ h => h) (Or.inl ⟨by rfl, ?_⟩) (by assumption) ?_; rotate_left; (focus (intro w hSw; (try dsimp only at hSw); go_simp; done))) | (refine wpAnyT_take (i := 9) (oi := { dst := some 43, op := Go.Op.move (Go.Operand.tmp 5), type := 3, pos := "arith.go:122", after := #[], guard := none }) (v := ?_) rfl (by kernel_rfl) (by kernel_rfl) (by kernel_rfl) (by kernel_rfl) (fun _ _ _ h => h) (Or.inl ⟨by rfl, ?_⟩) (by assumption) ?_; rotate_left; (focus (intro w hSw; (try dsimp only at hSw); go_simp; with_reducible rfl)))
      try simp only [Act.put, List.setIfInBounds_toArray, List.set_cons_zero, List.set_cons_succ]
      refine wpAnyT_one (i := 10) (o := { dst := some 44, op := Go.Op.call { callee := Go.Callee.value (Go.Operand.func 27), args := #[Go.Operand.tmp 38, Go.Operand.tmp 42, Go.Operand.tmp 43], argTypes := #[28, 3, 3] }, type := 3, pos := "arith.go:122", after := #[{ on := 4, ground := Go.Ground.data }, { on := 8, ground := Go.Ground.data }, { on := 9, ground := Go.Ground.data }], guard := none }) (by kernel_rfl) rfl (fun K' hK => ?_)
      (go_simp; refine (lat_join l lb _ _ _ (hl1.frm0 (by repeat (first | (with_reducible refine Frm.alloc ?_ _) | (with_reducible refine Frm.drewN ?_ _) | (with_reducible refine Frm.drew ?_) | ((with_reducible refine Frm.setCell ?_ ?_ _); rotate_left; (focus (first | (left; simp; done) | (right; simp; done) | (right; simp; omega)))) | with_reducible assumption | with_reducible exact Frm.refl _ _ | (with_reducible refine Frm.trans0 ?_ ‹_›))))).mono ?_; rintro e w4 ⟨rfl, D4⟩; have F4 := (Frm.refl [] W1).drew.trans0 (D4.frm []); have hbx4 := F4.at0 hbx1; have hbt4 := F4.at0 hbt1; obtain ⟨P0, P1, P2, P3, P4, P5⟩ := blk4 hbx4; dsimp only)
      refine hK.out _ _ (fun _ => ?rgnS5) (fun hH => ?rgnB5)
      case rgnS5 => (first | (dsimp only; go_keep) | go_keep)
      case' rgnB5 => (clear hHeld; have hHeld := hH (by decide); clear hH)
      clear hK K'
      try simp only [Act.put, List.setIfInBounds_toArray, List.set_cons_zero, List.set_cons_succ]
      first | (refine wpAnyT_take (i := 11) (oi := { dst := some 45, op := Go.Op.nilCheck (Go.Operand.tmp 34), type := 0, pos := "arith.go:122", after := #[{ on := 0, ground := Go.Ground.data }, { on := 0, ground := Go.Ground.phase }, { on := 1, ground := Go.Ground.phase }, { on := 2, ground := Go.Ground.phase }, { on := 3, ground := Go.Ground.phase }, { on := 4, ground := Go.Ground.phase }, { on := 5, ground := Go.Ground.phase }, { on := 6, ground := Go.Ground.phase }, { on := 7, ground := Go.Ground.phase }, { on := 8, ground := Go.Ground.phase }, { on := 9, ground := Go.Ground.phase }, { on := 10, ground := Go.Ground.phase }], guard := none }) (v := ?_) rfl (by kernel_rfl) (by kernel_rfl) (by kernel_rfl) (by kernel_rfl) (fun _ _ _ h => h) (Or.inl ⟨by rfl, ?_⟩) (by assumption) ?_; rotate_left; (focus (intro w hSw; (try dsimp only at hSw); go_simp; done))) | (refine wpAnyT_take (i := 11) (oi := { dst := some 45, op := Go.Op.nilCheck (Go.Operand.tmp 34), type := 0, pos := "arith.go:122", after := #[{ on := 0, ground := Go.Ground.data }, { on := 0, ground := Go.Ground.phase }, { on := 1, ground := Go.Ground.phase }, { on := 2, ground := Go.Ground.phase }, { on := 3, ground := Go.Ground.phase }, { on := 4, ground := Go.Ground.phase }, { on := 5, ground := Go.Ground.phase }, { on := 6, ground := Go.Ground.phase }, { on := 7, ground := Go.Ground.phase }, { on := 8, ground := Go.Ground.phase }, { on := 9, ground := Go.Ground.phase }, { on := 10, ground := Go.Ground.phase }], guard := none }) (v := ?_) rfl (by kernel_rfl) (by kernel_rfl) (by kernel_rfl) (by kernel_rfl) (fun _ _ _ h => h) (Or.inl ⟨by rfl, ?_⟩) (by assumption) ?_; rotate_left; (focus (intro w hSw; (try dsimp only at hSw); go_simp; with_reducible rfl)))
      try simp only [Act.put, List.setIfInBounds_toArray, List.set_cons_zero, List.set_cons_succ]
      first | (refine wpAnyT_take (i := 12) (oi := { dst := some 46, op := Go.Op.fieldAddr 66 (Go.Operand.tmp 45) 2, type := 0, pos := "arith.go:122", after := #[{ on := 11, ground := Go.Ground.data }, { on := 0, ground := Go.Ground.phase }, { on := 1, ground := Go.Ground.phase }, { on := 2, ground := Go.Ground.phase }, { on := 3, ground := Go.Ground.phase }, { on := 4, ground := Go.Ground.phase }, { on := 5, ground := Go.Ground.phase }, { on := 6, ground := Go.Ground.phase }, { on := 7, ground := Go.Ground.phase }, { on := 8, ground := Go.Ground.phase }, { on := 9, ground := Go.Ground.phase }, { on := 10, ground := Go.Ground.phase }], guard := none }) (v := ?_) rfl (by kernel_rfl) (by kernel_rfl) (by kernel_rfl) (by kernel_rfl) (fun _ _ _ h => h) (Or.inl ⟨by rfl, ?_⟩) (by assumption) ?_; rotate_left; (focus (intro w hSw; (try dsimp only at hSw); go_simp; done))) | (refine wpAnyT_take (i := 12) (oi := { dst := some 46, op := Go.Op.fieldAddr 66 (Go.Operand.tmp 45) 2, type := 0, pos := "arith.go:122", after := #[{ on := 11, ground := Go.Ground.data }, { on := 0, ground := Go.Ground.phase }, { on := 1, ground := Go.Ground.phase }, { on := 2, ground := Go.Ground.phase }, { on := 3, ground := Go.Ground.phase }, { on := 4, ground := Go.Ground.phase }, { on := 5, ground := Go.Ground.phase }, { on := 6, ground := Go.Ground.phase }, { on := 7, ground := Go.Ground.phase }, { on := 8, ground := Go.Ground.phase }, { on := 9, ground := Go.Ground.phase }, { on := 10, ground := Go.Ground.phase }], guard := none }) (v := ?_) rfl (by kernel_rfl) (by kernel_rfl) (by kernel_rfl) (by kernel_rfl) (fun _ _ _ h => h) (Or.inl ⟨by rfl, ?_⟩) (by assumption) ?_; rotate_left; (focus (intro w hSw; (try dsimp only at hSw); go_simp; with_reducible rfl)))
      try simp only [Act.put, List.setIfInBounds_toArray, List.set_cons_zero, List.set_cons_succ]
      refine wpAnyT_one (i := 13) (o := { dst := none, op := Go.Op.store 3 (Go.Operand.tmp 46) (Go.Operand.tmp 44), type := 0, pos := "arith.go:122", after := #[{ on := 12, ground := Go.Ground.data }, { on := 10, ground := Go.Ground.data }, { on := 10, ground := Go.Ground.chain }, { on := 0, ground := Go.Ground.phase }, { on := 1, ground := Go.Ground.phase }, { on := 2, ground := Go.Ground.phase }, { on := 3, ground := Go.Ground.phase }, { on := 4, ground := Go.Ground.phase }, { on := 5, ground := Go.Ground.phase }, { on := 6, ground := Go.Ground.phase }, { on := 7, ground := Go.Ground.phase }, { on := 8, ground := Go.Ground.phase }, { on := 9, ground := Go.Ground.phase }, { on := 10, ground := Go.Ground.phase }], guard := none }) (by kernel_rfl) rfl (fun K' hK => ?_)
      go_simp
      refine hK.out _ _ (fun h => absurd h (by decide)) (fun _ => ?_)
      clear hK K'
      try simp only [Act.put, List.setIfInBounds_toArray, List.set_cons_zero, List.set_cons_succ]
      refine wpAnyT_done (by kernel_rfl) ?_ _
      generalize l.join lev lv = lev2 at *
      have HE2 : Hid (evalT l st (d + 1) m _ lev = evalB (evalT l st d) (m + 1) lev2 k n s ts) := HE
      clear HE
      generalize hW2 : World.setCell w4 _ _ = W2
      have FW2 : Frm [bx] w4 W2 := by subst hW2; exact (by repeat (first | (with_reducible refine Frm.alloc ?_ _) | (with_reducible refine Frm.drewN ?_ _) | (with_reducible refine Frm.drew ?_) | ((with_reducible refine Frm.setCell ?_ ?_ _); rotate_left; (focus (first | (left; simp; done) | (right; simp; done) | (right; simp; omega)))) | with_reducible assumption | with_reducible exact Frm.refl _ _ | (with_reducible refine Frm.trans0 ?_ ‹_›)))
      have hbx5 : SumsAt W2 bx sb lb lev2 (m + 1) := by subst hW2; exact heap_setCell_at hbx4 2 _
      have hbt5 := FW2.at_ hbt4 (by simp; omega)
      have hs2 : StoreAt G (w.heap.size :: F) W2 sb st := (hs1.keep F4).frm FW2 (by simpa using hbG) (by simp [hbF])
      have hv2 := (hv1.keep F4).frm FW2 (by simp [hbF])
      have hl2 : LatAt W2 lb l := (hl1.frm0 F4).frm FW2 hlbx
      have F02 : Frm [bx] w W2 := (F01.trans0 F4).trans' FW2
      clear hW2 FW2 F4 D4 hbx4 hbt4 hbx1 hbt1 hs1 hl1 hv1 p0 p1 p2 p3 r0 r1 r2 r3 P0 P1 P2 P3
      obtain ⟨p0, p1, p2, p3, p4, p5⟩ := blk4 hbx5
      obtain ⟨r0, r1, r2, r3, r4, r5⟩ := blk4 hbt5
      have hv3 := hv2
      simp only [TermV] at hv3
      obtain ⟨A4, cap4, hv4, hk1, hn1, hs4, hts, hc, hc2, hk⟩ := hv3
      simp only [Value.agg.injEq, Array.mk.injEq, List.cons.injEq, Value.slice.injEq, true_and, and_true] at hv4
      obtain ⟨rfl, rfl⟩ := hv4
      by_cases k1 : k = 1
      · subst k1
        have HF := Lib.hid (HE2.out.trans (evalB_var _ _ _ _ _ _))
        clear HE2
        go_wp2
        rw [HF.out]
        exact ⟨rfl, rfl, hbx5, F02, EvalOK.err (by omega) _ _⟩
      by_cases k2 : k = 2
      · subst k2
        have HF := Lib.hid (HE2.out.trans (evalB_int _ _ _ _ _ _))
        clear HE2
        go_wp2
        go_ret
        rw [HF.out]
        exact ⟨rfl, hbx5, F02, EvalOK.one (by omega) (by omega) (fun a ha => by cases ha; exact hn1) _⟩
      have F02b := F02.size
      by_cases kn : k = 3 ∧ Arith.known s ts.length = true
      · obtain ⟨rfl, kn⟩ := kn
        have kpos := Arith.known_pos kn
        obtain ⟨b0, off, A', c', rfl, hbn, hblt, e0, e1, e2, e3, hT0⟩ := hk.kid 0 (by omega)
        have ht0 : ts.getD 0 default = ts[0] := by rw [List.getD_eq_getElem?_getD, List.getElem?_eq_getElem (by omega)]; rfl
        generalize ts[0] = t0 at *
        simp only [Nat.zero_mul, Nat.add_zero] at e0 e1 e2 e3
        have hb0x : b0 ∉ [bx] := by simp; intro h; subst h; simp [hbF] at hbn
        go_wp2_with (first | (go_at_call 42; refine (arith_known _ _ _).mono ?_; rintro e w' ⟨rfl, rfl⟩) | (go_at_call 30; refine (ih (m + 1) t0 lev2 G (w.heap.size :: F) sb lb bx _ W2 (by omega) (by omega) hl2 hs2 hT0 hbx5 (by simp [hbF]) hbG).mono ?_; rintro e w5 ⟨rfl, hbx6, F5, ok5⟩; have hbt6 := F5.at_ hbt5 (by simp; omega); generalize hr : evalT l st d (m + 1) t0 lev2 = r at *; obtain ⟨x, lev3, m3⟩ := r; dsimp only at hbx6 ok5; have HR := Lib.hid hr; clear hr; obtain ⟨P0, P1, P2, P3, P4, P5⟩ := blk4 hbx6; obtain ⟨R0, R1, R2, R3, R4, R5⟩ := blk4 hbt6; obtain ⟨m3ge, hok⟩ := ok5; dsimp only at m3ge hok; cases x <;> simp only [ending]) | (go_at_call 44; refine (arith_minus _ _ (hok _ rfl).2).mono ?_; rintro e w' ⟨rfl, rfl⟩; generalize hq : Arith.minus _ = q; have HQ := Lib.hid hq; clear hq; cases q <;> simp only [ending]))
        · rw [HE2.out.trans (evalB_err _ _ _ _ _ _ kn (by rw [ht0]; exact HR.out))]
          exact ⟨rfl, rfl, hbx6, F02.trans' F5, EvalOK.err (by omega) _ _⟩
        · have hlen : ts.length = 2 := by have h0 := ‹((ts.length : Int) == 2) = true›; rw [beq_iff_eq] at h0; omega
          obtain ⟨b1, off1, A1, cp1, hA1, hbn1, hblt1, g0, g1, g2, g3, hT1⟩ := hk.kid 1 (by omega)
          cases hA1
          have ht1 : ts.getD 1 default = ts[1] := by rw [List.getD_eq_getElem?_getD, List.getElem?_eq_getElem (by omega)]; rfl
          generalize ts[1] = t1 at *
          simp only [Nat.one_mul] at g0 g1 g2 g3
          have hl3 : LatAt w5 lb l := hl2.frm F5 hlbx
          have hs3 : StoreAt G (w.heap.size :: F) w5 sb st := hs2.frm F5 (by simpa using hbG) (by simp [hbF])
          have hT2 := hT1.frm F5 (by simp [hbF])
          have G0 := (F5.cell (o := off + 4) (s := none) hblt hb0x).trans g0
          have G1 := (F5.cell (o := off + 4 + 1) (s := none) hblt hb0x).trans g1
          have G2 := (F5.cell (o := off + 4 + 2) (s := none) hblt hb0x).trans g2
          have G3 := (F5.cell (o := off + 4 + 3) (s := none) hblt hb0x).trans g3
          have hblt5 : b0 < w5.heap.size := by have := F5.size; omega
          obtain ⟨m3le, ia⟩ := hok _ rfl
          clear g0 g1 g2 g3 e0 e1 e2 e3 p0 p1 p2 p3 r0 r1 r2 r3
          refine wp_region_T (fun w' => w'.cell? ⟨w.heap.size, 2, none⟩ = some (.string s) ∧ w'.cell? ⟨w.heap.size, 3, none⟩ = some (.slice (some ⟨b0, off, none⟩) ts.length cap3) ∧ w'.cell? ⟨b0, off + 4, none⟩ = some (.int .i64 t1.kind) ∧ w'.cell? ⟨b0, off + 4 + 1, none⟩ = some (.int .i64 t1.n) ∧ w'.cell? ⟨b0, off + 4 + 2, none⟩ = some (.string t1.s) ∧ w'.cell? ⟨b0, off + 4 + 3, none⟩ = some (.slice A1 t1.kids.length cp1)) 11 (by kernel_rfl) ?rgnS6 (fun hHeld => ?rgnB6)
          case rgnS6 => (first | (dsimp only; go_keep) | go_keep)
          case' rgnB6 => skip
          first | (refine wpAnyT_take (i := 0) (oi := { dst := some 83, op := Go.Op.fieldAddr 35 (Go.Operand.tmp 3) 2, type := 0, pos := "arith.go:134", after := #[], guard := none }) (v := ?_) rfl (by kernel_rfl) (by kernel_rfl) (by kernel_rfl) (by kernel_rfl) (fun _ _ _ h => h) (Or.inl ⟨by rfl, ?_⟩) (by assumption) ?_; rotate_left; (focus (intro w hSw; (try dsimp only at hSw); go_simp; done))) | (refine wpAnyT_take (i := 0) (oi := { dst := some 83, op := Go.Op.fieldAddr 35 (Go.Operand.tmp 3) 2, type := 0, pos := "arith.go:134", after := #[], guard := none }) (v := ?_) rfl (by kernel_rfl) (by kernel_rfl) (by kernel_rfl) (by kernel_rfl) (fun _ _ _ h => h) (Or.inl ⟨by rfl, ?_⟩) (by assumption) ?_; rotate_left; (focus (intro w hSw; (try dsimp only at hSw); go_simp; with_reducible rfl)))
          try simp only [Act.put, List.setIfInBounds_toArray, List.set_cons_zero, List.set_cons_succ]
          first | (refine wpAnyT_take (i := 1) (oi := { dst := some 84, op := Go.Op.load 9 (Go.Operand.tmp 83), type := 9, pos := "arith.go:134", after := #[{ on := 0, ground := Go.Ground.data }], guard := none }) (v := ?_) rfl (by kernel_rfl) (by kernel_rfl) (by kernel_rfl) (by kernel_rfl) (fun _ _ _ h => h) (Or.inl ⟨by rfl, ?_⟩) (by assumption) ?_; rotate_left; (focus (intro w hSw; (try dsimp only at hSw); go_simp; done))) | (refine wpAnyT_take (i := 1) (oi := { dst := some 84, op := Go.Op.load 9 (Go.Operand.tmp 83), type := 9, pos := "arith.go:134", after := #[{ on := 0, ground := Go.Ground.data }], guard := none }) (v := ?_) rfl (by kernel_rfl) (by kernel_rfl) (by kernel_rfl) (by kernel_rfl) (fun _ _ _ h => h) (Or.inl ⟨by rfl, ?_⟩) (by assumption) ?_; rotate_left; (focus (intro w hSw; (try dsimp only at hSw); go_simp; with_reducible rfl)))
          try simp only [Act.put, List.setIfInBounds_toArray, List.set_cons_zero, List.set_cons_succ]
          first | (refine wpAnyT_take (i := 2) (oi := { dst := some 85, op := Go.Op.move (Go.Operand.tmp 6), type := 2, pos := "arith.go:134", after := #[], guard := none }) (v := ?_) rfl (by kernel_rfl) (by kernel_rfl) (by kernel_rfl) (by kernel_rfl) (fun _ _ _ h => h) (Or.inl ⟨by rfl, ?_⟩) (by assumption) ?_; rotate_left; (focus (intro w hSw; (try dsimp only at hSw); go_simp; done))) | (refine wpAnyT_take (i := 2) (oi := { dst := some 85, op := Go.Op.move (Go.Operand.tmp 6), type := 2, pos := "arith.go:134", after := #[], guard := none }) (v := ?_) rfl (by kernel_rfl) (by kernel_rfl) (by kernel_rfl) (by kernel_rfl) (fun _ _ _ h => h) (Or.inl ⟨by rfl, ?_⟩) (by assumption) ?_; rotate_left; (focus (intro w hSw; (try dsimp only at hSw); go_simp; with_reducible rfl)))
          try simp only [Act.put, List.setIfInBounds_toArray, List.set_cons_zero, List.set_cons_succ]
          first | (refine wpAnyT_take (i := 3) (oi := { dst := some 86, op := Go.Op.move (Go.Operand.tmp 0), type := 64, pos := "arith.go:134", after := #[], guard := none }) (v := ?_) rfl (by kernel_rfl) (by kernel_rfl) (by kernel_rfl) (by kernel_rfl) (fun _ _ _ h => h) (Or.inl ⟨by rfl, ?_⟩) (by assumption) ?_; rotate_left; (focus (intro w hSw; (try dsimp only at hSw); go_simp; done))) | (refine wpAnyT_take (i := 3) (oi := { dst := some 86, op := Go.Op.move (Go.Operand.tmp 0), type := 64, pos := "arith.go:134", after := #[], guard := none }) (v := ?_) rfl (by kernel_rfl) (by kernel_rfl) (by kernel_rfl) (by kernel_rfl) (fun _ _ _ h => h) (Or.inl ⟨by rfl, ?_⟩) (by assumption) ?_; rotate_left; (focus (intro w hSw; (try dsimp only at hSw); go_simp; with_reducible rfl)))
          try simp only [Act.put, List.setIfInBounds_toArray, List.set_cons_zero, List.set_cons_succ]
          first | (refine wpAnyT_take (i := 4) (oi := { dst := some 87, op := Go.Op.fieldAddr 35 (Go.Operand.tmp 3) 3, type := 0, pos := "arith.go:134", after := #[], guard := none }) (v := ?_) rfl (by kernel_rfl) (by kernel_rfl) (by kernel_rfl) (by kernel_rfl) (fun _ _ _ h => h) (Or.inl ⟨by rfl, ?_⟩) (by assumption) ?_; rotate_left; (focus (intro w hSw; (try dsimp only at hSw); go_simp; done))) | (refine wpAnyT_take (i := 4) (oi := { dst := some 87, op := Go.Op.fieldAddr 35 (Go.Operand.tmp 3) 3, type := 0, pos := "arith.go:134", after := #[], guard := none }) (v := ?_) rfl (by kernel_rfl) (by kernel_rfl) (by kernel_rfl) (by kernel_rfl) (fun _ _ _ h => h) (Or.inl ⟨by rfl, ?_⟩) (by assumption) ?_; rotate_left; (focus (intro w hSw; (try dsimp only at hSw); go_simp; with_reducible rfl)))
          try simp only [Act.put, List.setIfInBounds_toArray, List.set_cons_zero, List.set_cons_succ]
          first | (refine wpAnyT_take (i := 5) (oi := { dst := some 88, op := Go.Op.load 33 (Go.Operand.tmp 87), type := 33, pos := "arith.go:134", after := #[{ on := 4, ground := Go.Ground.data }], guard := none }) (v := ?_) rfl (by kernel_rfl) (by kernel_rfl) (by kernel_rfl) (by kernel_rfl) (fun _ _ _ h => h) (Or.inl ⟨by rfl, ?_⟩) (by assumption) ?_; rotate_left; (focus (intro w hSw; (try dsimp only at hSw); go_simp; done))) | (refine wpAnyT_take (i := 5) (oi := { dst := some 88, op := Go.Op.load 33 (Go.Operand.tmp 87), type := 33, pos := "arith.go:134", after := #[{ on := 4, ground := Go.Ground.data }], guard := none }) (v := ?_) rfl (by kernel_rfl) (by kernel_rfl) (by kernel_rfl) (by kernel_rfl) (fun _ _ _ h => h) (Or.inl ⟨by rfl, ?_⟩) (by assumption) ?_; rotate_left; (focus (intro w hSw; (try dsimp only at hSw); go_simp; with_reducible rfl)))
          try simp only [Act.put, List.setIfInBounds_toArray, List.set_cons_zero, List.set_cons_succ]
          first | (refine wpAnyT_take (i := 6) (oi := { dst := some 89, op := Go.Op.indexAddr 33 (Go.Operand.tmp 88) (Go.Operand.const (Go.Value.int Go.IntKind.i64 1)), type := 0, pos := "arith.go:134", after := #[{ on := 5, ground := Go.Ground.data }], guard := none }) (v := ?_) rfl (by kernel_rfl) (by kernel_rfl) (by kernel_rfl) (by kernel_rfl) (fun _ _ _ h => h) (Or.inl ⟨by rfl, ?_⟩) (by assumption) ?_; rotate_left; (focus (intro w hSw; (try dsimp only at hSw); go_simp; done))) | (refine wpAnyT_take (i := 6) (oi := { dst := some 89, op := Go.Op.indexAddr 33 (Go.Operand.tmp 88) (Go.Operand.const (Go.Value.int Go.IntKind.i64 1)), type := 0, pos := "arith.go:134", after := #[{ on := 5, ground := Go.Ground.data }], guard := none }) (v := ?_) rfl (by kernel_rfl) (by kernel_rfl) (by kernel_rfl) (by kernel_rfl) (fun _ _ _ h => h) (Or.inl ⟨by rfl, ?_⟩) (by assumption) ?_; rotate_left; (focus (intro w hSw; (try dsimp only at hSw); go_simp; with_reducible rfl)))
          try simp only [Act.put, List.setIfInBounds_toArray, List.set_cons_zero, List.set_cons_succ]
          first | (refine wpAnyT_take (i := 7) (oi := { dst := some 90, op := Go.Op.load 35 (Go.Operand.tmp 89), type := 35, pos := "arith.go:134", after := #[{ on := 6, ground := Go.Ground.data }], guard := none }) (v := ?_) rfl (by kernel_rfl) (by kernel_rfl) (by kernel_rfl) (by kernel_rfl) (fun _ _ _ h => h) (Or.inl ⟨by rfl, ?_⟩) (by assumption) ?_; rotate_left; (focus (intro w hSw; (try dsimp only at hSw); go_simp; done))) | (refine wpAnyT_take (i := 7) (oi := { dst := some 90, op := Go.Op.load 35 (Go.Operand.tmp 89), type := 35, pos := "arith.go:134", after := #[{ on := 6, ground := Go.Ground.data }], guard := none }) (v := ?_) rfl (by kernel_rfl) (by kernel_rfl) (by kernel_rfl) (by kernel_rfl) (fun _ _ _ h => h) (Or.inl ⟨by rfl, ?_⟩) (by assumption) ?_; rotate_left; (focus (intro w hSw; (try dsimp only at hSw); go_simp; with_reducible rfl)))
          try simp only [Act.put, List.setIfInBounds_toArray, List.set_cons_zero, List.set_cons_succ]
          refine wpAnyT_one (i := 8) (o := { dst := some 91, op := Go.Op.call { callee := Go.Callee.value (Go.Operand.func 30), args := #[Go.Operand.tmp 86, Go.Operand.tmp 90], argTypes := #[64, 35] }, type := 2, pos := "arith.go:134", after := #[{ on := 3, ground := Go.Ground.data }, { on := 7, ground := Go.Ground.data }], guard := none }) (by kernel_rfl) rfl (fun K' hK => ?_)
          (go_simp; refine (ih m3 t1 lev3 G (w.heap.size :: F) sb lb bx _ _ (by omega) (by omega) (hl3.frm0 (by repeat (first | (with_reducible refine Frm.alloc ?_ _) | (with_reducible refine Frm.drewN ?_ _) | (with_reducible refine Frm.drew ?_) | ((with_reducible refine Frm.setCell ?_ ?_ _); rotate_left; (focus (first | (left; simp; done) | (right; simp; done) | (right; simp; omega)))) | with_reducible assumption | with_reducible exact Frm.refl _ _ | (with_reducible refine Frm.trans0 ?_ ‹_›)))) (hs3.keep (by repeat (first | (with_reducible refine Frm.alloc ?_ _) | (with_reducible refine Frm.drewN ?_ _) | (with_reducible refine Frm.drew ?_) | ((with_reducible refine Frm.setCell ?_ ?_ _); rotate_left; (focus (first | (left; simp; done) | (right; simp; done) | (right; simp; omega)))) | with_reducible assumption | with_reducible exact Frm.refl _ _ | (with_reducible refine Frm.trans0 ?_ ‹_›)))) (hT2.keep (by repeat (first | (with_reducible refine Frm.alloc ?_ _) | (with_reducible refine Frm.drewN ?_ _) | (with_reducible refine Frm.drew ?_) | ((with_reducible refine Frm.setCell ?_ ?_ _); rotate_left; (focus (first | (left; simp; done) | (right; simp; done) | (right; simp; omega)))) | with_reducible assumption | with_reducible exact Frm.refl _ _ | (with_reducible refine Frm.trans0 ?_ ‹_›)))) (Frm.at0 (by repeat (first | (with_reducible refine Frm.alloc ?_ _) | (with_reducible refine Frm.drewN ?_ _) | (with_reducible refine Frm.drew ?_) | ((with_reducible refine Frm.setCell ?_ ?_ _); rotate_left; (focus (first | (left; simp; done) | (right; simp; done) | (right; simp; omega)))) | with_reducible assumption | with_reducible exact Frm.refl _ _ | (with_reducible refine Frm.trans0 ?_ ‹_›))) hbx6) (by simp [hbF]) hbG).mono ?_; rintro e w6 ⟨rfl, hbx7, F6, ok6⟩; generalize hr2 : evalT l st d m3 t1 lev3 = r2 at *; obtain ⟨x2, lev4, m4⟩ := r2; dsimp only at hbx7 ok6; obtain ⟨m4ge, hok6⟩ := ok6; have HR2 := Lib.hid hr2; clear hr2; have hbt7 := F6.at_ (w := _) (Frm.at0 (by repeat (first | (with_reducible refine Frm.alloc ?_ _) | (with_reducible refine Frm.drewN ?_ _) | (with_reducible refine Frm.drew ?_) | ((with_reducible refine Frm.setCell ?_ ?_ _); rotate_left; (focus (first | (left; simp; done) | (right; simp; done) | (right; simp; omega)))) | with_reducible assumption | with_reducible exact Frm.refl _ _ | (with_reducible refine Frm.trans0 ?_ ‹_›))) hbt6) (by simp; omega); obtain ⟨U0, U1, U2, U3, U4, U5⟩ := blk4 hbt7; have F06 := ((F02.trans' F5).drew).trans' F6; have V0 := (F6.cell (o := off + 4) (s := none) hblt5 hb0x).trans G0; have V1 := (F6.cell (o := off + 4 + 1) (s := none) hblt5 hb0x).trans G1; have V2 := (F6.cell (o := off + 4 + 2) (s := none) hblt5 hb0x).trans G2; have V3 := (F6.cell (o := off + 4 + 3) (s := none) hblt5 hb0x).trans G3; rcases x2 with c | b; (focus (simp only [ending]; go_wp2; rw [HE2.out.trans (evalB_err2 _ _ _ _ _ _ kn hlen (by rw [ht0]; exact HR.out) (by rw [ht1]; exact HR2.out))]; exact ⟨rfl, rfl, hbx7, F06, EvalOK.err (by omega) _ _⟩)); simp only [ending])
          refine hK.out _ _ (fun _ => ?rgnS7) (fun hH => ?rgnB7)
          case rgnS7 => (first | (dsimp only; go_keep) | go_keep)
          case' rgnB7 => (clear hHeld; have hHeld := hH (by decide); clear hH)
          clear hK K'
          try simp only [Act.put, List.setIfInBounds_toArray, List.set_cons_zero, List.set_cons_succ]
          refine wpAnyT_one (i := 9) (o := { dst := some 92, op := Go.Op.call { callee := Go.Callee.value (Go.Operand.func 43), args := #[Go.Operand.tmp 84, Go.Operand.tmp 85, Go.Operand.tmp 91], argTypes := #[9, 2, 2] }, type := 2, pos := "arith.go:134", after := #[{ on := 1, ground := Go.Ground.data }, { on := 2, ground := Go.Ground.data }, { on := 8, ground := Go.Ground.data }, { on := 8, ground := Go.Ground.chain }], guard := none }) (by kernel_rfl) rfl (fun K' hK => ?_)
          (go_simp; refine (arith_two _ _ _ _ ia (hok6 _ rfl).2).mono ?_; rintro e w7 ⟨rfl, rfl⟩; generalize hq : Arith.two _ _ _ = q; have HQ := Lib.hid hq; clear hq; rcases q with c | n2; (focus (simp only [ending]; go_wp2; rw [HE2.out.trans (evalB_two _ _ _ _ _ _ kn hlen (by rw [ht0]; exact HR.out) (by rw [ht1]; exact HR2.out)), HQ.out]; exact ⟨rfl, rfl, hbx7, F06, EvalOK.err (by omega) _ _⟩)); simp only [ending])
          refine hK.out _ _ (fun _ => ?rgnS8) (fun hH => ?rgnB8)
          case rgnS8 => (first | (dsimp only; go_keep) | go_keep)
          case' rgnB8 => (clear hHeld; have hHeld := hH (by decide); clear hH)
          clear hK K'
          try simp only [Act.put, List.setIfInBounds_toArray, List.set_cons_zero, List.set_cons_succ]
          first | (refine wpAnyT_take (i := 10) (oi := { dst := some 4, op := Go.Op.assign (Go.Operand.tmp 92), type := 2, pos := "arith.go:134", after := #[{ on := 9, ground := Go.Ground.data }, { on := 9, ground := Go.Ground.chain }, { on := 0, ground := Go.Ground.phase }, { on := 1, ground := Go.Ground.phase }, { on := 2, ground := Go.Ground.phase }, { on := 3, ground := Go.Ground.phase }, { on := 4, ground := Go.Ground.phase }, { on := 5, ground := Go.Ground.phase }, { on := 6, ground := Go.Ground.phase }, { on := 7, ground := Go.Ground.phase }, { on := 8, ground := Go.Ground.phase }, { on := 9, ground := Go.Ground.phase }], guard := none }) (v := ?_) rfl (by kernel_rfl) (by kernel_rfl) (by kernel_rfl) (by kernel_rfl) (fun _ _ _ h => h) (Or.inl ⟨by rfl, ?_⟩) (by assumption) ?_; rotate_left; (focus (intro w hSw; (try dsimp only at hSw); go_simp; done))) | (refine wpAnyT_take (i := 10) (oi := { dst := some 4, op := Go.Op.assign (Go.Operand.tmp 92), type := 2, pos := "arith.go:134", after := #[{ on := 9, ground := Go.Ground.data }, { on := 9, ground := Go.Ground.chain }, { on := 0, ground := Go.Ground.phase }, { on := 1, ground := Go.Ground.phase }, { on := 2, ground := Go.Ground.phase }, { on := 3, ground := Go.Ground.phase }, { on := 4, ground := Go.Ground.phase }, { on := 5, ground := Go.Ground.phase }, { on := 6, ground := Go.Ground.phase }, { on := 7, ground := Go.Ground.phase }, { on := 8, ground := Go.Ground.phase }, { on := 9, ground := Go.Ground.phase }], guard := none }) (v := ?_) rfl (by kernel_rfl) (by kernel_rfl) (by kernel_rfl) (by kernel_rfl) (fun _ _ _ h => h) (Or.inl ⟨by rfl, ?_⟩) (by assumption) ?_; rotate_left; (focus (intro w hSw; (try dsimp only at hSw); go_simp; with_reducible rfl)))
          try simp only [Act.put, List.setIfInBounds_toArray, List.set_cons_zero, List.set_cons_succ]
          refine wpAnyT_done (by kernel_rfl) ?_ _
          go_wp2
          go_ret
          have i2 := Arith.two_i64 (hok6 _ rfl).2 HQ.out
          have m4le := (hok6 _ rfl).1
          rw [HE2.out.trans (evalB_two _ _ _ _ _ _ kn hlen (by rw [ht0]; exact HR.out) (by rw [ht1]; exact HR2.out)), HQ.out]
          exact ⟨rfl, hbx7, F06, EvalOK.one (by omega) m4le (fun a ha => by cases ha; exact i2) _⟩
        · go_ret
          rw [HE2.out.trans (evalB_abs _ _ _ _ _ _ kn ‹_› (by rw [ht0]; exact HR.out) (by rw [← nm_eq]; assumption) ‹_›)]
          exact ⟨rfl, hbx6, F02.trans' F5, EvalOK.one (by omega) (hok _ rfl).1 (fun a ha => by cases ha; exact (hok _ rfl).2) _⟩
        · rw [HE2.out.trans (evalB_minus _ _ _ _ _ _ kn ‹_› (by rw [ht0]; exact HR.out) (.inr ‹_›)), HQ.out]
          exact ⟨rfl, rfl, hbx6, F02.trans' F5, EvalOK.err (by omega) _ _⟩
        · go_ret
          have ia := (hok _ rfl).2
          have im := Arith.minus_i64 HQ.out
          rw [HE2.out.trans (evalB_minus _ _ _ _ _ _ kn ‹_› (by rw [ht0]; exact HR.out) (.inr ‹_›)), HQ.out]
          exact ⟨rfl, hbx6, F02.trans' F5, EvalOK.one (by omega) (hok _ rfl).1 (fun a ha => by cases ha; exact im) _⟩
        · rw [HE2.out.trans (evalB_minus _ _ _ _ _ _ kn ‹_› (by rw [ht0]; exact HR.out) (.inl (by rw [← nm_eq]; assumption))), HQ.out]
          exact ⟨rfl, rfl, hbx6, F02.trans' F5, EvalOK.err (by omega) _ _⟩
        · go_ret
          have im := Arith.minus_i64 HQ.out
          rw [HE2.out.trans (evalB_minus _ _ _ _ _ _ kn ‹_› (by rw [ht0]; exact HR.out) (.inl (by rw [← nm_eq]; assumption))), HQ.out]
          exact ⟨rfl, hbx6, F02.trans' F5, EvalOK.one (by omega) (hok _ rfl).1 (fun a ha => by cases ha; exact im) _⟩
      · have HF := Lib.hid (HE2.out.trans (evalB_no _ _ _ _ _ _ _ k1 k2 kn))
        clear HE2
        by_cases k3 : k = 3
        · have kf : Arith.known s ts.length = false := by simpa [k3] using kn
          go_wp2_with (go_at_call 42; refine (arith_known _ _ _).mono ?_; rintro e w' ⟨rfl, rfl⟩)
          all_goals (rw [HF.out]; exact ⟨rfl, rfl, hbx5, F02, EvalOK.err (by omega) _ _⟩)
        · go_wp2
          rw [HF.out]
          exact ⟨rfl, rfl, hbx5, F02, EvalOK.err (by omega) _ _⟩
end Go.Proofs.Ytpffcfmhiebhdaa
