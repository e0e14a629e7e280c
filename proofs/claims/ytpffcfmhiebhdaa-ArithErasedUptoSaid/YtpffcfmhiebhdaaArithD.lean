/- The layer arith: Eval, which recovers. -/
import Derived.Test.YtpffcfmhiebhdaaArithC
import Derived.Defers
import Derived.Recover
import Derived.WalkSpells
import Derived.WalkLawsBesides
import Derived.Deep.QuietTactic
import Derived.BigQuiet
import Derived.Deep.DeepCutAuto
import Derived.Deep.RegionHeld3
import Derived.Lib.Hide
import Derived.Handy
namespace Go.Proofs.Ytpffcfmhiebhdaa
open Go.RowKit

theorem eval1_idle (x9 lv nv ev : Nat) (bx : Nat) (lev old : Int) (w : World) (h9 : w.cell? ⟨x9, 0, none⟩ = some (.pointer (some ⟨bx, 0, none⟩))) (hb : w.cell? ⟨bx, 2, none⟩ = some (.int .i64 lev))
    (hl : w.cell? ⟨lv, 0, none⟩ = some (.int .i64 old)) (hf : w.frozen? ⟨lv, 0, none⟩ = false) :
    CallsD Try.prog 29 #[.pointer (some ⟨x9, 0, none⟩), .pointer (some ⟨lv, 0, none⟩), .pointer (some ⟨nv, 0, none⟩), .pointer (some ⟨ev, 0, none⟩)] .returning w fun e u' w' =>
      e = .returned (.tuple #[]) ∧ u' = .returning ∧ w' = w.setCell ⟨lv, 0, none⟩ (.int .i64 lev) := by
  refine callsD_of_wpS Try.func29 rfl fun c₀ cs hu => ?_
  apply wpS_seq
  apply wpS_region
  simp [wpOpsS, go_sem, h9, hb, hl, hf, Try.ntmps29, Exit.thenS]
  apply wpS_seq
  apply wpS_region
  simp [wpOpsS, go_sem, recoverD, hu, Exit.thenS]
  apply wpS_seq
  apply wpS_region
  simp [wpOpsS, go_sem, Exit.thenS]
  refine wpS_cond (t := false) (by simp [Act.eval, Array.replicate]) ?_
  simp only [Bool.false_eq_true, if_false]
  refine wpS_of_wp (wp_skip ?_)
  cases c₀
  simp_all [bodyPostS, results, Try.results29]

theorem eval1_caught (x9 lv nv ev : Nat) (bx : Nat) (lev old on oe c : Int) (older : List PanicEntry) (w : World) (h9 : w.cell? ⟨x9, 0, none⟩ = some (.pointer (some ⟨bx, 0, none⟩))) (hb : w.cell? ⟨bx, 2, none⟩ = some (.int .i64 lev))
    (hl : w.cell? ⟨lv, 0, none⟩ = some (.int .i64 old)) (hf : w.frozen? ⟨lv, 0, none⟩ = false) (hn : w.cell? ⟨nv, 0, none⟩ = some (.int .i64 on)) (hnf : w.frozen? ⟨nv, 0, none⟩ = false)
    (he : w.cell? ⟨ev, 0, none⟩ = some (.int .i64 oe)) (hef : w.frozen? ⟨ev, 0, none⟩ = false) (d1 : nv ≠ lv) (d2 : ev ≠ lv) (d3 : ev ≠ nv) :
    CallsD Try.prog 29 #[.pointer (some ⟨x9, 0, none⟩), .pointer (some ⟨lv, 0, none⟩), .pointer (some ⟨nv, 0, none⟩), .pointer (some ⟨ev, 0, none⟩)]
      (.panicking ({ v := .iface 23 (.int .i64 c), recovered := false } :: older)) w fun e u' w' =>
      e = .returned (.tuple #[]) ∧ u' = .panicking ({ v := .iface 23 (.int .i64 c), recovered := true } :: older) ∧
        w' = ((w.setCell ⟨lv, 0, none⟩ (.int .i64 lev)).setCell ⟨nv, 0, none⟩ (.int .i64 0)).setCell ⟨ev, 0, none⟩ (.int .i64 c) := by
  have hta : ∀ w : World, (Instr.typeAssert (.iface 23 (.int .i64 c)) 20 23 true).run Try.prog w = .ok (.tuple #[.int .i64 c, .bool true]) w := fun _ => by kernel_rfl
  refine callsD_of_wpS Try.func29 rfl fun c₀ cs hu => ?_
  apply wpS_seq
  apply wpS_region
  simp [wpOpsS, go_sem, h9, hb, hl, hf, Try.ntmps29, Exit.thenS]
  apply wpS_seq
  apply wpS_region
  simp [wpOpsS, go_sem, recoverD, hu, Exit.thenS]
  apply wpS_seq
  apply wpS_region
  simp [wpOpsS, go_sem, Exit.thenS]
  refine wpS_cond (t := true) (by simp [Act.eval, Array.replicate]) ?_
  simp only [if_true]
  apply wpS_seq
  apply wpS_region
  simp [wpOpsS, go_sem, hta, Exit.thenS]
  apply wpS_seq
  apply wpS_seq
  apply wpS_region
  simp [wpOpsS, go_sem, Exit.thenS]
  refine wpS_cond (t := false) (by simp [Act.eval, Array.replicate]) ?_
  simp only [Bool.false_eq_true, if_false]
  refine wpS_of_wp (wp_skip ?_)
  simp only [Exit.thenS]
  apply wpS_region
  have n1 := (cell_other w (fun h => d1 h.symm) (o := 0) (o' := 0) (.int .i64 lev)).trans hn
  have n2 := (cell_other (w.setCell ⟨lv, 0, none⟩ (.int .i64 lev)) (fun h => d3 h.symm) (o := 0) (o' := 0) (.int .i64 0)).trans ((cell_other w (fun h => d2 h.symm) (o := 0) (o' := 0) (.int .i64 lev)).trans he)
  simp [wpOpsS, go_sem, n1, n2, hnf, hef, bodyPostS, results, Try.results29]

theorem set3 (w : World) {a b c : Nat} (hab : a ≠ b) (hac : a ≠ c) (hbc : b ≠ c) (va vb vc : Value) {ua ub uc : Value} (ha : w.cell? ⟨a, 0, none⟩ = some ua) (hb : w.cell? ⟨b, 0, none⟩ = some ub) (hc : w.cell? ⟨c, 0, none⟩ = some uc) :
    (((w.setCell ⟨a, 0, none⟩ va).setCell ⟨b, 0, none⟩ vb).setCell ⟨c, 0, none⟩ vc).cell? ⟨a, 0, none⟩ = some va ∧
    (((w.setCell ⟨a, 0, none⟩ va).setCell ⟨b, 0, none⟩ vb).setCell ⟨c, 0, none⟩ vc).cell? ⟨b, 0, none⟩ = some vb ∧
    (((w.setCell ⟨a, 0, none⟩ va).setCell ⟨b, 0, none⟩ vb).setCell ⟨c, 0, none⟩ vc).cell? ⟨c, 0, none⟩ = some vc ∧
    (∀ k o, k ≠ a → k ≠ b → k ≠ c → (((w.setCell ⟨a, 0, none⟩ va).setCell ⟨b, 0, none⟩ vb).setCell ⟨c, 0, none⟩ vc).cell? ⟨k, o, none⟩ = w.cell? ⟨k, o, none⟩) := by
  refine ⟨?_, ?_, ?_, fun k o h1 h2 h3 => ?_⟩
  · rw [cell_other _ (Ne.symm hac), cell_other _ (Ne.symm hab)]; apply World.cell?_setCell_same; exact ha
  · rw [cell_other _ (Ne.symm hbc)]; apply World.cell?_setCell_same; rw [cell_other _ hab]; exact hb
  · apply World.cell?_setCell_same; rw [cell_other _ hbc, cell_other _ hac]; exact hc
  · rw [cell_other _ (Ne.symm h3), cell_other _ (Ne.symm h2), cell_other _ (Ne.symm h1)]
/-- Eval's answer: the value or 0, the level, the error's number. -/
def evalS (l : Lat) (st : PStore) (t : Term) : Int × Int × Int :=
  match evalT l st 2000 0 t l.bottom with
  | (.ok a, lev, _) => (a, lev, 0)
  | (.error c, lev, _) => (0, lev, c)

theorem arith_Eval (l : Lat) (st : PStore) (G F : List Nat) (sb lb : Nat) (t : Term) (v : Value) (w : World) (hl : LatAt w lb l) (hs : StoreAt G F w sb st) (ht : TermV F w t v) :
    Calls Try.prog 14 #[.pointer (some ⟨sb, 0, none⟩), .pointer (some ⟨lb, 0, none⟩), v] w fun e w' =>
      e = .returned (.tuple #[.int .i64 (evalS l st t).1, .int .i64 (evalS l st t).2.1, .int .i64 (evalS l st t).2.2]) ∧ Frm [] w w' := by
  have hmf : ∀ (fn : Fn) (first cap : Array Value) (w : World), (Instr.makeFunc fn first cap).run Try.prog w = .ok (.func fn first cap) w := fun _ _ _ _ => rfl
  obtain ⟨A, cap, rfl⟩ := ht.form
  go_enter_defers Try.func14, Try.ntmps14
  go_wp2_with (go_at_call 22; refine (lat_bottom l lb _ (hl.frm0 (by repeat (first | (with_reducible refine Frm.alloc ?_ _) | (with_reducible refine Frm.drewN ?_ _) | (with_reducible refine Frm.drew ?_) | ((with_reducible refine Frm.setCell ?_ ?_ _); rotate_left; (focus (first | (left; simp; done) | (right; simp; done) | (right; simp; omega)))) | with_reducible assumption | with_reducible exact Frm.refl _ _ | (with_reducible refine Frm.trans0 ?_ ‹_›))))).mono ?_; rintro e w' ⟨rfl, rfl⟩)
  have hF := hs.lt
  generalize hW : World.alloc (World.alloc (World.alloc _ _) _) _ = W
  have hbx : SumsAt W (w.heap.size + 1 + 1 + 1 + 1) sb lb l.bottom 0 := by
    unfold SumsAt; subst hW; exact (by repeat (first | rw [heap_alloc_at] | rw [heap_size_alloc] | rfl | rw [if_pos (by omega)] | rw [if_neg (by omega)]))
  have hx9 : W.heap[w.heap.size + 1 + 1 + 1 + 1 + 1]? = some (.cells #[.pointer (some ⟨w.heap.size + 1 + 1 + 1 + 1, 0, none⟩)] 64 (0, 0)) := by subst hW; exact (by repeat (first | rw [heap_alloc_at] | rw [heap_size_alloc] | rfl | rw [if_pos (by omega)] | rw [if_neg (by omega)]))
  have hn0 : W.heap[w.heap.size + 1]? = some (.cells #[.int .i64 0] 2 (0, 0)) := by subst hW; exact (by repeat (first | rw [heap_alloc_at] | rw [heap_size_alloc] | rfl | rw [if_pos (by omega)] | rw [if_neg (by omega)]))
  have hl0 : W.heap[w.heap.size + 1 + 1]? = some (.cells #[.int .i64 0] 3 (0, 0)) := by subst hW; exact (by repeat (first | rw [heap_alloc_at] | rw [heap_size_alloc] | rfl | rw [if_pos (by omega)] | rw [if_neg (by omega)]))
  have he0 : W.heap[w.heap.size + 1 + 1 + 1]? = some (.cells #[.int .i64 0] 23 (0, 0)) := by subst hW; exact (by repeat (first | rw [heap_alloc_at] | rw [heap_size_alloc] | rfl | rw [if_pos (by omega)] | rw [if_neg (by omega)]))
  have hb0 : W.heap[w.heap.size]? = some (.cells #[.int .i64 t.kind, .int .i64 t.n, .string t.s, .slice A t.kids.length cap] 35 (0, 0)) := by subst hW; exact (by repeat (first | rw [heap_alloc_at] | rw [heap_size_alloc] | rfl | rw [if_pos (by omega)] | rw [if_neg (by omega)]))
  have FW : Frm [] w W := by subst hW; exact (by repeat (first | (with_reducible refine Frm.alloc ?_ _) | (with_reducible refine Frm.drewN ?_ _) | (with_reducible refine Frm.drew ?_) | ((with_reducible refine Frm.setCell ?_ ?_ _); rotate_left; (focus (first | (left; simp; done) | (right; simp; done) | (right; simp; omega)))) | with_reducible assumption | with_reducible exact Frm.refl _ _ | (with_reducible refine Frm.trans0 ?_ ‹_›)))
  have hszW : W.heap.size = w.heap.size + 1 + 1 + 1 + 1 + 1 + 1 := by subst hW; simp
  clear hW
  obtain ⟨b0, b1, b2, b3, b4, b5⟩ := blk4 hb0
  obtain ⟨x0, x1, x2⟩ := blk1 hx9
  have hsW : StoreAt G ((w.heap.size + 1 + 1 + 1 + 1) :: F) W sb st := hs.more FW (by simp) (by simp) (new_one (by omega)) (fun b hb => by simp [hb]) (lt_one hF (by omega) (by omega))
  have htW : TermV ((w.heap.size + 1 + 1 + 1 + 1) :: F) W t _ := (ht.away (new_one (by omega))).keep FW
  have hG : w.heap.size + 1 + 1 + 1 + 1 ∉ G := fun h => by have := hF _ (hs.sub _ h); omega
  have HS : Hid (evalS l st t = match evalT l st 2000 0 t l.bottom with | (.ok a, lev, _) => (a, lev, 0) | (.error c, lev, _) => (0, lev, c)) := Lib.hid rfl
  go_wp2_with (go_at_call 30; refine (arith_eval l st 2000 0 t l.bottom G ((w.heap.size + 1 + 1 + 1 + 1) :: F) sb lb _ _ W (by omega) (by omega) (hl.frm0 FW) hsW htW hbx (by simp) hG).mono ?_; rintro e w2 ⟨rfl, hbx2, F2, -⟩; have hx92 := F2.at_ hx9 (by simp); have hn2 := F2.at_ hn0 (by simp); have hl2 := F2.at_ hl0 (by simp); have he2 := F2.at_ he0 (by simp); generalize evalT l st 2000 0 t l.bottom = r at *; obtain ⟨x, lev, m⟩ := r; dsimp only at hbx2; obtain ⟨p0, p1, p2, p3, p4, p5⟩ := blk4 hbx2; obtain ⟨x0', x1', x2'⟩ := blk1 hx92; obtain ⟨m0, m1, m2⟩ := blk1 hn2; obtain ⟨l0, l1, l2⟩ := blk1 hl2; obtain ⟨e0, e1, e2⟩ := blk1 he2; rcases x with c | a <;> simp only [ending])
  · refine leaves_cons (f := 29) (args := #[.pointer (some ⟨w.heap.size + 1 + 1 + 1 + 1 + 1, 0, none⟩), .pointer (some ⟨w.heap.size + 1 + 1, 0, none⟩), .pointer (some ⟨w.heap.size + 1, 0, none⟩), .pointer (some ⟨w.heap.size + 1 + 1 + 1, 0, none⟩)]) (by simp) (by simp [go_sem]) ?_
    refine (eval1_caught _ _ _ _ _ lev 0 0 0 _ [] _ x0' p2 l0 (l1 0) m0 (m1 0) e0 (e1 0) (by omega) (by omega) (by omega)).mono ?_
    rintro e u' w'' ⟨rfl, rfl, rfl⟩
    obtain ⟨g1, g2, g3, -⟩ := set3 w2 (a := w.heap.size + 1 + 1) (b := w.heap.size + 1) (c := w.heap.size + 1 + 1 + 1) (by omega) (by omega) (by omega) (.int .i64 lev) (.int .i64 0) (.int .i64 c) l0 m0 e0
    have F3 : Frm [] w (((w2.setCell ⟨w.heap.size + 1 + 1, 0, none⟩ (.int .i64 lev)).setCell ⟨w.heap.size + 1, 0, none⟩ (.int .i64 0)).setCell ⟨w.heap.size + 1 + 1 + 1, 0, none⟩ (.int .i64 c)) :=
      (((FW.trans F2 (by simp; omega)).setCell (.inr (by simp; omega)) _).setCell (.inr (by simp)) _).setCell (.inr (by simp; omega)) _
    generalize World.setCell _ _ _ = w3 at *
    simp [Leaves, settle, results, Try.results14, go_sem, g1, g2, g3]
    rw [HS.out]
    exact ⟨⟨rfl, rfl, rfl⟩, F3⟩
  · go_region
    go_wp2
    obtain ⟨g1, g2, g3, g4⟩ := set3 w2 (a := w.heap.size + 1) (b := w.heap.size + 1 + 1) (c := w.heap.size + 1 + 1 + 1) (by omega) (by omega) (by omega) (.int .i64 a) (.int .i64 lev) (.int .i64 0) m0 l0 e0
    have gf : (((w2.setCell ⟨w.heap.size + 1, 0, none⟩ (.int .i64 a)).setCell ⟨w.heap.size + 1 + 1, 0, none⟩ (.int .i64 lev)).setCell ⟨w.heap.size + 1 + 1 + 1, 0, none⟩ (.int .i64 0)).frozen? ⟨w.heap.size + 1 + 1, 0, none⟩ = false := by
      simp [l1]
    have F3 : Frm [] w (((w2.setCell ⟨w.heap.size + 1, 0, none⟩ (.int .i64 a)).setCell ⟨w.heap.size + 1 + 1, 0, none⟩ (.int .i64 lev)).setCell ⟨w.heap.size + 1 + 1 + 1, 0, none⟩ (.int .i64 0)) :=
      (((FW.trans F2 (by simp; omega)).setCell (.inr (by simp)) _).setCell (.inr (by simp; omega)) _).setCell (.inr (by simp; omega)) _
    have h9 := (g4 (w.heap.size + 1 + 1 + 1 + 1 + 1) 0 (by omega) (by omega) (by omega)).trans x0'
    have hb := (g4 (w.heap.size + 1 + 1 + 1 + 1) 2 (by omega) (by omega) (by omega)).trans p2
    generalize World.setCell _ _ _ = w3 at *
    refine leaves_cons (f := 29) (args := #[.pointer (some ⟨w.heap.size + 1 + 1 + 1 + 1 + 1, 0, none⟩), .pointer (some ⟨w.heap.size + 1 + 1, 0, none⟩), .pointer (some ⟨w.heap.size + 1, 0, none⟩), .pointer (some ⟨w.heap.size + 1 + 1 + 1, 0, none⟩)]) (by simp) (by simp [go_sem]) ?_
    refine (eval1_idle _ _ _ _ _ lev lev w3.drew h9 hb g2 gf).mono ?_
    rintro e u' w'' ⟨rfl, rfl, rfl⟩
    have k1 : (w3.drew.setCell ⟨w.heap.size + 1 + 1, 0, none⟩ (.int .i64 lev)).cell? ⟨w.heap.size + 1, 0, none⟩ = some (.int .i64 a) := (cell_other w3.drew (by omega) _).trans g1
    have k2 : (w3.drew.setCell ⟨w.heap.size + 1 + 1, 0, none⟩ (.int .i64 lev)).cell? ⟨w.heap.size + 1 + 1, 0, none⟩ = some (.int .i64 lev) := by apply World.cell?_setCell_same; exact g2
    have k3 : (w3.drew.setCell ⟨w.heap.size + 1 + 1, 0, none⟩ (.int .i64 lev)).cell? ⟨w.heap.size + 1 + 1 + 1, 0, none⟩ = some (.int .i64 0) := (cell_other w3.drew (by omega) _).trans g3
    have F4 : Frm [] w (w3.drew.setCell ⟨w.heap.size + 1 + 1, 0, none⟩ (.int .i64 lev)) := F3.drew.setCell (.inr (by simp; omega)) _
    generalize World.setCell _ _ _ = w4 at *
    simp [Leaves, settle, results, Try.results14, go_sem, k1, k2, k3]
    rw [HS.out]
    exact ⟨⟨rfl, rfl, rfl⟩, F4⟩
end Go.Proofs.Ytpffcfmhiebhdaa
