/- term.parts: a range over a term's parts: what each round is handed, what a round must keep. -/
import Derived.Test.YtpffcfmhiebhdaaSealB
import Derived.RangeFuncNested
import Derived.RangeFuncBound
import Derived.RangeFuncCalls
import Derived.RangeFuncLeaves
import Derived.RangeFuncBox
import Derived.Shelf.Abstract
import Derived.Shelf.RegionOpen
import Derived.WalkKit
import Derived.OwnWalkIn
import Derived.TacticsInMore
import Derived.LoopNIn
import Derived.LoopIn
namespace Go.Proofs.Ytpffcfmhiebhdaa
open Go.RowKit Go.Shelf

attribute [local go_sem] Oper.semAt_some

theorem room_none {F : Fence} (hd : F.depth = none) (k : Nat) : F.room k := fun d h => by rw [hd] at h; cases h
theorem RoundIn.anyDepth {F : Fence} (hd : F.depth = none) {m m' : Nat} {P : Program} {l : Nat} {f : FuncId} {tmps : Array Value} {assign body : Code} {w : World} {R : Ending → World → Prop}
    (h : RoundIn F m P l f tmps assign body w R) : RoundIn F m' P l f tmps assign body w R := ⟨h.1, fun c cs _ => h.2 c cs (room_none hd _)⟩
theorem YieldAt.anyDepth {F : Fence} (hd : F.depth = none) {m : Nat} (m' : Nat) {P : Program} {l : Nat} {args : Array Value} {W : World} {R : Ending → World → Prop} (h : YieldAt F m P l args W R) : YieldAt F m' P l args W R := by
  obtain ⟨fn, tmps, assign, body, hy, hR⟩ := h
  exact ⟨fn, tmps, assign, body, hy, RoundIn.anyDepth hd hR⟩

/-- What a round keeps: what lay below n₀; and all cells of terms that were laid since the loop began (from m₀ on). -/
def Kept (n₀ m₀ : Nat) (A B : World) : Prop := Below n₀ A B ∧ ∀ k cs z, m₀ ≤ k → A.heap[k]? = some (.cells cs 35 z) → B.heap[k]? = some (.cells cs 35 z)
theorem Kept.refl (n₀ m₀ : Nat) (A : World) : Kept n₀ m₀ A A := ⟨Below.refl _ _, fun _ _ _ _ h => h⟩
theorem Kept.trans {n₀ m₀ : Nat} {A B C : World} (h : Kept n₀ m₀ A B) (k : Kept n₀ m₀ B C) : Kept n₀ m₀ A C := ⟨h.1.trans k.1, fun i cs z hi ho => k.2 i cs z hi (h.2 i cs z hi ho)⟩
theorem Kept.grown {n₀ m₀ : Nat} {A B C : World} {row : Option Nat} (h : Kept n₀ m₀ A B) (hn : n₀ ≤ B.heap.size) (hg : B.grownBy C row) (hr : ∀ r, row = some r → n₀ ≤ r ∧ (r < m₀ ∨ ∀ cs z, B.heap[r]? ≠ some (.cells cs 35 z))) : Kept n₀ m₀ A C :=
  ⟨h.1.grown hg hn (fun k e => (hr k e).1), fun i cs z hi ho => by
    have hB := h.2 i cs z hi ho
    refine (hg.block i (Array.getElem?_eq_some_iff.1 hB).1 (fun e => ?_)).trans hB
    rcases (hr i e.symm).2 with h1 | h1
    · omega
    · exact h1 cs z hB⟩
theorem Kept.alloc {n₀ m₀ : Nat} {A B : World} (h : Kept n₀ m₀ A B) (hn : n₀ ≤ B.heap.size) (o : Obj) : Kept n₀ m₀ A (B.alloc o) := h.grown hn (World.grownBy_alloc B o none) (fun r e => by cases e)
theorem Kept.setCell {n₀ m₀ : Nat} {A B : World} (h : Kept n₀ m₀ A B) (hs : n₀ ≤ B.heap.size) (b : Nat) (v : Value) (hn : n₀ ≤ b) (hm : b < m₀) : Kept n₀ m₀ A (B.setCell ⟨b, 0, none⟩ v) :=
  h.grown hs (grownBy_setCell' B b v) (fun r e => by cases e; exact ⟨hn, .inl hm⟩)
theorem Kept.frm {n₀ m₀ : Nat} {A B C : World} (h : Kept n₀ m₀ A B) (hn : n₀ ≤ B.heap.size) (hf : Frm [] B C) : Kept n₀ m₀ A C :=
  ⟨h.1.trans (hf.below.mono hn), fun i cs z hi ho => by
    have hB := h.2 i cs z hi ho
    exact (hf.below.block i (Array.getElem?_eq_some_iff.1 hB).1).trans hB⟩
theorem Kept.put {n₀ m₀ : Nat} {w : World} (hn : n₀ ≤ w.heap.size) (W : World) (l : Nat) (o o' : Obj) (hl : w.heap.size ≤ l) (h : W.heap[l]? = some o) (hc : o.isCells = false) (hw : o.isWalk = false) : Kept n₀ m₀ W (W.putObj l o') := by
  refine ⟨belowK_b hn W l o o' hl h hc hw, fun k cs z hk hx => ?_⟩
  by_cases e : l = k
  · subst e; rw [h] at hx; cases hx; cases hc
  · exact (World.putObj_heap_other (Ne.symm e)).trans hx
theorem Kept.block {n₀ m₀ : Nat} {A B : World} (h : Kept n₀ m₀ A B) {b : Nat} {cs : Array Value} {z : Nat × Nat} (hb : m₀ ≤ b) (hA : A.heap[b]? = some (.cells cs 35 z)) : B.heap[b]? = some (.cells cs 35 z) :=
  h.2 b _ _ hb hA

/-- A term with the value that stands for it in w0. -/
abbrev TV (w0 : World) := { x : Term × Value // TermV [] w0 x.1 x.2 ∧ x.1.size ≤ 1048576 }
def TV.tm {w0 : World} (x : TV w0) : Term := x.1.1
def tvEnc {w0 : World} (x : TV w0) : Array Value := #[x.1.2]

namespace Term
theorem partss_append (xs ys : List Term) : partss (xs ++ ys) = partss xs ++ partss ys := by simp [partss_eq]
theorem partss_take {ts : List Term} {j : Nat} (h : j < ts.length) : partss (ts.take (j + 1)) = partss (ts.take j) ++ ts[j].parts := by
  rw [List.take_succ_eq_append_getElem h, partss_append]; simp [partss]
theorem partss_length (ts : List Term) : (partss ts).length = sizes ts := by
  induction ts with
  | nil => rfl
  | cons t ts ih => simp [partss, sizes, ih, length_partss_and]
theorem sizes_take {ts : List Term} {j : Nat} (h : j < ts.length) : sizes (ts.take j) + ts[j].size ≤ sizes ts := by
  have h1 : ts.take (j + 1) ++ ts.drop (j + 1) = ts := List.take_append_drop _ _
  have h2 := congrArg sizes h1
  rw [List.take_succ_eq_append_getElem h, sizes_append, sizes_append] at h2
  simp [sizes] at h2
  omega
end Term

theorem TermV.below {w0 W : World} {t : Term} {v : Value} (h : TermV [] w0 t v) (b : Below w0.heap.size w0 W) : TermV [] W t v := h.keep (Frm.of_below b)

set_option maxRecDepth 100000 in
set_option maxHeartbeats 2000000 in
/-- term.walk, by induction on the term. -/
theorem term_walk (F : Fence) (hd : F.depth = none) (h46 : F.fn 46) (hro : F.round = none) (l m₀ N B : Nat) (w0 : World) (hm : w0.heap.size ≤ m₀) (J Jx : List (TV w0) → World → Prop) (hJ : AbidesFrom B J)
    (hY : ∀ m pre x W, J pre W → pre.length < N → YieldAt F m Try.prog l (tvEnc x) W fun e W' =>
      (e = .returned (.bool true) ∧ J (pre ++ [x]) W' ∧ Kept w0.heap.size m₀ W W') ∨ (e = .returned (.bool false) ∧ Jx (pre ++ [x]) W')) (T : Term) :
    ∀ (n : Nat) (v : Value) (pre : List (TV w0)) (W : World), TermV [] w0 T v → T.size ≤ 1048576 → Below w0.heap.size w0 W → m₀ ≤ W.heap.size → J pre W → pre.length + T.size ≤ N →
      CallsIn F n Try.prog 46 #[v, .func (.yield l) #[] #[]] W fun e W' =>
        (e = .returned (.bool true) ∧ ∃ xs : List (TV w0), xs.map TV.tm = T.parts ∧ J (pre ++ xs) W' ∧ Kept w0.heap.size m₀ W W') ∨ (e = .returned (.bool false) ∧ ∃ xs : List (TV w0), xs.map TV.tm <+: T.parts ∧ Jx (pre ++ xs) W') := by
  induction T using Term.induct with
  | h k z s ts ih =>
    intro n v pre W hv hz hb hmW hj hN
    have hv' := hv
    simp only [TermV] at hv'
    obtain ⟨A, cap, rfl, g1, g2, g3, g4, g5, g6, hk⟩ := hv'
    have hdd : ∀ k : Nat, (F.depth.isSome = true → 1 ≤ k) := fun k h => by rw [hd] at h; cases h
    simp only [Term.size] at hN
    refine callsIn_of_wp Try.func46 rfl h46 ?_ hro
    simp only [Try.ntmps46, List.size_toArray, List.length_cons, List.length_nil, Nat.reduceAdd, Nat.reduceSub, Array.replicate_succ, Array.replicate_zero, List.push_toArray, List.append_toArray, List.nil_append, List.cons_append]
    obtain ⟨fn, tmps, assign, body, hy, hR⟩ := hY (n - 1) pre ⟨(.mk k z s ts, _), hv, hz⟩ (W.alloc (.cells #[.int .i64 k, .int .i64 z, .string s, .slice A ts.length cap] 35)) (hJ _ _ _ none hj (World.grownBy_alloc _ _ _) (fun r e => by cases e)) (by omega)
    simp only [tvEnc] at hy
    gi_wp2_with ((try refine ⟨hdd _, ?_⟩); refine hR.mono ?_; clear hR; rintro e W2 (⟨rfl, hJ2, hk2⟩ | ⟨rfl, hx2⟩); have hbox := hk2.block hmW (World.alloc_heap_new W _); obtain ⟨z0, z1, z2, z3, z4, z5⟩ := blk4 hbox)
    · have hw2 : Below w0.heap.size w0 W2 := (hb.alloc (Nat.le_trans hm hmW) _).trans hk2.1
      have hkW : Kept w0.heap.size m₀ W W2 := ((Kept.refl _ _ W).alloc (Nat.le_trans hm hmW) _).trans hk2
      gi_loopw [14] (fun p wr => ∃ (j : Nat) (xs : List (TV w0)), j ≤ ts.length ∧ p = .int .i64 j ∧ xs.map TV.tm = (.mk k z s ts) :: Term.partss (ts.take j) ∧ J (pre ++ xs) wr ∧ Kept w0.heap.size m₀ W2 wr)
        (fun p _ => ts.length - (intOf p).toNat)
      case atStart => exact ⟨0, [⟨(.mk k z s ts, _), hv, hz⟩], Nat.zero_le _, rfl, by simp [TV.tm, Term.partss], hJ2, Kept.refl _ _ _⟩
      case round =>
        obtain ⟨j, xs, hj, rfl, hxs, hJr, hkr⟩ := hrel
        have hbr := hkr.block hmW hbox
        have hlen : xs.length = 1 + Term.sizes (ts.take j) := by have := congrArg List.length hxs; simpa [Term.partss_length, Nat.add_comm] using this
        by_cases hlt : j < ts.length
        · have hst := Term.sizes_take hlt
          obtain ⟨b, off, A', cap', rfl, -, hbl, e0, e1, e2, e3, hkv⟩ := hk.kid j hlt
          have hbw : Below w0.heap.size w0 wr := hw2.trans hkr.1
          have d0 := (hbw.cell (p := ⟨b, off + j * 4, none⟩) hbl).trans e0
          have d1 := (hbw.cell (p := ⟨b, off + j * 4 + 1, none⟩) hbl).trans e1
          have d2 := (hbw.cell (p := ⟨b, off + j * 4 + 2, none⟩) hbl).trans e2
          have d3 := (hbw.cell (p := ⟨b, off + j * 4 + 3, none⟩) hbl).trans e3
          have hmr : m₀ ≤ wr.heap.size := Nat.le_trans hmW (Nat.le_of_lt (Array.getElem?_eq_some_iff.1 hbr).1)
          have hkid := ih ts[j] (List.getElem_mem _) (n - 1) _ (pre ++ xs) (wr.alloc (.cells #[.int .i64 ts[j].kind, .int .i64 ts[j].n, .string ts[j].s, .slice A' ts[j].kids.length cap'] 35)) hkv (by have := Term.size_mem (List.getElem_mem hlt); simp only [Term.size] at hz; omega) (hbw.alloc (Nat.le_trans hm hmr) _) (by simp; omega)
            (hJ _ _ _ none hJr (World.grownBy_alloc _ _ _) (fun r e => by cases e)) (by simp; omega)
          gi_wp2_with ((try refine ⟨hdd _, ?_⟩); gi_at_call 46; refine hkid.mono ?_; clear hkid; rintro e W3 (⟨rfl, ys, hys, hJ3, hk3⟩ | ⟨rfl, ys, hys, hJ3⟩))
          · have HT := Term.partss_take hlt
            refine ⟨⟨j + 1, xs ++ ys, by omega, by simp, ?_, ?_, ?_⟩, by simp [intOf]; omega⟩
            · rw [List.map_append, hxs, hys, HT]; rfl
            · rw [← List.append_assoc]; exact hJ3
            · exact (hkr.alloc (Nat.le_trans hm hmr) _).trans hk3
          · go_ret
            refine .inr ⟨rfl, xs ++ ys, ?_, by rw [← List.append_assoc]; exact hJ3⟩
            rw [List.map_append, hxs]
            obtain ⟨r, hr⟩ := hys
            have HT := Term.partss_take hlt
            have HD : Term.partss ts = Term.partss (ts.take (j + 1)) ++ Term.partss (ts.drop (j + 1)) := by rw [← Term.partss_append, List.take_append_drop]
            refine ⟨r ++ Term.partss (ts.drop (j + 1)), ?_⟩
            rw [Term.parts, HD, HT, ← hr]; simp [List.append_assoc]
        · obtain rfl : j = ts.length := by omega
          gi_wp2
          go_ret
          rw [List.take_length] at hxs
          exact .inl ⟨rfl, xs, hxs, hJr, hkW.trans hkr⟩
    · go_ret
      exact .inr ⟨rfl, [⟨(.mk k z s ts, _), hv, hz⟩], ⟨Term.partss ts, rfl⟩, hx2⟩

set_option maxHeartbeats 1000000 in
/-- The function that parts hands back. -/
theorem parts_1 (F : Fence) (hd : F.depth = none) (n : Nat) (h45 : F.fn 45) (h46 : F.fn 46) (hro : F.round = none) (l Bt m₀ B : Nat) (w0 : World) (hm : w0.heap.size ≤ m₀) (T : Term) (v : Value) (hv : TermV [] w0 T v) (hz : T.size ≤ 1048576) (J Jx : List (TV w0) → World → Prop) (hJ : AbidesFrom B J)
    (hY : ∀ pre x W, J pre W → pre.length < T.size → YieldAt F (n - 1) Try.prog l (tvEnc x) W fun e W' =>
      (e = .returned (.bool true) ∧ J (pre ++ [x]) W' ∧ Kept w0.heap.size m₀ W W') ∨ (e = .returned (.bool false) ∧ Jx (pre ++ [x]) W'))
    (W : World) (hW : Below w0.heap.size w0 W) (hmW : m₀ ≤ W.heap.size) (hBt : W.heap[Bt]? = some (.cells v.cells 35 (0, 0))) (h0 : J [] W) :
    CallsIn F n Try.prog 45 #[.func (.yield l) #[] #[], .pointer (some ⟨Bt, 0, none⟩)] W fun e W' => (∃ v, e = .returned v) ∧
      ((∃ ys : List (TV w0), ys.map TV.tm = T.parts ∧ J ys W') ∨ (∃ pre : List (TV w0), pre.map TV.tm <+: T.parts ∧ Jx pre W')) := by
  have hdd : ∀ k : Nat, (F.depth.isSome = true → 1 ≤ k) := fun k h => by rw [hd] at h; cases h
  have hp := term_walk F hd h46 hro l m₀ T.size B w0 hm J Jx hJ (fun m pre x W hj hl => YieldAt.anyDepth hd m (hY pre x W hj hl)) T (n - 1) v [] W hv hz hW hmW h0 (by simp)
  obtain ⟨A, cap, rfl⟩ := hv.form
  simp only [Value.cells] at hBt
  obtain ⟨z0, z1, z2, z3, z4, z5⟩ := blk4 hBt
  refine callsIn_of_wp Try.func45 rfl h45 ?_ hro
  simp only [Try.ntmps45, List.size_toArray, List.length_cons, List.length_nil, Nat.reduceAdd, Nat.reduceSub, Array.replicate_succ, Array.replicate_zero, List.push_toArray, List.append_toArray, List.nil_append, List.cons_append]
  gi_wp2_with ((try refine ⟨hdd _, ?_⟩); gi_at_call 46; refine hp.mono ?_; clear hp; rintro e W1 (⟨rfl, xs, hxs, hJ1, _⟩ | ⟨rfl, q, hq, hx⟩))
  · go_end0
    exact ⟨⟨_, rfl⟩, .inl ⟨xs, hxs, by simpa using hJ1⟩⟩
  · go_end0
    exact ⟨⟨_, rfl⟩, .inr ⟨q, hq, by simpa using hx⟩⟩

set_option maxHeartbeats 1000000 in
theorem term_parts (F : Fence) (n : Nat) (h35 : F.fn 35) (hro : F.round = none) (T : Term) (v : Value) (w0 w : World) (hv : TermV [] w0 T v) :
    CallsIn F n Try.prog 35 #[v] w fun e w' => e = .returned (.func (.func 45) #[] #[.pointer (some ⟨w.heap.size, 0, none⟩)]) ∧ w' = w.alloc (.cells v.cells 35) := by
  obtain ⟨A, cap, rfl⟩ := hv.form
  refine callsIn_of_wp Try.func35 rfl h35 ?_ hro
  simp only [Try.ntmps35, List.size_toArray, List.length_cons, List.length_nil, Nat.reduceAdd, Nat.reduceSub, Array.replicate_succ, Array.replicate_zero, List.push_toArray, List.append_toArray, List.nil_append, List.cons_append]
  gi_wp2
  go_ret
  exact ⟨rfl, rfl⟩

/-- What parts hands back goes through the term's parts. -/
theorem parts_stops (F : Fence) (hd : F.depth = none) (n : Nat) (h45 : F.fn 45) (h46 : F.fn 46) (hro : F.round = none) (Bt : Nat) (w0 w : World) (T : Term) (v : Value) (hv : TermV [] w0 T v) (hz : T.size ≤ 1048576) (hw : Below w0.heap.size w0 w) (hBt : w.heap[Bt]? = some (.cells v.cells 35 (0, 0))) :
    SeqStopsK F n Try.prog 45 #[.pointer (some ⟨Bt, 0, none⟩)] (tvEnc (w0 := w0)) (Kept w0.heap.size w.heap.size) (fun ys => ys.map TV.tm = T.parts) (fun pre => pre.map TV.tm <+: T.parts) T.size w := fun l J Jx W hW hJ _ hY h0 =>
  parts_1 F hd n h45 h46 hro l Bt w.heap.size _ w0 hw.size T v hv hz J Jx hJ hY W (hw.trans (hW.mono hw.size)) hW.size ((hW.block Bt (Array.getElem?_eq_some_iff.1 hBt).1).trans hBt) h0
end Go.Proofs.Ytpffcfmhiebhdaa
