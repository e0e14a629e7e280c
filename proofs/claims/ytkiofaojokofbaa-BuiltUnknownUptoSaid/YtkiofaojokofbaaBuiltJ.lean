/- Contracts and plain laws: ReadTerm OpenTerm Goals7 Rgn3. -/
import Derived.Test.YtkiofaojokofbaaRows
import Derived.Test.YtkiofaojokofbaaBuiltA
import Derived.Deep.Slices
import Derived.Lib.SmallJoins
import Derived.ProofKit
import Derived.OpenShut
import Derived.Carry
import Derived.Test.YtkiofaojokofbaaBuiltG
import Derived.Test.YtkiofaojokofbaaBuiltI
import Derived.Test.YtkiofaojokofbaaBuiltB
import Derived.DeepKeys4
import Derived.WalkSpells
import Derived.WalkLawsBesides
import Derived.Deep.QuietTactic
import Derived.BigQuiet
import Derived.Deep.DeepCutAuto
import Derived.Deep.RegionHeld3
import Derived.Lib.Hide
import Derived.Handy
import Derived.Test.YtkiofaojokofbaaBuiltC
namespace Go.Proofs.Ytkiofaojokofbaa
open Go.RowKit

theorem bulk_part {H : Type} {d : DataW H} {l : List (DataW H)} (h : d ∈ l) : Rows.uptoBulk d ≤ Rows.uptoBulkAll l := by
  induction l with
  | nil => cases h
  | cons x r ih =>
    simp only [Rows.uptoBulkAll]
    rcases List.mem_cons.1 h with rfl | h
    · omega
    · have := ih h; omega
theorem bulk_pos {H : Type} (d : DataW H) : 1 ≤ Rows.uptoBulk d := by
  cases d with
  | lit l => cases l <;> simp [Rows.uptoBulk]
  | nil => simp [Rows.uptoBulk]
  | ptr d => simp [Rows.uptoBulk]
  | slice elems spare => simp [Rows.uptoBulk]
  | agg parts => simp [Rows.uptoBulk]
  | iface t d => simp [Rows.uptoBulk]
  | map entries => simp [Rows.uptoBulk]
  | held h => simp [Rows.uptoBulk]
theorem bulk_len {H : Type} (l : List (DataW H)) : l.length ≤ Rows.uptoBulkAll l := by
  induction l with
  | nil => simp [Rows.uptoBulkAll]
  | cons x r ih => have := bulk_pos x; simp only [Rows.uptoBulkAll, List.length_cons]; omega
theorem cells_four {w : World} {a : Addr} {cs : List Value} (h : w.cells? 0 a 4 = some cs) : ∃ c0 c1 c2 c3, cs = [c0, c1, c2, c3] ∧ w.cell? a = some c0 ∧ w.cell? (a.add 1) = some c1 ∧ w.cell? (a.add 2) = some c2 ∧ w.cell? (a.add 3) = some c3 := by
  unfold World.cells? at h
  rw [if_pos (Nat.zero_le _)] at h
  cases h0 : w.cell? (a.add 0) with
  | none => simp [List.range, List.range.loop, h0] at h
  | some c0 =>
    cases h1 : w.cell? (a.add 1) with
    | none => simp [List.range, List.range.loop, h0, h1] at h
    | some c1 =>
      cases h2 : w.cell? (a.add 2) with
      | none => simp [List.range, List.range.loop, h0, h1, h2] at h
      | some c2 =>
        cases h3 : w.cell? (a.add 3) with
        | none => simp [List.range, List.range.loop, h0, h1, h2, h3] at h
        | some c3 =>
          simp [List.range, List.range.loop, h0, h1, h2, h3] at h
          exact ⟨c0, c1, c2, c3, h.symm, by simpa [Addr.add] using h0, rfl, rfl, rfl⟩
theorem cell_spot {w : World} {a : Addr} {c : Value} (h : w.cell? a = some c) : a = ⟨a.block, a.off, none⟩ := by
  obtain ⟨b, o, sp⟩ := a
  cases sp with
  | none => rfl
  | some x =>
    unfold World.cell? at h
    split at h <;> simp at h
theorem add_plain (b o n : Nat) : (⟨b, o, none⟩ : Addr).add n = ⟨b, o + n, none⟩ := by cases n <;> simp [Addr.add]
theorem sizes_bulk {H : Type} (f : Nat → Term) (D : Nat → DataW H) : ∀ (l : List Nat), (∀ i ∈ l, (f i).size ≤ Rows.uptoBulk (D i)) → Term.sizes (l.map f) ≤ Rows.uptoBulkAll (l.map D)
  | [], _ => by simp [Term.sizes, Rows.uptoBulkAll]
  | i :: l, h => by
    have h1 := h i (by simp)
    have h2 := sizes_bulk f D l (fun j hj => h j (by simp [hj]))
    simp only [List.map_cons, Term.sizes, Rows.uptoBulkAll]
    omega
theorem Try.cellsTerm : Try.prog.cellsOf 26 = 4 := by kernel_rfl

set_option maxRecDepth 100000 in
theorem read_term {H : Type} {enc : TypeId × Value → H} {W : World} : ∀ (N fuel : Nat) (cs : List Value) (d : DataW H) (ps : List MemPlace), Rows.uptoBulk d ≤ N → N ≤ 1048576 →
    DataW.trod enc Try.prog W 0 (fun _ => true) true fuel 26 cs = some (d, ps) → ∃ t c0 c1 c2 c3, cs = [c0, c1, c2, c3] ∧ TermV [] W t (.agg #[c0, c1, c2, c3]) ∧ t.size ≤ Rows.uptoBulk d := by
  intro N
  induction N with
  | zero => intro fuel cs d ps hd; have := bulk_pos d; omega
  | succ N ih =>
    intro fuel cs d ps hd hN h
    obtain ⟨y0, y1, y2, y3, n, hx, hlen, h0, h1, h2, h3⟩ := Go.Joins.trod_struct4 Try.underlying26 h
    rw [Try.cellsTerm] at hlen
    match cs, hlen with
    | [c0, c1, c2, c3], _ =>
      have k0 : Try.prog.cellsOf 3 = 1 := by kernel_rfl
      have k1 : Try.prog.cellsOf 2 = 1 := by kernel_rfl
      have k2 : Try.prog.cellsOf 9 = 1 := by kernel_rfl
      have k3 : Try.prog.cellsOf 22 = 1 := by kernel_rfl
      simp only [k0, k1, k2, k3, List.drop_zero, List.drop_succ_cons, List.take_succ_cons, List.take_zero] at h0 h1 h2 h3
      obtain ⟨k, e0, rfl, w0⟩ := DataW.trod_int Try.underlying3 h0
      obtain ⟨m, e1, rfl, w1⟩ := DataW.trod_int Try.underlying2 h1
      obtain ⟨s, e2, rfl, w2⟩ := DataW.trod_string Try.underlying9 h2
      cases e0; cases e1; cases e2
      simp only [Prod.mk.injEq] at hx
      obtain ⟨rfl, -⟩ := hx
      simp only [Rows.uptoBulk, Rows.uptoBulkAll] at hd ⊢
      have ik : I64 k := by simpa [I64, Lit.wf, IntKind.min, IntKind.max, IntKind.signed, IntKind.bits] using w0
      have im : I64 m := by simpa [I64, Lit.wf, IntKind.min, IntKind.max, IntKind.signed, IntKind.bits] using w1
      have hs : s.size ≤ 1048576 := by
        have : s.data.toList.length = s.size := by rw [Array.length_toList]; rfl
        omega
      rcases Go.Deep.open_slice Try.underlying22 h3 with ⟨e3, rfl⟩ | ⟨a, len, cap, mm, n', D, Pl, e3, hb, hl, hm, hmm, rfl, hel⟩
      · cases e3
        exact ⟨.mk k m s [], _, _, _, _, rfl, TermV.leaf [] W ik im hs, by simp [Term.size, Term.sizes]⟩
      · cases e3
        rw [Try.cellsTerm] at hel
        simp only [Rows.uptoBulk] at hd ⊢
        have hml : len ≤ mm := by rw [hmm]; simp; omega
        have hln : len ≤ 1048576 := by
          have := bulk_len ((List.range len).map D)
          simp only [List.length_map, List.length_range] at this
          omega
        have hall : ∀ i, ∃ t : Term, i < len → (∃ c0 c1 c2 c3, W.cells? 0 (a.add (i * 4)) 4 = some [c0, c1, c2, c3] ∧ TermV [] W t (.agg #[c0, c1, c2, c3])) ∧ t.size ≤ Rows.uptoBulk (D i) := by
          intro i
          by_cases hi : i < len
          · obtain ⟨cs', hc, ht⟩ := hel i (by omega)
            have hb : Rows.uptoBulk (D i) ≤ N := by
              have := bulk_part (d := D i) (l := (List.range len).map D) (List.mem_map.2 ⟨i, List.mem_range.2 hi, rfl⟩)
              omega
            obtain ⟨t, c0, c1, c2, c3, rfl, htv, hsz⟩ := ih n' cs' (D i) (Pl i) hb (by omega) ht
            exact ⟨t, fun _ => ⟨⟨c0, c1, c2, c3, hc, htv⟩, hsz⟩⟩
          · exact ⟨default, fun h => absurd h hi⟩
        obtain ⟨f, hf⟩ := Classical.axiomOfChoice hall
        have hsize : Term.sizes ((List.range len).map f) ≤ Rows.uptoBulkAll ((List.range len).map D) := sizes_bulk f D _ (fun i hi => (hf i (List.mem_range.1 hi)).2)
        refine ⟨.mk k m s ((List.range len).map f), _, _, _, _, rfl, ?_, by simp only [Term.size]; omega⟩
        simp only [TermV]
        refine ⟨some a, cap, by simp, ik, im, hs, by simpa using hln, by simpa using hl, by unfold maxLen at hm; omega, KidsV.of_get (some a) _ 0 (fun j t hj => ?_)⟩
        have hjl : j < len := by have := (List.getElem?_eq_some_iff.1 hj).1; simpa using this
        have ht : t = f j := by
          rw [List.getElem?_map, List.getElem?_range hjl] at hj
          simpa using hj.symm
        subst ht
        have hspot : a = ⟨a.block, a.off, none⟩ := by
          obtain ⟨⟨c0, c1, c2, c3, hc, _⟩, _⟩ := hf 0 (by omega)
          obtain ⟨_, _, _, _, _, g0, _⟩ := cells_four hc
          exact cell_spot (by simpa [Addr.add] using g0)
        obtain ⟨⟨c0, c1, c2, c3, hc, htv⟩, _⟩ := hf j hjl
        obtain ⟨d0, d1, d2, d3, he, g0, g1, g2, g3⟩ := cells_four hc
        simp only [List.cons.injEq, and_true] at he
        obtain ⟨rfl, rfl, rfl, rfl⟩ := he
        rw [hspot] at g0 g1 g2 g3
        simp only [add_plain] at g0 g1 g2 g3
        refine ⟨a.block, a.off, c0, c1, c2, c3, by rw [← hspot], by simp, ?_, ?_, ?_, ?_, htv⟩
        · rw [Nat.zero_add]; exact g0
        · rw [Nat.zero_add]; exact g1
        · rw [Nat.zero_add]; exact g2
        · rw [Nat.zero_add]; exact g3
end Go.Proofs.Ytkiofaojokofbaa
namespace Go.Proofs.Ytkiofaojokofbaa
open Go.ChangeShapes Go.WideShapes Go.ChangeAt Go.RowKit

theorem Try.laidOut : laidOutB Try.prog = true := by kernel_rfl
theorem Try.termRec : Try.prog.readableRec 26 = true := by kernel_rfl
theorem Try.termRow : 26 < Try.prog.types.size := of_decide_eq_true (by kernel_rfl)

theorem trod_places {H : Type} {enc : TypeId × Value → H} {P : Program} {W : World} {base : Nat} {sp : Nat → Bool} {held : Bool} {t : TypeId} {v : Value} {d : DataW H} {ps : List MemPlace} (h : DataW.Trod enc P W base sp held t v d ps) : ∀ x ∈ ps, x.block < W.heap.size := by
  obtain ⟨n, h⟩ := h
  exact DataW.trod_lt n t _ _ h

set_option maxRecDepth 100000 in
theorem open_term {H : Type} {enc : TypeId × Value → H} {W : World} {base : Nat} {v : Value} {d : DataW H} {ps : List MemPlace} (hv : Value.okWide Try.prog W .any base 26 v)
    (h : DataW.Trod enc Try.prog W 0 (fun _ => true) true 26 v d ps) (hk : Rows.uptoBulk d ≤ 1048576) : ∃ t, TermV [] W t v ∧ t.size ≤ 1048576 := by
  obtain ⟨cs, rfl, hc⟩ := okWide_struct Try.underlying26 hv
  obtain ⟨n, h⟩ := h
  obtain ⟨t, c0, c1, c2, c3, e, ht, hs⟩ := read_term _ n _ d ps (Nat.le_refl _) hk h
  refine ⟨t, ?_, by omega⟩
  have e' : cs.toList = [c0, c1, c2, c3] := e
  rw [show cs = #[c0, c1, c2, c3] from Array.toList_inj.1 e']
  exact ht
theorem bulk_string {H : Type} (s : ByteArray) (h : Rows.uptoBulk (DataW.lit (H := H) (.string s.data.toList)) ≤ 1048576) : s.size ≤ 1048576 := by
  have : s.data.toList.length = s.size := by rw [Array.length_toList]; rfl
  simp only [Rows.uptoBulk] at h
  omega
end Go.Proofs.Ytkiofaojokofbaa
namespace Go.Proofs.Ytkiofaojokofbaa
open Go.RowKit Go.Maps

theorem Try.rowKey : 57 < Try.prog.types.size := of_decide_eq_true (by kernel_rfl)
theorem Try.wideKey : (match Try.prog.underlying 57 with | some (.array _ _) | some (.struct _) => true | _ => false) = true := by rw [Try.underlying57]
set_option maxRecDepth 100000 in
theorem Try.keyedKey : Keyed Try.prog 57 := Keyed.of_law (deep_law_laid Try.laidOut (m := 2) (by omega) Try.rowKey (by kernel_rfl) Try.wideKey)
theorem Try.keyTypeKey : Try.prog.keyType 57 = true := by kernel_rfl
theorem Try.cellsKey : Try.prog.cellsOf 57 = 2 := by kernel_rfl
theorem Try.cellsStr : Try.prog.cellsOf 9 = 1 := by kernel_rfl
theorem Try.cellsInt : Try.prog.cellsOf 3 = 1 := by kernel_rfl
def keyV (s : ByteArray) (m : Int) : Value := .agg #[.string s, .int .i64 m]
theorem key_formed (s : ByteArray) (m : Int) : (keyV s m).formed Try.prog 57 = true := by simp [keyV, Value.formed, Try.underlying57, Try.cellsKey]
theorem key_lit (s : ByteArray) (m : Int) (hs : s.size ≤ 1048576) (h : I64 m) : ∃ lit, keyOf Try.prog 57 (keyV s m) = some lit := by
  have hwf : (Lit.int .i64 m).wf = true := by unfold I64 at h; simpa [Lit.wf, IntKind.min, IntKind.max, IntKind.signed, IntKind.bits] using h
  obtain ⟨n, hn⟩ : ∃ n, Try.prog.types.size = n + 1 := ⟨Try.prog.types.size - 1, by have := Try.rowKey; omega⟩
  have hsz : s.size ≤ maxLen := by unfold maxLen; omega
  have h9 : ∀ d, Try.prog.keyLits (d + 1) 9 [.string s] = some [.string s.data.toList] := fun d => by
    unfold Program.keyLits; rw [Try.underlying9]
    exact if_pos hsz
  have h3 : ∀ d, Try.prog.keyLits (d + 1) 3 [.int .i64 m] = some [.int .i64 m] := fun d => by
    unfold Program.keyLits; rw [Try.underlying3]
    exact if_pos ⟨rfl, hwf⟩
  obtain ⟨n', hn'⟩ : ∃ n', n = n' + 1 := ⟨n - 1, by have : 2 ≤ Try.prog.types.size := of_decide_eq_true (by kernel_rfl); omega⟩
  subst hn'
  have h79 : ∃ ls, Try.prog.keyLits (n' + 1 + 1 + 1) 57 [.string s, .int .i64 m] = some ls := by
    unfold Program.keyLits; rw [Try.underlying57]
    dsimp only
    rw [if_pos ⟨by rw [Try.cellsKey]; rfl, by kernel_rfl⟩]
    simp only [List.mapM_cons, List.mapM_nil, Try.cellsStr, Try.cellsInt, List.drop_zero, List.take_succ_cons, List.take_zero, List.drop_succ_cons, h9, h3]
    exact ⟨_, rfl⟩
  obtain ⟨ls, hls⟩ := h79
  unfold keyOf
  rw [Try.underlying57, Try.keyTypeKey, key_formed, hn]
  simp only [Bool.and_self, if_true]
  refine ⟨.string (keyBytes ls), ?_⟩
  show (Option.map _ (Try.prog.keyLits (n' + 1 + 1 + 1) 57 [.string s, .int .i64 m])) = _
  rw [hls]
  rfl

/-- A closure over the goals and one thing more. -/
def Closes (w : World) (f : FuncId) (ty : TypeId) (x : Value) (sb lb : Nat) (v : Value) : Prop :=
  ∃ g h, v = .func (.func f) #[] #[.pointer (some ⟨g, 0, none⟩), .pointer (some ⟨h, 0, none⟩)] ∧ GoalsAt w g sb lb ∧ w.heap[h]? = some (.cells #[x] ty (0, 0))
theorem Closes.keep {w w' : World} {f : FuncId} {ty : TypeId} {x : Value} {sb lb : Nat} {v : Value} (h : Closes w f ty x sb lb v) (fr : Frm [] w w') : Closes w' f ty x sb lb v := by
  obtain ⟨g, k, rfl, h1, h2⟩ := h; exact ⟨g, k, rfl, h1.keep fr, fr.at0 h2⟩
theorem goals_compare (hf : FuncId) (sb lb : Nat) (w : World) : Calls Try.prog 31 #[.agg #[.pointer (some ⟨sb, 0, none⟩), .pointer (some ⟨lb, 0, none⟩)], .func (.func hf) #[] #[]] w fun e w' =>
    (∃ v, e = .returned v ∧ Closes w' 51 73 (.func (.func hf) #[] #[]) sb lb v) ∧ Frm [] w w' := by
  have hmf : ∀ (fn : Fn) (first cap : Array Value) (w : World), (Instr.makeFunc fn first cap).run Try.prog w = .ok (.func fn first cap) w := fun _ _ _ _ => rfl
  go_enter Try.func31, Try.ntmps31
  go_wp2
  go_ret
  exact ⟨⟨_, rfl, w.heap.size, w.heap.size + 1, rfl, by unfold GoalsAt; repeat (first | rw [heap_alloc_at] | rw [heap_size_alloc] | rfl | rw [if_pos (by omega)] | rw [if_neg (by omega)]), (by repeat (first | rw [heap_alloc_at] | rw [heap_size_alloc] | rfl | rw [if_pos (by omega)] | rw [if_neg (by omega)]))⟩, (by repeat (first | with_reducible (first | refine .alloc ?_ _ | refine .drewN ?_ _ | refine .drew ?_) | ((with_reducible refine .setCell ?_ ?_ _); rotate_left; focus (first | (left; simp; done) | (right; simp; (first | done | omega)))) | with_reducible (first | assumption | exact .refl _ _ | refine .trans0 ?_ ‹_›)))⟩
theorem goals_kind (hf : FuncId) (sb lb : Nat) (w : World) : Calls Try.prog 36 #[.agg #[.pointer (some ⟨sb, 0, none⟩), .pointer (some ⟨lb, 0, none⟩)], .func (.func hf) #[] #[]] w fun e w' =>
    (∃ v, e = .returned v ∧ Closes w' 56 24 (.func (.func hf) #[] #[]) sb lb v) ∧ Frm [] w w' := by
  have hmf : ∀ (fn : Fn) (first cap : Array Value) (w : World), (Instr.makeFunc fn first cap).run Try.prog w = .ok (.func fn first cap) w := fun _ _ _ _ => rfl
  go_enter Try.func36, Try.ntmps36
  go_wp2
  go_ret
  exact ⟨⟨_, rfl, w.heap.size, w.heap.size + 1, rfl, by unfold GoalsAt; repeat (first | rw [heap_alloc_at] | rw [heap_size_alloc] | rfl | rw [if_pos (by omega)] | rw [if_neg (by omega)]), (by repeat (first | rw [heap_alloc_at] | rw [heap_size_alloc] | rfl | rw [if_pos (by omega)] | rw [if_neg (by omega)]))⟩, (by repeat (first | with_reducible (first | refine .alloc ?_ _ | refine .drewN ?_ _ | refine .drew ?_) | ((with_reducible refine .setCell ?_ ?_ _); rotate_left; focus (first | (left; simp; done) | (right; simp; (first | done | omega)))) | with_reducible (first | assumption | exact .refl _ _ | refine .trans0 ?_ ‹_›)))⟩
theorem goals_test (op : ByteArray) (sb lb : Nat) (w : World) : Calls Try.prog 42 #[.agg #[.pointer (some ⟨sb, 0, none⟩), .pointer (some ⟨lb, 0, none⟩)], .string op] w fun e w' =>
    (∃ v, e = .returned v ∧ Closes w' 59 9 (.string op) sb lb v) ∧ Frm [] w w' := by
  have hmf : ∀ (fn : Fn) (first cap : Array Value) (w : World), (Instr.makeFunc fn first cap).run Try.prog w = .ok (.func fn first cap) w := fun _ _ _ _ => rfl
  go_enter Try.func42, Try.ntmps42
  go_wp2
  go_ret
  exact ⟨⟨_, rfl, w.heap.size, w.heap.size + 1, rfl, by unfold GoalsAt; repeat (first | rw [heap_alloc_at] | rw [heap_size_alloc] | rfl | rw [if_pos (by omega)] | rw [if_neg (by omega)]), (by repeat (first | rw [heap_alloc_at] | rw [heap_size_alloc] | rfl | rw [if_pos (by omega)] | rw [if_neg (by omega)]))⟩, (by repeat (first | with_reducible (first | refine .alloc ?_ _ | refine .drewN ?_ _ | refine .drew ?_) | ((with_reducible refine .setCell ?_ ?_ _); rotate_left; focus (first | (left; simp; done) | (right; simp; (first | done | omega)))) | with_reducible (first | assumption | exact .refl _ _ | refine .trans0 ?_ ‹_›)))⟩
end Go.Proofs.Ytkiofaojokofbaa
namespace Go.Proofs.Ytkiofaojokofbaa
section
variable {P : Program} {ops : Array Oper} {Q : Exit → Act → World → Prop} {md : Region.Mode} {S : World → Prop} {ph : Nat → Bool}
/-- How many are not listed. -/
def unlisted (listed : Array Bool) : Nat := (listed.toList.filter (! ·)).length
theorem unlisted_set {listed : Array Bool} {i : Nat} (h : listed.getD i true = false) : unlisted (listed.setIfInBounds i true) + 1 = unlisted listed := by
  obtain ⟨l⟩ := listed
  unfold unlisted
  rw [Array.getD_eq_getD_getElem?] at h
  simp only [List.getElem?_toArray, List.setIfInBounds_toArray] at h ⊢
  induction l generalizing i with
  | nil => simp at h
  | cons b l ih =>
    cases i with
    | zero =>
      simp only [List.getElem?_cons_zero, Option.getD_some] at h
      subst h
      simp
    | succ i =>
      simp only [List.getElem?_cons_succ] at h
      have := ih h
      show ((b :: l.set i true).filter (! ·)).length + 1 = ((b :: l).filter (! ·)).length
      cases b <;> simp at this ⊢ <;> omega
theorem wpAnyU_inv (J : Array Bool → Act → World → Prop)
    (hstep : ∀ listed a w, J listed a w → ∀ i ∈ Region.ready md ops listed, wpOp P ops Q i (fun a' w' => (ph i = true → S w') ∧ J (listed.setIfInBounds i true) a' w') a w)
    (hend : ∀ listed a w, J listed a w → Region.ready md ops listed = [] → Q .normal a w) :
    ∀ fuel listed a w, unlisted listed ≤ fuel → J listed a w → wpAnyU P md ops Q S ph fuel listed a w
  | 0, listed, a, w, hf, hJ => by
    have hr : Region.ready md ops listed = [] := by
      cases h : Region.ready md ops listed with
      | nil => rfl
      | cons i is =>
        have hi : i ∈ Region.ready md ops listed := by rw [h]; simp
        have := unlisted_set (mem_ready.1 hi).1
        omega
    exact ⟨hr, hend listed a w hJ hr⟩
  | fuel + 1, listed, a, w, hf, hJ => by
    refine ⟨hend listed a w hJ, fun i hi => wpOp_mono (fun a' w' h => ⟨h.1, wpAnyU_inv J hstep hend fuel _ a' w' ?_ h.2⟩) (hstep listed a w hJ i hi)⟩
    have := unlisted_set (mem_ready.1 hi).1
    omega
/-- Where each operation waits for earlier ones alone, none is left at the end. -/
def Region.sorted (ops : Array Oper) : Bool := (List.range ops.size).all fun j => match ops[j]? with
  | some o => o.after.all fun e => decide (e.on < j)
  | none => true
theorem Region.all_listed {listed : Array Bool} (hs : Region.sorted ops = true) (hz : listed.size = ops.size) (hr : Region.ready md ops listed = []) : ∀ i, i < ops.size → listed.getD i false = true := by
  intro i
  induction i using Nat.strongRecOn with
  | _ i ih =>
    intro hi
    cases hl : listed.getD i false with
    | true => rfl
    | false =>
      exfalso
      have hlt : listed.getD i true = false := by
        rw [Array.getD_eq_getD_getElem?] at hl ⊢
        rw [Array.getElem?_eq_getElem (by omega)] at hl ⊢
        exact hl
      have hmem : i ∈ Region.ready md ops listed := by
        refine mem_ready.2 ⟨hlt, ops[i], Array.getElem?_eq_getElem hi, fun e he _ => ?_⟩
        unfold Region.sorted at hs
        rw [List.all_eq_true] at hs
        have h1 := hs i (List.mem_range.2 hi)
        rw [Array.getElem?_eq_getElem hi] at h1
        dsimp only at h1
        rw [Array.all_eq_true'] at h1
        have h2 := of_decide_eq_true (h1 e he)
        exact ih e.on h2 (by omega)
      rw [hr] at hmem
      cases hmem
theorem getD_set_ne {listed : Array Bool} {i j : Nat} (h : j ≠ i) (d : Bool) : (listed.setIfInBounds j true).getD i d = listed.getD i d := set_other listed h true d
theorem getD_set_self {listed : Array Bool} {i : Nat} (h : listed.getD i true = false) : (listed.setIfInBounds i true).getD i false = true := by
  rw [Array.getD_eq_getD_getElem?] at h ⊢
  cases hx : listed[i]? with
  | none => rw [hx] at h; cases h
  | some b => rw [Array.getElem?_setIfInBounds_self_of_lt (Array.getElem?_eq_some_iff.1 hx).1]; rfl
end
end Go.Proofs.Ytkiofaojokofbaa
