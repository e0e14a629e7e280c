/- Contracts and plain laws: Goals9 BuiltCall LattB LattC LattD Chain ChainP RefSize Same LawB0 EvalP NineP EvalB. -/
import Derived.Test.YtkiofaojokofbaaBuiltK
import Derived.WalkSpells
import Derived.WalkLawsBesides
import Derived.Deep.QuietTactic
import Derived.BigQuiet
import Derived.Deep.DeepCutAuto
import Derived.Deep.RegionHeld3
import Derived.Lib.Hide
import Derived.Handy
import Derived.Test.YtkiofaojokofbaaBuiltA
import Derived.ScopeJumps
import Derived.WalkMore
import Derived.Deep.LoopGhost
import Derived.Test.YtkiofaojokofbaaBuiltE
import Derived.Test.YtkiofaojokofbaaBuiltD
import Derived.Test.YtkiofaojokofbaaBuiltG
namespace Go.Proofs.Ytkiofaojokofbaa
open Go.RowKit Go.Maps

def isZ (c : Int) : Bool := c == 0
def isNZ (c : Int) : Bool := c != 0
def isNeg (c : Int) : Bool := decide (c < 0)
def isVar (t : Term) : Bool := decide (t.kind = 1)
def isNonvar (t : Term) : Bool := !decide (t.kind = 1)
def isInt (t : Term) : Bool := decide (t.kind = 2)
def isAtom (t : Term) : Bool := decide (t.kind = 3) && decide (t.kids.length = 0)
theorem lit_3 (c : Int) (w : World) : Calls Try.prog 32 #[.int .i64 c] w fun e w' => e = .returned (.bool (isZ c)) ∧ w = w' := by
  go_enter Try.func32, Try.ntmps32
  go_wp2
  go_ret
  exact ⟨ret_bool (by simp [isZ]), rfl⟩
theorem lit_4 (c : Int) (w : World) : Calls Try.prog 33 #[.int .i64 c] w fun e w' => e = .returned (.bool (isNZ c)) ∧ w = w' := by
  go_enter Try.func33, Try.ntmps33
  go_wp2
  go_ret
  exact ⟨ret_bool (by simp [isNZ]), rfl⟩
theorem lit_5 (c : Int) (w : World) : Calls Try.prog 34 #[.int .i64 c] w fun e w' => e = .returned (.bool (isNeg c)) ∧ w = w' := by
  go_enter Try.func34, Try.ntmps34
  go_wp2
  go_ret
  exact ⟨ret_bool (by simp [isNeg]), rfl⟩
theorem lit_6 : Asks 37 isVar := by
  intro t F v w h
  obtain ⟨A, cap, rfl⟩ := h.form
  by_cases h1 : isVar t = true
  all_goals
    have h2 := h1
    simp [isVar] at h1
    go_enter Try.func37, Try.ntmps37
    go_wp2
    go_ret
    exact ⟨ret_bool (by simp [isVar, h1]), (by repeat (first | with_reducible (first | refine .alloc ?_ _ | refine .drewN ?_ _ | refine .drew ?_) | ((with_reducible refine .setCell ?_ ?_ _); rotate_left; focus (first | (left; simp; done) | (right; simp; (first | done | omega)))) | with_reducible (first | assumption | exact .refl _ _ | refine .trans0 ?_ ‹_›)))⟩
theorem lit_7 : Asks 38 isNonvar := by
  intro t F v w h
  obtain ⟨A, cap, rfl⟩ := h.form
  by_cases h1 : isNonvar t = true
  all_goals
    have h2 := h1
    simp [isNonvar] at h1
    go_enter Try.func38, Try.ntmps38
    go_wp2
    go_ret
    exact ⟨ret_bool (by simp [isNonvar, h1]), (by repeat (first | with_reducible (first | refine .alloc ?_ _ | refine .drewN ?_ _ | refine .drew ?_) | ((with_reducible refine .setCell ?_ ?_ _); rotate_left; focus (first | (left; simp; done) | (right; simp; (first | done | omega)))) | with_reducible (first | assumption | exact .refl _ _ | refine .trans0 ?_ ‹_›)))⟩
theorem lit_9 : Asks 40 isInt := by
  intro t F v w h
  obtain ⟨A, cap, rfl⟩ := h.form
  by_cases h1 : isInt t = true
  all_goals
    have h2 := h1
    simp [isInt] at h1
    go_enter Try.func40, Try.ntmps40
    go_wp2
    go_ret
    exact ⟨ret_bool (by simp [isInt, h1]), (by repeat (first | with_reducible (first | refine .alloc ?_ _ | refine .drewN ?_ _ | refine .drew ?_) | ((with_reducible refine .setCell ?_ ?_ _); rotate_left; focus (first | (left; simp; done) | (right; simp; (first | done | omega)))) | with_reducible (first | assumption | exact .refl _ _ | refine .trans0 ?_ ‹_›)))⟩
theorem lit_8 : Asks 39 isAtom := by
  intro t F v w h
  obtain ⟨A, cap, rfl⟩ := h.form
  by_cases h1 : t.kind = 3
  · have h1' : (t.kind == 3) = true := by simpa using h1
    by_cases h2 : t.kids.length = 0
    · have h2' : ((t.kids.length : Int) == 0) = true := by simpa using h2
      have HR : Hid (isAtom t = true) := by show _ = _; simp [isAtom, h1, h2]
      clear h1 h2
      go_enter Try.func39, Try.ntmps39
      go_wp2
      go_ret
      exact ⟨ret_bool HR.out.symm, (by repeat (first | with_reducible (first | refine .alloc ?_ _ | refine .drewN ?_ _ | refine .drew ?_) | ((with_reducible refine .setCell ?_ ?_ _); rotate_left; focus (first | (left; simp; done) | (right; simp; (first | done | omega)))) | with_reducible (first | assumption | exact .refl _ _ | refine .trans0 ?_ ‹_›)))⟩
    · have h2' : ((t.kids.length : Int) == 0) = false := by simpa using h2
      have HR : Hid (isAtom t = false) := by show _ = _; simp [isAtom, h2]
      clear h1 h2
      go_enter Try.func39, Try.ntmps39
      go_wp2
      go_ret
      exact ⟨ret_bool HR.out.symm, (by repeat (first | with_reducible (first | refine .alloc ?_ _ | refine .drewN ?_ _ | refine .drew ?_) | ((with_reducible refine .setCell ?_ ?_ _); rotate_left; focus (first | (left; simp; done) | (right; simp; (first | done | omega)))) | with_reducible (first | assumption | exact .refl _ _ | refine .trans0 ?_ ‹_›)))⟩
  · have h1' : (t.kind == 3) = false := by simpa using h1
    have HR : Hid (isAtom t = false) := by show _ = _; simp [isAtom, h1]
    clear h1
    go_enter Try.func39, Try.ntmps39
    go_wp2
    go_ret
    exact ⟨ret_bool HR.out.symm, (by repeat (first | with_reducible (first | refine .alloc ?_ _ | refine .drewN ?_ _ | refine .drew ?_) | ((with_reducible refine .setCell ?_ ?_ _); rotate_left; focus (first | (left; simp; done) | (right; simp; (first | done | omega)))) | with_reducible (first | assumption | exact .refl _ _ | refine .trans0 ?_ ‹_›)))⟩

theorem lit_1 (l : Lat) (st : PStore) (gb sb lb : Nat) (A : Option Addr) (cap : Nat) (w : World) (hl : LatAt w lb l) (hg : GoalsAt w gb sb lb) :
    Calls Try.prog 27 #[.slice A 0 cap, .pointer (some ⟨gb, 0, none⟩)] w fun e w' => e = .returned (toldV (true, l.bottom, 0, st)) ∧ Frm [] w w' := by
  obtain ⟨q0, q1, hgb⟩ := hg.c
  go_enter Try.func27, Try.ntmps27
  go_wp2_with (go_at_call 21; refine (lat_bottom l lb _ (hl.frm0 (by repeat (first | with_reducible (first | refine .alloc ?_ _ | refine .drewN ?_ _ | refine .drew ?_) | ((with_reducible refine .setCell ?_ ?_ _); rotate_left; focus (first | (left; simp; done) | (right; simp; (first | done | omega)))) | with_reducible (first | assumption | exact .refl _ _ | refine .trans0 ?_ ‹_›))))).mono ?_; rintro e w' ⟨rfl, rfl⟩)
  obtain ⟨r0, r1, r2, r3, r4⟩ := blk3 (alloc_heap_new w (.cells #[.bool true, .int .i64 l.bottom, .int .i64 0] 59))
  refine bodyPost_ret (v := toldV (true, l.bottom, 0, st)) (by simp [toldV, results, Try.results27, go_sem, r0, r1, r2]) rfl ?_
  exact ⟨rfl, (by repeat (first | with_reducible (first | refine .alloc ?_ _ | refine .drewN ?_ _ | refine .drew ?_) | ((with_reducible refine .setCell ?_ ?_ _); rotate_left; focus (first | (left; simp; done) | (right; simp; (first | done | omega)))) | with_reducible (first | assumption | exact .refl _ _ | refine .trans0 ?_ ‹_›)))⟩
theorem lit_2 (l : Lat) (st : PStore) (gb sb lb : Nat) (A : Option Addr) (cap : Nat) (w : World) (hl : LatAt w lb l) (hg : GoalsAt w gb sb lb) :
    Calls Try.prog 28 #[.slice A 0 cap, .pointer (some ⟨gb, 0, none⟩)] w fun e w' => e = .returned (toldV (false, l.bottom, 0, st)) ∧ Frm [] w w' := by
  obtain ⟨q0, q1, hgb⟩ := hg.c
  go_enter Try.func28, Try.ntmps28
  go_wp2_with (go_at_call 21; refine (lat_bottom l lb _ (hl.frm0 (by repeat (first | with_reducible (first | refine .alloc ?_ _ | refine .drewN ?_ _ | refine .drew ?_) | ((with_reducible refine .setCell ?_ ?_ _); rotate_left; focus (first | (left; simp; done) | (right; simp; (first | done | omega)))) | with_reducible (first | assumption | exact .refl _ _ | refine .trans0 ?_ ‹_›))))).mono ?_; rintro e w' ⟨rfl, rfl⟩)
  obtain ⟨r0, r1, r2, r3, r4⟩ := blk3 (alloc_heap_new w (.cells #[.bool false, .int .i64 l.bottom, .int .i64 0] 59))
  refine bodyPost_ret (v := toldV (false, l.bottom, 0, st)) (by simp [toldV, results, Try.results28, go_sem, r0, r1, r2]) rfl ?_
  exact ⟨rfl, (by repeat (first | with_reducible (first | refine .alloc ?_ _ | refine .drewN ?_ _ | refine .drew ?_) | ((with_reducible refine .setCell ?_ ?_ _); rotate_left; focus (first | (left; simp; done) | (right; simp; (first | done | omega)))) | with_reducible (first | assumption | exact .refl _ _ | refine .trans0 ?_ ‹_›)))⟩

/-- What a known goal tells. -/
noncomputable def goalT (l : Lat) (st : PStore) (i : Nat) (ts : List Term) : Bool × Int × Int × PStore :=
  match i, ts with
  | 0, [] => (true, l.bottom, 0, st)
  | 1, [] => (false, l.bottom, 0, st)
  | 2, [a, b] => st.matchT l [a] [b]
  | 3, [a, b] => st.unequalT l a b
  | 4, [a, b] => st.cmpT l isZ a b
  | 5, [a, b] => st.cmpT l isNZ a b
  | 6, [a, b] => st.cmpT l isNeg a b
  | 7, [a, b] => st.isT l a b
  | 8, [a] => st.kindT l isVar a
  | 9, [a] => st.kindT l isNonvar a
  | 10, [a] => st.kindT l isAtom a
  | 11, [a] => st.kindT l isInt a
  | 12, [a, b] => st.copiedT l a b
  | 13, [a, b] => st.testT l ⟨#[60]⟩ a b
  | 14, [a, b] => st.testT l ⟨#[62]⟩ a b
  | 15, [a, b] => st.testT l ⟨#[61, 60]⟩ a b
  | 16, [a, b] => st.testT l ⟨#[62, 61]⟩ a b
  | 17, [a, b] => st.testT l ⟨#[61, 58, 61]⟩ a b
  | 18, [a, b] => st.testT l ⟨#[61, 92, 61]⟩ a b
  | _, _ => (false, 0, 0, st)
/-- A function value may be asked. -/
def Askable (G F : List Nat) (w : World) (sb : Nat) (A : Option Addr) (n cap : Nat) (r : Bool × Int × Int × PStore) (v : Value) : Prop :=
  ∃ f b c, v = .func (.func f) b c ∧ (∀ args w, (callFunc f args).run Try.prog w = .ok (.enter f args) w) ∧ Calls Try.prog f (b ++ #[.slice A n cap] ++ c) w fun e w' => e = .returned (toldV r) ∧ StoreTo G F w w' sb r.2.2.2
theorem testT_st (l : Lat) (st : PStore) (op : ByteArray) (a b : Term) : (st.testT l op a b).2.2.2 = st := by
  unfold PStore.testT; split; split; all_goals rfl
theorem cmpT_st (l : Lat) (st : PStore) (p : Int → Bool) (a b : Term) : (st.cmpT l p a b).2.2.2 = st := by
  unfold PStore.cmpT; split; split; all_goals rfl

theorem goal_ask (G F : List Nat) (sb lb gb : Nat) (l : Lat) (st : PStore) (i : Nat) (hi : i < 19) (v : Value) (ts : List Term) (A : Option Addr) (cap : Nat) (w : World) (hl : LatAt w lb l) (hlG : lb ∉ G) (hs : StoreAt G F w sb st) (hk : KidsV F w ts A 0) (hg : GoalsAt w gb sb lb)
    (ha : AskV w gb sb lb i v) (hm : (goalTab.getD i default).2 = ts.length) : Askable G F w sb A ts.length cap (goalT l st i ts) v := by
  have key : i = 0 ∨ i = 1 ∨ i = 2 ∨ i = 3 ∨ i = 4 ∨ i = 5 ∨ i = 6 ∨ i = 7 ∨ i = 8 ∨ i = 9 ∨ i = 10 ∨ i = 11 ∨ i = 12 ∨ i = 13 ∨ i = 14 ∨ i = 15 ∨ i = 16 ∨ i = 17 ∨ i = 18 := by omega
  have h0 : (0 : Int) = ts.length → ts = [] := fun h => List.length_eq_zero_iff.1 (by omega)
  have h1 : (1 : Int) = ts.length → ∃ a, ts = [a] := fun h => List.length_eq_one_iff.1 (by omega)
  have h2 : (2 : Int) = ts.length → ∃ a b, ts = [a, b] := fun h => by
    match ts, h with
    | [a, b], _ => exact ⟨a, b, rfl⟩
    | [], h => simp at h
    | [_], h => simp at h
    | _ :: _ :: _ :: _, h => simp at h; omega
  rcases key with rfl | rfl | rfl | rfl | rfl | rfl | rfl | rfl | rfl | rfl | rfl | rfl | rfl | rfl | rfl | rfl | rfl | rfl | rfl
  · obtain rfl := h0 hm
    obtain rfl := ha
    exact ⟨_, _, _, rfl, (fun _ _ => by kernel_rfl), (lit_1 l st gb sb lb A cap w hl hg).mono fun _ _ ⟨he, f⟩ => ⟨he, StoreTo.quiet hs f⟩⟩
  · obtain rfl := h0 hm
    obtain rfl := ha
    exact ⟨_, _, _, rfl, (fun _ _ => by kernel_rfl), (lit_2 l st gb sb lb A cap w hl hg).mono fun _ _ ⟨he, f⟩ => ⟨he, StoreTo.quiet hs f⟩⟩
  · obtain ⟨a, b, rfl⟩ := h2 hm
    obtain rfl := ha
    exact ⟨_, _, _, rfl, (fun _ _ => by kernel_rfl), goal_equal G F sb lb l st a b A cap w hl hlG hs hk⟩
  · obtain ⟨a, b, rfl⟩ := h2 hm
    obtain rfl := ha
    exact ⟨_, _, _, rfl, (fun _ _ => by kernel_rfl), goal_unequal G F sb lb l st a b A cap w hl hlG hs hk⟩
  · obtain ⟨a, b, rfl⟩ := h2 hm
    obtain ⟨g, h, rfl, hg', ho⟩ := ha
    exact ⟨_, _, _, rfl, (fun _ _ => by kernel_rfl), (goal_compare G F sb lb g h _ isZ (fun _ _ => by kernel_rfl) lit_3 l st a b A cap w hl hs hk hg' ho).mono fun _ _ ⟨he, f⟩ => ⟨he, (cmpT_st l st isZ a b).symm ▸ StoreTo.quiet hs f⟩⟩
  · obtain ⟨a, b, rfl⟩ := h2 hm
    obtain ⟨g, h, rfl, hg', ho⟩ := ha
    exact ⟨_, _, _, rfl, (fun _ _ => by kernel_rfl), (goal_compare G F sb lb g h _ isNZ (fun _ _ => by kernel_rfl) lit_4 l st a b A cap w hl hs hk hg' ho).mono fun _ _ ⟨he, f⟩ => ⟨he, (cmpT_st l st isNZ a b).symm ▸ StoreTo.quiet hs f⟩⟩
  · obtain ⟨a, b, rfl⟩ := h2 hm
    obtain ⟨g, h, rfl, hg', ho⟩ := ha
    exact ⟨_, _, _, rfl, (fun _ _ => by kernel_rfl), (goal_compare G F sb lb g h _ isNeg (fun _ _ => by kernel_rfl) lit_5 l st a b A cap w hl hs hk hg' ho).mono fun _ _ ⟨he, f⟩ => ⟨he, (cmpT_st l st isNeg a b).symm ▸ StoreTo.quiet hs f⟩⟩
  · obtain ⟨a, b, rfl⟩ := h2 hm
    obtain rfl := ha
    exact ⟨_, _, _, rfl, (fun _ _ => by kernel_rfl), goal_is G F sb lb l st a b A cap w hl hlG hs hk⟩
  · obtain ⟨a, rfl⟩ := h1 hm
    obtain ⟨g, h, rfl, hg', ho⟩ := ha
    exact ⟨_, _, _, rfl, (fun _ _ => by kernel_rfl), (goal_kind G F sb lb g h _ isVar (fun _ _ => by kernel_rfl) lit_6 l st a A cap w hl hs hk hg' ho).mono fun _ _ ⟨he, f⟩ => ⟨he, StoreTo.quiet hs f⟩⟩
  · obtain ⟨a, rfl⟩ := h1 hm
    obtain ⟨g, h, rfl, hg', ho⟩ := ha
    exact ⟨_, _, _, rfl, (fun _ _ => by kernel_rfl), (goal_kind G F sb lb g h _ isNonvar (fun _ _ => by kernel_rfl) lit_7 l st a A cap w hl hs hk hg' ho).mono fun _ _ ⟨he, f⟩ => ⟨he, StoreTo.quiet hs f⟩⟩
  · obtain ⟨a, rfl⟩ := h1 hm
    obtain ⟨g, h, rfl, hg', ho⟩ := ha
    exact ⟨_, _, _, rfl, (fun _ _ => by kernel_rfl), (goal_kind G F sb lb g h _ isAtom (fun _ _ => by kernel_rfl) lit_8 l st a A cap w hl hs hk hg' ho).mono fun _ _ ⟨he, f⟩ => ⟨he, StoreTo.quiet hs f⟩⟩
  · obtain ⟨a, rfl⟩ := h1 hm
    obtain ⟨g, h, rfl, hg', ho⟩ := ha
    exact ⟨_, _, _, rfl, (fun _ _ => by kernel_rfl), (goal_kind G F sb lb g h _ isInt (fun _ _ => by kernel_rfl) lit_9 l st a A cap w hl hs hk hg' ho).mono fun _ _ ⟨he, f⟩ => ⟨he, StoreTo.quiet hs f⟩⟩
  · obtain ⟨a, b, rfl⟩ := h2 hm
    obtain rfl := ha
    exact ⟨_, _, _, rfl, (fun _ _ => by kernel_rfl), goal_copied G F sb lb l st a b A cap w hl hlG hs hk⟩
  all_goals
    obtain ⟨a, b, rfl⟩ := h2 hm
    obtain ⟨g, h, rfl, hg', ho⟩ := ha
    exact ⟨_, _, _, rfl, (fun _ _ => by kernel_rfl), (goal_test G F sb lb g h _ l st a b A cap w hl hs hk hg' ho).mono fun _ _ ⟨he, f⟩ => ⟨he, (testT_st l st _ a b).symm ▸ StoreTo.quiet hs f⟩⟩
end Go.Proofs.Ytkiofaojokofbaa
namespace Go.Proofs.Ytkiofaojokofbaa
open Go.RowKit Go.Maps

def goalHit (name : ByteArray) (m : Int) (i : Nat) : Bool := decide ((goalTab.getD i default).1 = name) && decide ((goalTab.getD i default).2 = m)
/-- The number of a known goal. -/
def goalIdx (name : ByteArray) (m : Int) : Option Nat := (List.range 19).find? (goalHit name m)
theorem goalHit_iff {name : ByteArray} {m : Int} {i : Nat} : goalHit name m i = true ↔ keyV name m = goalKey i := by
  unfold goalHit goalKey
  simp only [Bool.and_eq_true, decide_eq_true_eq]
  constructor
  · rintro ⟨h1, h2⟩; rw [h1, h2]
  · intro h
    obtain ⟨h1, h2⟩ := keyV_inj h
    exact ⟨h1.symm, h2.symm⟩
theorem goalIdx_some {name : ByteArray} {m : Int} {i : Nat} (hi : i < 19) (h : keyV name m = goalKey i) : goalIdx name m = some i := by
  unfold goalIdx
  cases hf : (List.range 19).find? (goalHit name m) with
  | none =>
    rw [List.find?_eq_none] at hf
    exact absurd (goalHit_iff.2 h) (hf i (List.mem_range.2 hi))
  | some j =>
    have h1 := List.find?_some hf
    have h2 := List.mem_range.1 (List.mem_of_find?_eq_some hf)
    rw [goalKey_inj h2 hi ((goalHit_iff.1 h1).symm.trans h)]
theorem goalIdx_none {name : ByteArray} {m : Int} (h : ∀ i, i < 19 → keyV name m ≠ goalKey i) : goalIdx name m = none := by
  unfold goalIdx
  rw [List.find?_eq_none]
  exact fun i hi hh => h i (List.mem_range.1 hi) (goalHit_iff.1 hh)
theorem goalIdx_lt {name : ByteArray} {m : Int} {i : Nat} (h : goalIdx name m = some i) : i < 19 ∧ (goalTab.getD i default).2 = m := by
  unfold goalIdx at h
  have h1 := List.find?_some h
  refine ⟨List.mem_range.1 (List.mem_of_find?_eq_some h), ?_⟩
  unfold goalHit at h1
  simp only [Bool.and_eq_true, decide_eq_true_eq] at h1
  exact h1.2
/-- What a goal's call answers: is it known, does it hold, what is seen, an error; the store behind it. -/
noncomputable def callR (l : Lat) (st : PStore) (name : ByteArray) (ts : List Term) : Bool × Bool × Int × Int × PStore :=
  match goalIdx name ts.length with
  | some i => (true, goalT l st i ts)
  | none => (false, false, l.bottom, 0, st)

def CallMid (w : World) (sb lb : Nat) (name : ByteArray) (n : Nat) (x12 x13 : Value) (wx : World) : Prop :=
  ∃ gb, GoalsAt wx gb sb lb ∧ Frm [] w wx ∧ ((∃ i, i < 19 ∧ goalIdx name n = some i ∧ x13 = .bool true ∧ AskV wx gb sb lb i x12) ∨ (goalIdx name n = none ∧ x13 = .bool false))
theorem zero_func (w : World) : (zeroValue 50).run Try.prog w = .ok .nilFunc w := by kernel_rfl
theorem goal_look {w : World} {gb sb lb mb : Nat} {l : List (Value × Value)} (h : GoalsMap w gb sb lb mb (fun _ => True) l) (name : ByteArray) (m : Int) (hs : name.size ≤ 1048576) (hm : I64 m) :
    (∃ v i, i < 19 ∧ goalIdx name m = some i ∧ AskV w gb sb lb i v ∧ (Instr.lookup 52 (.map (some mb)) (.agg #[.string name, .int .i64 m]) true).run Try.prog w = .ok (.tuple #[v, .bool true]) w) ∨
      (goalIdx name m = none ∧ (Instr.lookup 52 (.map (some mb)) (.agg #[.string name, .int .i64 m]) true).run Try.prog w = .ok (.tuple #[.nilFunc, .bool false]) w) := by
  obtain ⟨lit, hlit⟩ := key_lit name m hs hm
  rcases h.1.look Try.keyedKey Try.underlying52 zero_func hlit with ⟨v, h1, h2, _⟩ | ⟨h1, h2, _⟩
  · obtain ⟨i, hi, _, hk, ha⟩ := h.2.1 _ h1
    exact .inl ⟨v, i, hi, goalIdx_some hi hk, ha, h2⟩
  · refine .inr ⟨goalIdx_none (fun i hi he => ?_), h2⟩
    obtain ⟨x, hx, hk⟩ := h.2.2 i hi trivial
    exact h1 x hx (hk.trans he.symm)

set_option maxRecDepth 100000 in
set_option maxHeartbeats 2000000 in
theorem built_Call (G F : List Nat) (sb lb : Nat) (l : Lat) (st : PStore) (name : ByteArray) (ts : List Term) (A : Option Addr) (cap : Nat) (w : World) (hl : LatAt w lb l) (hlG : lb ∉ G) (hs : StoreAt G F w sb st) (hk : KidsV F w ts A 0) (hn : name.size ≤ 1048576) (ht : ts.length ≤ 1048576) :
    Calls Try.prog 7 #[.pointer (some ⟨sb, 0, none⟩), .pointer (some ⟨lb, 0, none⟩), .string name, .slice A ts.length cap] w fun e w' =>
      e = .returned (.tuple #[.bool (callR l st name ts).1, .bool (callR l st name ts).2.1, .int .i64 (callR l st name ts).2.2.1, .int .i64 (callR l st name ts).2.2.2.1]) ∧ StoreTo G F w w' sb (callR l st name ts).2.2.2.2 := by
  have hF := hs.lt
  have hGF := hs.sub
  have HLK := Lib.hid (fun (w1 : World) gb mb lm h => @goal_look w1 gb sb lb mb lm h name ts.length hn (by unfold I64; omega))
  have HASK := Lib.hid (fun w1 gb i v hi h1 h2 h3 h4 h5 h6 => goal_ask G F sb lb gb l st i hi v ts A cap w1 h1 hlG h2 h3 h4 h5 h6)
  have HR : Hid (callR l st name ts = match goalIdx name ts.length with | some i => (true, goalT l st i ts) | none => (false, false, l.bottom, 0, st)) := rfl
  have HIDX := Lib.hid (fun i (h : goalIdx name ts.length = some i) => goalIdx_lt h)
  generalize callR l st name ts = R at *
  go_enter Try.func7, Try.ntmps7
  go_upto_region 1 with (fail)
  go_cut [12, 13] (fun x12 x13 wx => CallMid w sb lb name ts.length x12 x13 wx)
  case first =>
    go_wp2_with (go_at_call 20; refine (goals_all sb lb _).mono ?_; rintro e w1 ⟨⟨gb, mb, lm, rfl, gm, hgx⟩, F1⟩; rcases HLK.out _ _ _ _ gm with ⟨v, i, hi, hix, hask, hrun⟩ | ⟨hix, hrun⟩ <;> skip)
    · go_meet
      case rel => exact ⟨gb, hgx, F1, .inl ⟨i, hi, hix, rfl, hask⟩⟩
    · go_meet
      case rel => exact ⟨gb, hgx, F1, .inr ⟨hix, rfl⟩⟩
  case rest =>
    obtain ⟨gb, hgx, F1, ⟨i, hi, hix, rfl, hask⟩ | ⟨hix, rfl⟩⟩ := hcut
    · obtain ⟨f, b, c, rfl, eg, hcall⟩ := HASK.out wc gb i _ hi (hl.frm0 F1) (hs.keep F1) (hk.keep F1) hgx hask (HIDX.out i hix).2
      have HR2 : Hid (R = (true, goalT l st i ts)) := by show _ = _; rw [HR.out, hix]
      clear hix HR
      generalize goalT l st i ts = r at *
      obtain ⟨r1, r2, r3, st'⟩ := r
      go_upto_region 5 with ((refine hcall.mono ?_; rintro e w2 ⟨rfl, TO⟩; simp only [toldV]))
      obtain ⟨q0, q1, q2, q3, q4⟩ := blk3 (alloc_heap_new w2 (.cells #[.bool r1, .int .i64 r2, .int .i64 r3] 59))
      refine wp_region_U (fun w' => w'.cell? ⟨w2.heap.size, 0, none⟩ = some (.bool r1) ∧ w'.cell? ⟨w2.heap.size, 1, none⟩ = some (.int .i64 r2) ∧ w'.cell? ⟨w2.heap.size, 2, none⟩ = some (.int .i64 r3)) (fun i => Nat.blt i 10) (by kernel_rfl) ?rgnS1 (fun hHeld => ?rgnB1)
      case rgnS1 => (first | (dsimp only; go_keep) | go_keep)
      case' rgnB1 => skip
      refine Pend.start [0, 1, 2, 3, 4, 5, 6, 7, 8, 9] ?_
      iterate 10 (refine tk (v := ?_) rfl (by kernel_rfl) (by rfl) (fun _ _ _ h => h) (by assumption) ?_ ?_; rotate_left; (focus (intro wq hSw; (try dsimp only at hSw); go_simp; (first | done | with_reducible rfl))); try simp only [Act.put, List.setIfInBounds_toArray, List.set_cons_zero, List.set_cons_succ])
      refine Pend.done ?_
      refine wpAnyU_done (by kernel_rfl) ?_ _
      go_wp2
      refine bodyPost_ret (v := .tuple #[.bool true, .bool r1, .int .i64 r2, .int .i64 r3]) (by simp [results, Try.results7, go_sem]) rfl ?_
      rw [HR2.out]
      exact ⟨rfl, (StoreTo.after TO F1).before (by repeat (first | with_reducible (first | refine .alloc ?_ _ | refine .drewN ?_ _ | refine .drew ?_) | ((with_reducible refine .setCell ?_ ?_ _); rotate_left; focus (first | (left; simp; done) | (right; simp; (first | done | omega)))) | with_reducible (first | assumption | exact .refl _ _ | refine .trans0 ?_ ‹_›)))⟩
    · have HR2 : Hid (R = (false, false, l.bottom, 0, st)) := by show _ = _; rw [HR.out, hix]
      clear hix HR
      go_wp2_with (go_at_call 21; refine (lat_bottom l lb _ (hl.frm0 (F1.trans0 (by repeat (first | with_reducible (first | refine .alloc ?_ _ | refine .drewN ?_ _ | refine .drew ?_) | ((with_reducible refine .setCell ?_ ?_ _); rotate_left; focus (first | (left; simp; done) | (right; simp; (first | done | omega)))) | with_reducible (first | assumption | exact .refl _ _ | refine .trans0 ?_ ‹_›)))))).mono ?_; rintro e w' ⟨rfl, rfl⟩)
      refine bodyPost_ret (v := .tuple #[.bool false, .bool false, .int .i64 l.bottom, .int .i64 0]) (by simp [results, Try.results7, go_sem]) rfl ?_
      rw [HR2.out]
      exact ⟨rfl, StoreTo.quiet hs F1⟩
end Go.Proofs.Ytkiofaojokofbaa
namespace Go.Proofs.Ytkiofaojokofbaa
open Go.RowKit

theorem Lat.meetBest_succ (l : Lat) (a c : Int) (k : Nat) : l.meetBest a c (k + 1) = l.meetStep a c (l.meetBest a c k) k := by
  simp [Lat.meetBest, List.range_succ]

theorem lat_meet (l : Lat) (b : Nat) (a c : Int) (w : World) (hl : LatAt w b l) :
    Calls Try.prog 48 #[.pointer (some ⟨b,0,none⟩), .int .i64 a, .int .i64 c] w fun e w' => e = .returned (.int .i64 (l.meet a c)) ∧ w = w' := by
  have h16 := hl.wf.n16
  have hcn := hl.n_cell
  cases h1 : l.is a
  · go_enter Try.func48, Try.ntmps48
    go_wp2_with (go_at_call 45; refine (lat_is l b _ _ hl).mono ?_; rintro e w' ⟨rfl, rfl⟩)
    go_ret
    simp [Lat.meet, h1]
  · cases h2 : l.is c
    · go_enter Try.func48, Try.ntmps48
      go_wp2_with (go_at_call 45; refine (lat_is l b _ _ hl).mono ?_; rintro e w' ⟨rfl, rfl⟩)
      go_ret
      simp [Lat.meet, h1, h2]
    · go_enter Try.func48, Try.ntmps48
      go_wp2_with (go_at_call 45; refine (lat_is l b _ _ hl).mono ?_; rintro e w' ⟨rfl, rfl⟩)
      go_loop [7, 8, 24] (fun best _ i => ∃ k : Nat, k ≤ l.n ∧ i = .int .i64 k ∧ best = .int .i64 (l.meetBest a c k)) (fun _ _ i => l.n - (intOf i).toNat)
      case atStart => exact ⟨0, Nat.zero_le _, rfl, rfl⟩
      case round =>
        obtain ⟨k, hk, rfl, rfl⟩ := hrel
        by_cases hlt : k < l.n
        · have H := Lib.hid (Lat.meetBest_succ l a c k)
          generalize l.meetBest a c k = best at *
          have HB : Hid (l.meetStep a c best k = if l.leq k a && l.leq k c && (best == -1 || l.leq best k) then (k : Int) else best) := rfl
          cases q1 : l.leq k a <;> cases q2 : l.leq k c <;> cases q3 : (best == -1) <;> cases q4 : l.leq best k
          all_goals
            go_wp2_with (go_at_call 44; refine (lat_leq l b _ _ _ hl).mono ?_; rintro e w' ⟨rfl, rfl⟩)
            go_round
            case rel => exact ⟨k + 1, by omega, by go_num, by rw [H.out, HB.out, q1, q2, q3, q4]; rfl⟩
            case measure => simp [intOf]; omega
        · have : k = l.n := by omega
          subst this
          have HM : Hid (l.meet a c = if (List.range l.n).any (l.meetOff a c (l.meetBest a c l.n)) then -1 else l.meetBest a c l.n) := by
            show _ = _
            simp [Lat.meet, h1, h2]
          generalize l.meetBest a c l.n = best at *
          go_wp2
          go_loop [9, 53] (fun _ i => ∃ k : Nat, k ≤ l.n ∧ i = .int .i64 k ∧ ∀ j, j < k → l.meetOff a c best j = false) (fun _ i => l.n - (intOf i).toNat)
          case atStart => exact ⟨0, Nat.zero_le _, rfl, fun j hj => by omega⟩
          case round =>
            obtain ⟨k, hk, rfl, hall⟩ := hrel
            have HA := Lib.hid hall
            clear hall
            by_cases hlt : k < l.n
            · have HB : Hid (l.meetOff a c best k = (l.leq k a && l.leq k c && !l.leq k best)) := rfl
              cases q1 : l.leq k a <;> cases q2 : l.leq k c <;> cases q3 : l.leq k best
              all_goals
                go_wp2_with (go_at_call 44; refine (lat_leq l b _ _ _ hl).mono ?_; rintro e w' ⟨rfl, rfl⟩)
                first
                  | (go_round
                     case rel =>
                       refine ⟨k + 1, by omega, by go_num, fun j hj => ?_⟩
                       by_cases hjk : j = k
                       · rw [hjk, HB.out, q1, q2, q3]; rfl
                       · exact HA.out j (by omega)
                     case measure => simp [intOf]; omega)
                  | (go_ret
                     refine ⟨?_, rfl⟩
                     rw [HM.out, if_pos]
                     · rfl
                     · rw [List.any_eq_true]
                       exact ⟨k, List.mem_range.2 hlt, by rw [HB.out, q1, q2, q3]; rfl⟩)
            · have : k = l.n := by omega
              subst this
              go_wp2
              go_ret
              refine ⟨?_, rfl⟩
              rw [HM.out, if_neg]
              · rfl
              · rw [Bool.not_eq_true, List.any_eq_false]
                intro j hj
                rw [HA.out j (List.mem_range.1 hj)]
                simp

/-- How far the rows are from full: each filling lowers it. -/
def Lat.room (l : Lat) : Nat := (l.up.map fun x => 18446744073709551616 - x).sum

theorem or_lt64 {x y : Nat} (hx : x < 18446744073709551616) (hy : y < 18446744073709551616) : x ||| y < 18446744073709551616 :=
  Nat.or_lt_two_pow (n := 64) hx hy

theorem sum_set_lt : ∀ (xs : List Nat) (a v : Nat), a < xs.length → v < 18446744073709551616 → xs.getD a 0 < v →
    ((xs.set a v).map fun x => 18446744073709551616 - x).sum < (xs.map fun x => 18446744073709551616 - x).sum
  | [], _, _, h, _, _ => by simp at h
  | x :: xs, 0, v, _, hv, hlt => by simp at hlt ⊢; omega
  | x :: xs, a + 1, v, h, hv, hlt => by
    have := sum_set_lt xs a v (by simpa using h) hv (by simpa using hlt)
    simpa using this

theorem Lat.fill_wf {l : Lat} (h : l.WF) (a b : Nat) : (l.fill a b).WF := by
  refine ⟨h.n16, by simp [Lat.fill, h.len], fun x hx => ?_⟩
  rcases List.mem_or_eq_of_mem_set hx with hx | rfl
  · exact h.rng x hx
  · exact or_lt64 (Lat.getD_lt h a) (Lat.getD_lt h b)

theorem Lat.fill_room {l : Lat} (h : l.WF) (a b : Nat) (ha : a < 16) (hl : l.lacks a b = true) : (l.fill a b).room < l.room := by
  have h1 : (l.up.getD a 0 ||| l.up.getD b 0) ≠ l.up.getD a 0 := by
    simp only [Lat.lacks, Bool.and_eq_true, bne_iff_ne, ne_eq] at hl
    exact hl.2
  have h2 : l.up.getD a 0 ≤ (l.up.getD a 0 ||| l.up.getD b 0) := Nat.left_le_or
  exact sum_set_lt _ _ _ (by rw [h.len]; exact ha) (or_lt64 (Lat.getD_lt h a) (Lat.getD_lt h b)) (by omega)

theorem Lat.fill_cells (l : Lat) (a b : Nat) : (l.fill a b).cells = l.cells.setIfInBounds (1 + a) (.int .u64 ((l.up.getD a 0 ||| l.up.getD b 0 : Nat) : Int)) := by
  apply Array.ext'
  simp [Lat.cells, Lat.fill, show 1 + a = a + 1 by omega, List.map_set]

end Go.Proofs.Ytkiofaojokofbaa
namespace Go.Proofs.Ytkiofaojokofbaa
open Go.RowKit

def CloseJ (W : World) (b : Nat) (l : Lat) (a' : Act) (w' : World) : Prop :=
  ∃ (l1 : Lat) (u1 u2 u3 u4 u5 u6 u7 u8 u9 u10 u11 u12 u13 u14 u15 u16 u17 u18 u19 u20 u21 u22 u23 u24 u25 u26 u27 u28 u29 u30 u31 u32 u33 u34 u35 u36 u37 u38 u39 u40 u41 u42 u43 u44 u45 u46 u47 u48 u49 u50 u51 u52 u53 u54 u55 u56 u57 u58 u59 u60 : Value), a' = { tmps := #[.pointer (some ⟨b, 0, none⟩), u1, u2, u3, u4, u5, u6, u7, u8, u9, u10, u11, u12, u13, u14, u15, u16, u17, u18, u19, u20, u21, u22, u23, u24, u25, u26, u27, u28, u29, u30, u31, u32, u33, u34, u35, u36, u37, u38, u39, u40, u41, u42, u43, u44, u45, u46, u47, u48, u49, u50, u51, u52, u53, u54, u55, u56, u57, u58, u59, u60], defers := [] } ∧ LatAt w' b l1 ∧ Frm [b] W w' ∧ ∀ l2, Lat.Closes l1 l2 → Lat.Closes l l2

def roomAt (b : Nat) (w : World) : Nat := (((List.range 16).map fun i => match w.cell? ⟨b, 1 + i, none⟩ with | some (.int _ n) => 18446744073709551616 - n.toNat | _ => 0)).sum

theorem roomAt_eq {b : Nat} {w : World} {l : Lat} (h : LatAt w b l) : roomAt b w = l.room := by
  have hl := h.wf.len
  have h1 : ((List.range 16).map fun i => match w.cell? ⟨b, 1 + i, none⟩ with | some (.int _ n) => 18446744073709551616 - n.toNat | _ => 0) = l.up.map fun x => 18446744073709551616 - x := by
    apply List.ext_getElem
    · simp [hl]
    · intro i h1 h2
      simp only [List.getElem_map, List.getElem_range]
      have hi : i < 16 := by simpa using h1
      rw [h.up_cell i hi]
      simp [List.getElem?_eq_getElem (show i < l.up.length by omega)]
  unfold roomAt Lat.room
  rw [h1]

theorem LatAt.fill {w : World} {b : Nat} {l : Lat} (h : LatAt w b l) (i j : Nat) (v : Int) (hv : v = ((l.up.getD i 0 ||| l.up.getD j 0 : Nat) : Int)) :
    LatAt (w.setCell ⟨b, 1 + i, none⟩ (.int .u64 v)) b (l.fill i j) :=
  ⟨Lat.fill_wf h.wf i j, by rw [heap_setCell_at h.blk, Lat.fill_cells, hv]⟩

theorem bits_or_row {l : Lat} (h : l.WF) (i j : Nat) : bits .or .u64 (l.up.getD i 0 : Nat) (l.up.getD j 0 : Nat) = ((l.up.getD i 0 ||| l.up.getD j 0 : Nat) : Int) :=
  u64_or_nat _ _ (Lat.getD_lt h i) (Lat.getD_lt h j)

theorem wp_scope_label {P : Program} {X : Code} {Q : Exit → Act → World → Prop} {a : Act} {w : World} (l : Nat) (J : Act → World → Prop) (μ : Act → World → Nat) (h0 : J a w)
    (pass : ∀ a w, J a w → X.wp P (Exit.jump l (fun a' w' => J a' w' ∧ μ a' w' < μ a w) Q) a w) : (Code.scope (.seq (.label l) X)).wp P Q a w := by
  refine wp_scope_jumps l J μ (rest := .seq .skip X) (by simp [findLabel]) (wp_seq (wp_label ?_)) (fun a w hJ => wp_seq (wp_skip (pass a w hJ)))
  refine wp_mono (pass a w h0) ?_
  intro e a' w' h
  cases e <;> first | exact h | exact ⟨h.1, h.2.1⟩

set_option maxHeartbeats 1000000 in
theorem lat_close (l : Lat) (b : Nat) (w : World) (hl : LatAt w b l) :
    Calls Try.prog 46 #[.pointer (some ⟨b,0,none⟩)] w fun e w' => e = .returned (.tuple #[]) ∧ ∃ l', Lat.Closes l l' ∧ LatAt w' b l' ∧ Frm [b] w w' := by
  go_enter Try.func46, Try.ntmps46
  go_wp2
  refine wp_scope_label 0 (CloseJ w b l) (fun _ w' => roomAt b w') ⟨l, _, _, _, _, _, _, _, _, _, _, _, _, _, _, _, _, _, _, _, _, _, _, _, _, _, _, _, _, _, _, _, _, _, _, _, _, _, _, _, _, _, _, _, _, _, _, _, _, _, _, _, _, _, _, _, _, _, _, _, _, rfl, hl, Frm.refl _ _, fun _ h => h⟩ ?_
  rintro a1 w1 ⟨l1, u1, u2, u3, u4, u5, u6, u7, u8, u9, u10, u11, u12, u13, u14, u15, u16, u17, u18, u19, u20, u21, u22, u23, u24, u25, u26, u27, u28, u29, u30, u31, u32, u33, u34, u35, u36, u37, u38, u39, u40, u41, u42, u43, u44, u45, u46, u47, u48, u49, u50, u51, u52, u53, u54, u55, u56, u57, u58, u59, u60, rfl, hl1, F1, H1'⟩
  have H1 := Lib.hid H1'
  clear H1'
  have hcn := hl1.n_cell
  have h16 := hl1.wf.n16
  go_wp2
  go_loopw [9] (fun i wr => ∃ k : Nat, k ≤ l1.n ∧ i = .int .i64 k ∧ Drew w1 wr ∧ l1.lackRow l1.n 0 = l1.lackRow (l1.n - k) k) (fun i _ => l1.n - (intOf i).toNat)
  case atStart => exact ⟨0, Nat.zero_le _, rfl, Drew.refl _, rfl⟩
  case round =>
    obtain ⟨k, hk, rfl, ⟨n1, rfl⟩, hall⟩ := hrel
    have HA := Lib.hid hall
    clear hall
    by_cases hlt : k < l1.n
    · have hup := hl1.up_cell k (by omega)
      have HR : Hid (l1.lackRow (l1.n - k) k = match l1.lackFrom k l1.n 0 with | some b => some (k, b) | none => l1.lackRow (l1.n - (k + 1)) (k + 1)) := by
        rw [show l1.n - k = (l1.n - (k + 1)) + 1 by omega]; rfl
      go_wp2
      go_loopw [16] (fun i wr => ∃ j : Nat, j ≤ l1.n ∧ i = .int .i64 j ∧ Drew w1 wr ∧ l1.lackFrom k l1.n 0 = l1.lackFrom k (l1.n - j) j) (fun i _ => l1.n - (intOf i).toNat)
      case atStart => exact ⟨0, Nat.zero_le _, rfl, ⟨n1, rfl⟩, rfl⟩
      case round =>
        obtain ⟨j, hj, rfl, ⟨n2, rfl⟩, hallj⟩ := hrel
        have HB := Lib.hid hallj
        clear hallj
        by_cases hltj : j < l1.n
        · have hupj := hl1.up_cell j (by omega)
          have hfz := hl1.free (1 + k)
          have HS : Hid (l1.lackFrom k (l1.n - j) j = if l1.lacks k j then some j else l1.lackFrom k (l1.n - (j + 1)) (j + 1)) := by
            rw [show l1.n - j = (l1.n - (j + 1)) + 1 by omega]; rfl
          have hor := bits_or_row hl1.wf k j
          have hbit := bit_test (l1.up.getD k 0) j (Lat.getD_lt hl1.wf k)
          have HL : Hid (l1.lacks k j = ((l1.up.getD k 0).testBit j && (l1.up.getD k 0 ||| l1.up.getD j 0) != l1.up.getD k 0)) := rfl
          have HF := Lib.hid (LatAt.fill hl1 k j)
          generalize l1.up.getD k 0 = rk at *
          generalize l1.up.getD j 0 = rj at *
          go_wp2
          go_quiet (fail)
          have hbe : (((rk ||| rj : Nat) : Int) != (rk : Int)) = ((rk ||| rj) != rk) := by
            rw [Bool.eq_iff_iff]; simp only [bne_iff_ne, ne_eq]; omega
          have HBE := Lib.hid hbe
          clear hbe
          go_wp2
          · rename_i t1 t2
            go_step3
            have hl2 := HB.out.trans (HS.out.trans (if_pos (HL.out.trans (by rw [t1, ← HBE.out, t2]; rfl))))
            have hl3 : l1.lackRow l1.n 0 = some (k, j) := by rw [HA.out, HR.out, hl2]
            refine ⟨rfl, ⟨l1.fill k j, _, _, _, _, _, _, _, _, _, _, _, _, _, _, _, _, _, _, _, _, _, _, _, _, _, _, _, _, _, _, _, _, _, _, _, _, _, _, _, _, _, _, _, _, _, _, _, _, _, _, _, _, _, _, _, _, _, _, _, _, rfl, (HF.out _ rfl).drew ⟨n2 + nq, rfl⟩, ?_, ?_⟩, ?_⟩
            · exact (F1.setCell (p := ⟨b, 1 + k, none⟩) (.inl (by simp)) _).drewN _
            · intro l2 hc
              exact H1.out _ (.step hl3 hc)
            · show roomAt b ((w1.setCell _ _).drewN _) < roomAt b w1
              rw [roomAt_eq hl1, roomAt_eq ((HF.out _ rfl).drew ⟨n2 + nq, rfl⟩)]
              exact Lat.fill_room hl1.wf k j (by omega) (HL.out.trans (by rw [t1, ← HBE.out, t2]; rfl))
          · rename_i t1 t2
            go_roundw
            case rel =>
              refine ⟨j + 1, by omega, by go_num, ⟨_, rfl⟩, ?_⟩
              rw [HB.out, HS.out, if_neg]
              rw [HL.out, t1, ← HBE.out, t2]; simp
            case measure => simp [intOf]; omega
          · rename_i t1
            go_roundw
            case rel =>
              refine ⟨j + 1, by omega, by go_num, ⟨_, rfl⟩, ?_⟩
              rw [HB.out, HS.out, if_neg]
              rw [HL.out]
              simp [t1]
            case measure => simp [intOf]; omega
        · have : j = l1.n := by omega
          subst this
          go_wp2
          go_roundw
          case rel =>
            refine ⟨k + 1, by omega, by go_num, ⟨_, rfl⟩, ?_⟩
            rw [HA.out, HR.out, HB.out]
            simp [Lat.lackFrom]
          case measure => simp [intOf]; omega
    · have : k = l1.n := by omega
      subst this
      go_wp2
      simp only [Exit.jump]
      go_end0
      exact ⟨rfl, l1, H1.out _ (.done (by rw [HA.out]; simp [Lat.lackRow])), hl1.drew ⟨_, rfl⟩, F1.drewN _⟩
end Go.Proofs.Ytkiofaojokofbaa
namespace Go.Proofs.Ytkiofaojokofbaa
open Go.RowKit

/-- The slice's elements read as these pairs. -/
def PairsAt (w : World) (A : Option Addr) (ps : List (Int × Int)) : Prop :=
  ∀ i p, ps[i]? = some p → ∃ b off, A = some ⟨b, off, none⟩ ∧ w.cell? ⟨b, off + i * 2, none⟩ = some (.int .i64 p.1) ∧ w.cell? ⟨b, off + i * 2 + 1, none⟩ = some (.int .i64 p.2)
theorem PairsAt.frm {w w' : World} {A : Option Addr} {ps : List (Int × Int)} (h : PairsAt w A ps) (f : Frm [] w w') : PairsAt w' A ps := by
  intro i p hi
  obtain ⟨b, off, rfl, h1, h2⟩ := h i p hi
  have hb := World.block_lt_of_cell? w _ h1
  exact ⟨b, off, rfl, (f.cell hb (by simp)).trans h1, (f.cell hb (by simp)).trans h2⟩

theorem lat_new_range (n : Int) (v : Value) (w : World) (h : n < 1 ∨ 16 < n) :
    Calls Try.prog 22 #[.int .i64 n, v] w fun e w' => e = .returned (.tuple #[.pointer none, .int .i64 1]) ∧ Frm [] w w' := by
  by_cases h1 : n < 1
  · go_enter Try.func22, Try.ntmps22
    go_wp2
    go_ret2
    exact ⟨rfl, Frm.refl _ _⟩
  · have h2 : 16 < n := by omega
    go_enter Try.func22, Try.ntmps22
    go_wp2
    go_ret2
    exact ⟨rfl, Frm.refl _ _⟩

theorem Lat.set_cells (l : Lat) (i x : Nat) : ({ l with up := l.up.set i x } : Lat).cells = l.cells.setIfInBounds (1 + i) (.int .u64 (x : Int)) := by
  apply Array.ext'
  simp [Lat.cells, show 1 + i = i + 1 by omega, List.map_set]
theorem LatAt.set_ {w : World} {b : Nat} {l : Lat} (h : LatAt w b l) (i x : Nat) (v : Int) (hv : v = x) (hx : x < 18446744073709551616) :
    LatAt (w.setCell ⟨b, 1 + i, none⟩ (.int .u64 v)) b { l with up := l.up.set i x } :=
  ⟨⟨h.wf.n16, by simp [h.wf.len], fun y hy => by
    rcases List.mem_or_eq_of_mem_set hy with hy | rfl
    · exact h.wf.rng y hy
    · exact hx⟩, by rw [heap_setCell_at h.blk, Lat.set_cells, hv]⟩
theorem Lat.startTo_succ (n k : Nat) : Lat.startTo n (k + 1) = { Lat.startTo n k with up := (Lat.startTo n k).up.set k (2 ^ k) } := by
  simp only [Lat.startTo, Lat.mk.injEq, true_and]
  apply List.ext_getElem
  · simp
  · intro i h1 h2
    simp only [List.length_map, List.length_range] at h1
    simp only [List.getElem_map, List.getElem_range, List.getElem_set]
    by_cases hik : k = i
    · subst hik; simp
    · simp only [hik, if_false]
      by_cases hlt : i < k
      · simp [hlt, show i < k + 1 by omega]
      · simp [hlt, show ¬ i < k + 1 by omega]
theorem pow_lt64 {k : Nat} (h : k < 16) : 2 ^ k < 18446744073709551616 := Nat.lt_of_lt_of_le (Nat.pow_lt_pow_right (by omega) h) (by decide)

theorem Lat.Closes.n_eq {l l' : Lat} (h : Lat.Closes l l') : l'.n = l.n := by
  induction h with
  | done _ => rfl
  | step _ _ ih => exact ih

theorem wrap_pow {k : Nat} (h : k < 16) : IntKind.u64.wrap ((2 : Int) ^ k) = ((2 ^ k : Nat) : Int) := by
  have := pow_lt64 h
  rw [show ((2 : Int) ^ k) = ((2 ^ k : Nat) : Int) by simp]
  generalize 2 ^ k = q at *
  simp only [IntKind.wrap, IntKind.bits, IntKind.signed]
  simp
  omega

set_option maxHeartbeats 1000000 in
theorem lat_new (n : Nat) (A : Option Addr) (cap : Nat) (ps : List (Int × Int)) (w : World) (h1 : 1 ≤ n) (h16 : n ≤ 16) (hp : PairsAt w A ps) (hlen : ps.length ≤ 9223372036854775807) :
    Calls Try.prog 22 #[.int .i64 n, .slice A ps.length cap] w fun e w' => ∃ r, Lat.Made n ps r ∧ Frm [] w w' ∧
      match r with
      | .error c => e = .returned (.tuple #[.pointer none, .int .i64 c])
      | .ok l => ∃ b, w.heap.size ≤ b ∧ LatAt w' b l ∧ e = .returned (.tuple #[.pointer (some ⟨b, 0, none⟩), .int .i64 0]) := by
  go_enter Try.func22, Try.ntmps22
  go_wp2
  go_loopw [22] (fun i wr => ∃ k : Nat, k ≤ n ∧ i = .int .i64 k ∧ Frm [] w wr ∧ LatAt wr w.heap.size (Lat.startTo n k)) (fun i _ => n - (intOf i).toNat)
  case atStart =>
    refine ⟨0, Nat.zero_le _, rfl, (Frm.refl _ _).alloc _, ⟨⟨h16, by simp [Lat.startTo], fun x hx => ?_⟩, ?_⟩⟩
    · simp [Lat.startTo] at hx; omega
    · rw [alloc_heap_new]; rfl
  case round =>
    obtain ⟨k, hk, rfl, hF, hL⟩ := hrel
    have hfz := hL.free (1 + k)
    by_cases hlt : k < n
    · have hup := hL.up_cell k (by omega)
      have hpw := wrap_pow (k := k) (by omega)
      have HS := Lib.hid (Lat.startTo_succ n k)
      have HP := Lib.hid hpw
      clear hpw
      go_wp2
      go_roundw
      case rel =>
        refine ⟨k + 1, by omega, by go_num, ?_, ?_⟩
        · exact hF.setCell (.inr (Nat.le_refl _)) _
        · rw [HS.out]
          exact hL.set_ k (2 ^ k) _ HP.out (pow_lt64 (by omega))
      case measure => simp [intOf]; omega
    · have : k = n := by omega
      subst this
      go_wp2
      have HO := Lib.hid hp
      clear hp
      go_loopw [36] (fun i wr => ∃ j : Nat, j ≤ ps.length ∧ i = .int .i64 j ∧ Frm [] w wr ∧ ∃ l, LatAt wr w.heap.size l ∧ l.n = k ∧ Lat.pairs ps (Lat.startTo k k) = Lat.pairs (ps.drop j) l) (fun i _ => ps.length - (intOf i).toNat)
      case atStart => exact ⟨0, Nat.zero_le _, rfl, hF, _, hL, rfl, rfl⟩
      case round =>
        obtain ⟨j, hj, rfl, hF2, l, hl, hln, hpp⟩ := hrel
        have HPP := Lib.hid hpp
        have HLN := Lib.hid hln
        clear hpp hln
        by_cases hltj : j < ps.length
        · obtain ⟨ab, hab⟩ : ∃ ab, ps[j]? = some ab := ⟨_, List.getElem?_eq_getElem hltj⟩
          obtain ⟨pb, po, hA, hc1, hc2⟩ := HO.out.frm hF2 j ab hab
          have HAB := Lib.hid hab
          clear hab
          subst hA
          obtain ⟨x, y⟩ := ab
          simp only at hc1 hc2
          have hl2 := hl.keep (w' := wr.alloc (.cells #[.int .i64 x, .int .i64 y] 82 (0, 0))) (Below.heap_alloc _ _ _ hl.lt)
          have HD : Hid (ps.drop j = (x, y) :: ps.drop (j + 1)) := by
            show _ = _
            rw [List.drop_eq_getElem_cons hltj]
            rw [List.getElem?_eq_getElem hltj] at HAB
            rw [Option.some.inj HAB.out]
          have HN : l.pair (x, y) = none → Lat.pairs ps (Lat.startTo k k) = none := by
            intro h
            rw [HPP.out, HD.out]
            simp [Lat.pairs, h]
          have HM : Hid (l.pair (x, y) = none → Lat.Made (k : Int) ps (.error 1)) := fun h => .level (by omega) (by simpa using HN h)
          clear HN
          cases hx : l.is x
          · go_wp2_with (go_at_call 45; refine (lat_is l _ _ _ hl2).mono ?_; rintro e w' ⟨rfl, rfl⟩)
            go_ret2
            exact ⟨.error 1, HM.out (by simp [Lat.pair, hx]), hF2.alloc _, rfl⟩
          · cases hy : l.is y
            · go_wp2_with (go_at_call 45; refine (lat_is l _ _ _ hl2).mono ?_; rintro e w' ⟨rfl, rfl⟩)
              go_ret2
              exact ⟨.error 1, HM.out (by simp [Lat.pair, hx, hy]), hF2.alloc _, rfl⟩
            · clear HM
              have hx' : 0 ≤ x ∧ x < l.n := by simpa [Lat.is] using hx
              have hy' : 0 ≤ y ∧ y < l.n := by simpa [Lat.is] using hy
              obtain ⟨hx1, hx2⟩ := hx'
              obtain ⟨hy1, hy2⟩ := hy'
              have hn16 := hl.wf.n16
              have hx3 : x < 16 := by omega
              have hy3 : y < 64 := by omega
              have hup := hl.up_cell x.toNat (by omega)
              have hfz2 := hl.free (1 + x.toNat)
              have hb1 := hl.lt
              go_wp2_with (go_at_call 45; refine (lat_is l _ _ _ hl2).mono ?_; rintro e w' ⟨rfl, rfl⟩)
              go_region
              go_wp2
              go_roundw
              case rel =>
                refine ⟨j + 1, by omega, by go_num, ((hF2.setCell (p := ⟨w.heap.size, 1 + x.toNat, none⟩) (.inr (Nat.le_refl _)) _).alloc _).drew, { l with up := l.up.set x.toNat (l.row x ||| 2 ^ y.toNat) }, ?_, HLN.out, ?_⟩
                · refine LatAt.keep (w := wr.setCell ⟨w.heap.size, 1 + x.toNat, none⟩ (.int .u64 (bits .or .u64 (↑(l.up[x.toNat]?.getD 0)) (IntKind.u64.wrap (2 ^ y.toNat))))) (hl.set_ x.toNat (l.row x ||| 2 ^ y.toNat) _ ?_ ?_) ?_
                  · have hq := wrap_pow (k := y.toNat) (by omega)
                    rw [hq, u64_or_nat]
                    · simp [Lat.row]
                    · have := Lat.getD_lt hl.wf x.toNat
                      simpa using this
                    · exact pow_lt64 (by omega)
                  · exact or_lt64 (Lat.row_lt hl.wf x) (pow_lt64 (by omega))
                  · exact Below.heap_alloc _ _ _ (by simpa [World.setCell] using hl.lt)
                · rw [HPP.out, HD.out]
                  simp [Lat.pairs, Lat.pair, hx, hy]
              case measure => simp [intOf]; omega
        · have : j = ps.length := by omega
          subst this
          clear HO
          have HPS : Hid (Lat.pairs ps (Lat.startTo k k) = some l) := by
            show _ = _
            rw [HPP.out]; simp [Lat.pairs]
          have hln : l.n = k := HLN.out
          clear HPP HLN
          subst hln
          go_wp2_with (go_at_call 46; refine (lat_close l _ _ hl).mono ?_; rintro e w3 ⟨rfl, l2, HC, hl3, F3⟩)
          have hn2 := Lat.Closes.n_eq HC
          have F4 : Frm [] w w3 := hF2.trans F3 (fun x hx => by simp at hx; omega)
          have h16' := hl3.wf.n16
          have HMade : ∀ r, (r = .error 4 → l2.good = false) → (r = .ok l2 → l2.good = true) → (r = .error 4 ∨ r = .ok l2) → Lat.Made (l.n : Int) ps r := by
            intro r g1 g2 hr
            have hps : Lat.pairs ps (Lat.startTo (l.n : Int).toNat (l.n : Int).toNat) = some l := by simpa using HPS.out
            rcases hr with rfl | rfl
            · exact .form (by omega) hps HC (g1 rfl)
            · exact .ok (by omega) hps HC (g2 rfl)
          have HMade' := Lib.hid HMade
          have HN2 := Lib.hid hn2
          clear HMade hl hF2 HPS F3 HC hn2
          go_loopw [71] (fun i wr => ∃ a : Nat, a ≤ l.n ∧ i = .int .i64 a ∧ Drew w3 wr ∧ ∀ x, x < a → ∀ y, y < l.n → l2.bad x y = false) (fun i _ => l.n - (intOf i).toNat)
          case atStart => exact ⟨0, Nat.zero_le _, rfl, Drew.refl _, fun x hx => by omega⟩
          case round =>
            obtain ⟨a, ha, rfl, ⟨d1, rfl⟩, hall⟩ := hrel
            have HALL := Lib.hid hall
            clear hall
            by_cases hlta : a < l.n
            · go_wp2
              go_loopw [75] (fun i wr => ∃ b : Nat, b ≤ l.n ∧ i = .int .i64 b ∧ Drew w3 wr ∧ ∀ y, y < b → l2.bad a y = false) (fun i _ => l.n - (intOf i).toNat)
              case atStart => exact ⟨0, Nat.zero_le _, rfl, ⟨_, rfl⟩, fun x hx => by omega⟩
              case round =>
                obtain ⟨b, hb, rfl, ⟨d2, rfl⟩, hallb⟩ := hrel
                have HALLB := Lib.hid hallb
                clear hallb
                by_cases hltb : b < l.n
                · have HB : Hid (l2.bad a b = ((((a : Int) != (b : Int)) && l2.leq a b && l2.leq b a) || l2.join a b == -1 || l2.meet a b == -1)) := by
                    have : ((a : Int) != (b : Int)) = (a != b) := by
                      rw [Bool.eq_iff_iff]; simp only [bne_iff_ne, ne_eq]; omega
                    rw [this]; rfl
                  have hlA : ∀ d, LatAt (w3.drewN d) w.heap.size l2 := fun d => hl3.drew ⟨d, rfl⟩
                  cases q0 : ((a : Int) != (b : Int)) <;> cases q1 : l2.leq a b <;> cases q2 : l2.leq b a <;> cases q3 : (l2.join a b == -1) <;> cases q4 : (l2.meet a b == -1)
                  all_goals
                    go_wp2_with (first | (go_at_call 44; refine (lat_leq l2 _ _ _ _ (hlA _)).mono ?_; rintro e w' ⟨rfl, rfl⟩) | (go_at_call 47; refine (lat_join l2 _ _ _ _ (hlA _)).mono ?_; rintro e w' ⟨rfl, ⟨d5, rfl⟩⟩) | (go_at_call 48; refine (lat_meet l2 _ _ _ _ (hlA _)).mono ?_; rintro e w' ⟨rfl, rfl⟩))
                    first
                      | (go_roundw
                         case rel =>
                           refine ⟨b + 1, by omega, by go_num, ⟨_, rfl⟩, fun y hy => ?_⟩
                           by_cases hyb : y = b
                           · rw [hyb, HB.out, q0, q1, q2, q3, q4]; rfl
                           · exact HALLB.out y (by omega)
                         case measure => simp [intOf]; omega)
                      | (go_ret2
                         refine ⟨.error 4, HMade'.out _ (fun _ => ?_) (fun h => by cases h) (.inl rfl), F4.drewN _, rfl⟩
                         simp only [Lat.good, List.all_eq_false]
                         refine ⟨a, List.mem_range.2 (by rw [HN2.out]; exact hlta), ?_⟩
                         simp only [Bool.not_eq_true, List.all_eq_false]
                         refine ⟨b, List.mem_range.2 (by rw [HN2.out]; exact hltb), ?_⟩
                         rw [HB.out, q0, q1, q2, q3, q4]; rfl)
                · have : b = l.n := by omega
                  subst this
                  go_wp2
                  go_roundw
                  case rel =>
                    refine ⟨a + 1, by omega, by go_num, ⟨_, rfl⟩, fun x hx => ?_⟩
                    by_cases hxa : x = a
                    · rw [hxa]; exact HALLB.out
                    · exact HALL.out x (by omega)
                  case measure => simp [intOf]; omega
            · have : a = l.n := by omega
              subst this
              go_wp2
              go_ret2
              refine ⟨.ok l2, HMade'.out _ (fun h => by cases h) (fun _ => ?_) (.inr rfl), F4.drewN _, _, Nat.le_refl _, hl3.drew ⟨_, rfl⟩, rfl⟩
              simp only [Lat.good, List.all_eq_true, List.mem_range, HN2.out, Bool.not_eq_eq_eq_not, Bool.not_true]
              exact HALL.out

end Go.Proofs.Ytkiofaojokofbaa
namespace Go.Proofs.Ytkiofaojokofbaa
open Go.RowKit

theorem Try.infoPair : (Try.prog.info? 82).map (fun i => (i.zero, i.size, i.bytes)) = some (some (.agg #[.int .i64 0, .int .i64 0]), 2, 16) := by kernel_rfl

def chainL (k : Nat) : List (Int × Int) := (List.range k).map fun (i : Nat) => ((i : Int), (i : Int) + 1)
def chainC : Nat → List Value
  | 0 => []
  | k + 1 => chainC k ++ [.int .i64 (k : Int), .int .i64 ((k : Int) + 1)]
theorem chainC_len (k : Nat) : (chainC k).length = k * 2 := by
  induction k with
  | zero => rfl
  | succ k ih => simp [chainC, ih]; omega
theorem chainC_get (k : Nat) : ∀ i, i < k → (chainC k)[i * 2]? = some (.int .i64 (i : Int)) ∧ (chainC k)[i * 2 + 1]? = some (.int .i64 ((i : Int) + 1)) := by
  induction k with
  | zero => intro i hi; omega
  | succ k ih =>
    intro i hi
    have hl := chainC_len k
    unfold chainC
    by_cases h : i < k
    · rw [List.getElem?_append_left (by omega), List.getElem?_append_left (by omega)]
      exact ih i h
    · have : i = k := by omega
      subst this
      rw [List.getElem?_append_right (by omega), List.getElem?_append_right (by omega), hl]
      simp
theorem chain_pairs {w : World} {base k : Nat} {v : Value} (h : w.ownsRow base 82 2 v k (chainC k)) : ∃ A cap, v = .slice A k cap ∧ PairsAt w A (chainL k) := by
  obtain ⟨hl, h⟩ := h
  rcases h with ⟨rfl, rfl⟩ | ⟨g, cap, cur, rfl, hg, hh, hcap, hm, hsz, htake⟩
  · exact ⟨none, 0, rfl, fun i p hi => by simp [chainL] at hi⟩
  · refine ⟨_, cap, rfl, fun i p hi => ?_⟩
    have hik : i < k := by have := (List.getElem?_eq_some_iff.1 hi).1; simpa [chainL] using this
    have hp : p = ((i : Int), (i : Int) + 1) := by
      simp only [chainL, List.getElem?_map, List.getElem?_range hik, Option.map_some, Option.some.injEq] at hi
      exact hi.symm
    have rd : ∀ j c, j < k * 2 → (chainC k)[j]? = some c → w.cell? ⟨g, j, none⟩ = some c := by
      intro j c hj hc
      rw [← htake, List.getElem?_take_of_lt hj] at hc
      rw [show w.cell? ⟨g, j, none⟩ = cur[j]? by simp [World.cell?, hh]]
      simpa using hc
    obtain ⟨h1, h2⟩ := chainC_get k i hik
    subst hp
    refine ⟨g, 0, rfl, ?_, ?_⟩
    · rw [Nat.zero_add]; exact rd _ _ (by omega) h1
    · rw [Nat.zero_add]; exact rd _ _ (by omega) h2

set_option maxRecDepth 100000 in
theorem law_chain (n : Nat) (w : World) (h1 : 1 ≤ n) (h16 : n ≤ 16) :
    Calls Try.prog 23 #[.int .i64 n] w fun e w' => ∃ A cap, e = .returned (.slice A (chainL (n - 1)).length cap) ∧ PairsAt w' A (chainL (n - 1)) ∧ Frm [] w w' := by
  obtain ⟨i0, hi, hz0, hz1, hz2⟩ := info_parts Try.infoPair
  go_enter Try.func23, Try.ntmps23
  go_wp2
  go_loopw [3, 4] (fun a i wr => ∃ j : Nat, j + 1 ≤ n ∧ i = .int .i64 ((j : Int) + 1) ∧ Frm [] w wr ∧ wr.ownsRow w.heap.size 82 2 a j (chainC j)) (fun _ i _ => n - (intOf i).toNat)
  case atStart => exact ⟨0, h1, rfl, Frm.refl _ _, World.ownsRow_nil _ _ _ _⟩
  case round =>
    obtain ⟨j, hj, rfl, FR, hown⟩ := hrel
    have HOWN := Lib.hid hown
    clear hown
    have hsz := FR.size
    by_cases hlt : j + 1 < n
    · have hown2 : ∀ o : Obj, (wr.alloc o).ownsRow w.heap.size 82 2 u3 j (chainC j) := fun o => by
        refine HOWN.out.kept (row := none) ⟨rfl, rfl, rfl, by simp, fun k hk _ => by rw [heap_alloc_at, if_neg (by omega)]⟩ ?_
        cases u3.ownBlock <;> simp
      go_wp2_with (at_builtin; go_must (refine wpList_append_own_at _ rfl _ _ 62 rfl w.heap.size 82 i0 _ 2 16 Try.underlying62 hi hz0 hz1 hz2 rfl (by decide) u3 _ _ rfl (hown2 _) ⟨wr.heap.size, 0, none⟩ 1 1 [.int .i64 (j : Int), .int .i64 ((j : Int) + 1)] rfl rfl ?c1 ?c2 ?c3 ?c4 ?c5 ?_); (case c1 => exact cells_new _ _ _); (case c2 => simp [Value.oneCell']); (case c3 => (unfold maxLen; omega)); (case c4 => omega); (case c5 => (rw [heap_size_alloc]; omega)); intro v3 w3 ho hg _ hat)
      go_roundw
      case rel =>
        refine ⟨j + 1, by omega, by go_num, ?_, by simpa [chainC] using ho⟩
        refine Frm.grown (FR.alloc _) hg (fun b hb => .inr ?_)
        have h := HOWN.out
        obtain ⟨_, h⟩ := h
        rcases h with ⟨rfl, _⟩ | ⟨g, _, _, rfl, hg', _⟩
        · simp [Value.ownBlock] at hb
        · simp [Value.ownBlock] at hb; omega
      case measure => simp [intOf]; omega
    · have : j = n - 1 := by omega
      subst this
      obtain ⟨A, cap, rfl, hp⟩ := chain_pairs HOWN.out
      go_wp2
      go_ret
      exact ⟨A, cap, by simp [chainL], hp, FR⟩
end Go.Proofs.Ytkiofaojokofbaa
namespace Go.Proofs.Ytkiofaojokofbaa
open Go.RowKit

namespace Lat
def closeN : Nat → Lat → Option Lat
  | 0, _ => none
  | f + 1, l => match l.lackRow l.n 0 with
    | none => some l
    | some (a, b) => closeN f (l.fill a b)
theorem closeN_eq {l l' : Lat} (h : Closes l l') : ∀ f l'', closeN f l = some l'' → l'' = l' := by
  induction h with
  | done h =>
    intro f l'' hf
    cases f with
    | zero => cases hf
    | succ f => rw [closeN, h] at hf; cases hf; rfl
  | step h r ih =>
    intro f l'' hf
    cases f with
    | zero => cases hf
    | succ f => rw [closeN, h] at hf; exact ih f l'' hf
theorem Made.det {n : Int} {ps : List (Int × Int)} {r : Except Int Lat} {l1 l2 : Lat} (h : Made n ps r) (hn : 1 ≤ n ∧ n ≤ 16) (f : Nat) (hp : pairs ps (startTo n.toNat n.toNat) = some l1)
    (hc : closeN f l1 = some l2) (hg : l2.good = true) : r = .ok l2 := by
  cases h with
  | range h => omega
  | level _ p => rw [hp] at p; cases p
  | form _ p c g =>
    rw [hp] at p; cases p
    have := closeN_eq c f l2 hc
    subst this
    rw [hg] at g; cases g
  | ok _ p c g =>
    rw [hp] at p; cases p
    rw [closeN_eq c f l2 hc]
def one : Lat := ⟨1, [1, 0, 0, 0, 0, 0, 0, 0, 0, 0, 0, 0, 0, 0, 0, 0]⟩
def two : Lat := ⟨2, [3, 2, 0, 0, 0, 0, 0, 0, 0, 0, 0, 0, 0, 0, 0, 0]⟩
def nine : Lat := ⟨9, [511, 510, 508, 504, 496, 480, 448, 384, 256, 0, 0, 0, 0, 0, 0, 0]⟩
theorem made_one {r : Except Int Lat} (h : Made 1 [] r) : r = .ok one := h.det (l1 := one) (by decide) 2 (by decide) (by decide) (by decide)
theorem made_two {r : Except Int Lat} (h : Made 2 (chainL 1) r) : r = .ok two := h.det (l1 := two) (by decide) 2 (by decide) (by decide) (by decide)
theorem made_nine {r : Except Int Lat} (h : Made 9 (chainL 8) r) : r = .ok nine :=
  h.det (l1 := ⟨9, [3, 6, 12, 24, 48, 96, 192, 384, 256, 0, 0, 0, 0, 0, 0, 0]⟩) (by decide) 100 (by kernel_rfl) (by kernel_rfl) (by kernel_rfl)
end Lat
end Go.Proofs.Ytkiofaojokofbaa
namespace Go.Proofs.Ytkiofaojokofbaa
open Go.RowKit

theorem sizes_append (ts us : List Term) : Term.sizes (ts ++ us) = Term.sizes ts + Term.sizes us := by
  induction ts with
  | nil => simp [Term.sizes]
  | cons t ts ih => simp only [List.cons_append, Term.sizes, ih]; omega
theorem sizes_snoc {ts : List Term} {j : Nat} (h : j < ts.length) : Term.sizes (ts.take (j + 1)) = Term.sizes (ts.take j) + ts[j].size := by
  rw [take_succ_get h, sizes_append]; simp [Term.sizes]
theorem sizes_take (ts : List Term) (j : Nat) : Term.sizes (ts.take j) ≤ Term.sizes ts := by
  have h := sizes_append (ts.take j) (ts.drop j)
  rw [List.take_append_drop] at h
  omega

theorem ref_size : ∀ (t : Term) (F : List Nat) (v : Value) (w : World), TermV F w t v → t.size ≤ 1048576 →
    Calls Try.prog 19 #[v] w fun e w' => e = .returned (.int .i64 t.size) ∧ Frm [] w w' := by
  intro t
  induction t using Term.induct with
  | h k n s ts ih =>
    intro F v w h hsz
    have IH := Lib.hid ih
    clear ih
    simp only [TermV] at h
    obtain ⟨A, cap, rfl, _, _, _, hl1, hc, hc2, hk⟩ := h
    have H0 : Hid (Term.size (.mk k n s ts) = 1 + Term.sizes ts) := rfl
    rw [H0.out] at hsz
    go_enter Try.func19, Try.ntmps19
    go_wp2
    go_loopw [3, 4] (fun a i wr => ∃ j : Nat, j ≤ ts.length ∧ i = .int .i64 j ∧ Frm [] (w.alloc (.cells #[.int .i64 k, .int .i64 n, .string s, .slice A ts.length cap] 26)) wr ∧ a = .int .i64 ((1 + Term.sizes (ts.take j) : Nat) : Int)) (fun _ i _ => ts.length - (intOf i).toNat)
    case atStart => exact ⟨0, Nat.zero_le _, rfl, Frm.refl _ _, by simp [Term.sizes]⟩
    case round =>
      obtain ⟨j, hj, rfl, hF, rfl⟩ := hrel
      obtain ⟨r0, r1, r2, r3, r4, r5⟩ := blk4 (hF.at0 (alloc_heap_new w _))
      have hF0 : Frm [] w wr := ((Frm.refl [] w).alloc _).trans0 hF
      by_cases hlt : j < ts.length
      · obtain ⟨b', off, A', cap', rfl, hb1, hb2, e0, e1, e2, e3, hkid⟩ := (hk.keep hF0).kid j hlt
        have HT := Lib.hid (sizes_snoc hlt)
        have HM : Hid (ts[j] ∈ ts) := List.getElem_mem hlt
        have hle := sizes_take ts (j + 1)
        rw [HT.out] at hle
        generalize ts[j] = t at *
        have hpos : 1 + Term.sizes (ts.take j) + t.size ≤ 1048576 := by omega
        generalize Term.sizes (ts.take j) = acc at *
        go_wp2_with (go_at_call 19; refine (IH.out t HM.out F _ _ (hkid.keep (by repeat (first | with_reducible (first | refine .alloc ?_ _ | refine .drewN ?_ _ | refine .drew ?_) | ((with_reducible refine .setCell ?_ ?_ _); rotate_left; focus (first | (left; simp; done) | (right; simp; (first | done | omega)))) | with_reducible (first | assumption | exact .refl _ _ | refine .trans0 ?_ ‹_›)))) (by omega)).mono ?_; rintro e w2 ⟨rfl, Fw2⟩; obtain ⟨hcw2, hfw2⟩ := Fw2.reads)
        go_roundw
        case rel =>
          exact ⟨j + 1, by omega, by go_num, hF.trans0 Fw2, by rw [HT.out]; go_num⟩
        case measure => simp [intOf]; omega
      · have : j = ts.length := by omega
        subst this
        go_wp2
        go_ret
        exact ⟨ret_int (by rw [H0.out, List.take_length]), hF0⟩
end Go.Proofs.Ytkiofaojokofbaa
namespace Go.Proofs.Ytkiofaojokofbaa
open Go.RowKit

def sameNS (n : Int) (s : ByteArray) (n2 : Int) (s2 : ByteArray) : Bool := decide (n = n2) && decide (s.toList = s2.toList)
namespace Term
mutual
/-- Are two terms the same? -/
def same : Term → Term → Bool
  | mk k n s ts, u => decide (k = u.kind) && sameNS n s u.n u.s && sames ts u.kids
def sames : List Term → List Term → Bool
  | [], us => us.isEmpty
  | t :: ts, us => match us with
    | [] => false
    | u :: us => same t u && sames ts us
end
theorem sames_len : ∀ (ts us : List Term), ts.length ≠ us.length → sames ts us = false
  | [], [], h => absurd rfl h
  | [], _ :: _, _ => rfl
  | _ :: _, [], _ => rfl
  | t :: ts, u :: us, h => by
    rw [sames, sames_len ts us (by simpa using h)]; simp
theorem sames_step (ts us : List Term) (j : Nat) (h1 : j < ts.length) (h2 : j < us.length) : sames (ts.drop j) (us.drop j) = (same ts[j] us[j] && sames (ts.drop (j + 1)) (us.drop (j + 1))) := by
  rw [List.drop_eq_getElem_cons h1, List.drop_eq_getElem_cons h2, sames]
end Term

set_option maxRecDepth 100000 in
set_option maxHeartbeats 1000000 in
theorem equal_func (ts us : List Term) (ih : ∀ t ∈ ts, ∀ (u : Term) (F : List Nat) (va vb : Value) (w : World), TermV F w t va → TermV F w u vb →
      Calls Try.prog 17 #[va, vb] w fun e w' => e = .returned (.bool (t.same u)) ∧ Frm [] w w')
    (F : List Nat) (A B : Option Addr) (ca cb : Nat) (w : World) (hA : KidsV F w ts A 0) (hB : KidsV F w us B 0) (hla : ts.length ≤ 1048576) (hlb : us.length ≤ 1048576) :
    Calls Try.prog 25 #[.slice A ts.length ca, .slice B us.length cb, .func (.func 17) #[] #[]] w fun e w' =>
      e = .returned (.bool (Term.sames ts us)) ∧ Frm [] w w' := by
  have IH := Lib.hid ih
  clear ih
  have _ := hlb
  by_cases hlen : ts.length = us.length
  · have hlen' : ((ts.length : Int) != (us.length : Int)) = false := by rw [hlen]; simp
    have HL := Lib.hid hlen
    clear hlen
    have HST := Lib.hid (fun j h1 h2 => Term.sames_step ts us j h1 h2)
    have HS : ∃ R, Hid (Term.sames ts us = R) := ⟨_, rfl⟩
    obtain ⟨R, HS⟩ := HS
    rw [HS.out]
    go_enter Try.func25, Try.ntmps25
    go_wp2
    go_loopw [17] (fun i wr => ∃ j : Nat, j ≤ ts.length ∧ i = .int .i64 j ∧ Frm [] w wr ∧ Hid (R = Term.sames (ts.drop j) (us.drop j))) (fun i _ => ts.length - (intOf i).toNat)
    case atStart => exact ⟨0, Nat.zero_le _, rfl, Frm.refl _ _, by show R = _; rw [← HS.out]; rfl⟩
    case round =>
      obtain ⟨j, hj, rfl, FR, HR⟩ := hrel
      by_cases hlt : j < ts.length
      · have hlu : j < us.length := by have := HL.out; omega
        obtain ⟨b', off, A', cap', rfl, hbb1, hbb2, e0, e1', e2', e3', hkid⟩ := (hA.keep FR).kid j hlt
        obtain ⟨d', ofg, B', cbp', rfl, hdd1, hdd2, g0, g1, g2, g3, hkjd⟩ := (hB.keep FR).kid j hlu
        have HR2 : Hid (R = (Term.same ts[j] us[j] && Term.sames (ts.drop (j + 1)) (us.drop (j + 1)))) := by show _ = _; rw [HR.out, HST.out j hlt hlu]
        clear HR
        have HM : Hid (ts[j] ∈ ts) := List.getElem_mem hlt
        generalize ts[j] = t at *
        generalize us[j] = u at *
        generalize hq : t.same u = q at *
        have HQ := Lib.hid hq
        clear hq
        cases q
        all_goals
          go_wp2_with (go_at_call 17; refine (IH.out t HM.out u F _ _ _ (hkid.keep (by repeat (first | with_reducible (first | refine .alloc ?_ _ | refine .drewN ?_ _ | refine .drew ?_) | ((with_reducible refine .setCell ?_ ?_ _); rotate_left; focus (first | (left; simp; done) | (right; simp; (first | done | omega)))) | with_reducible (first | assumption | exact .refl _ _ | refine .trans0 ?_ ‹_›)))) (hkjd.keep (by repeat (first | with_reducible (first | refine .alloc ?_ _ | refine .drewN ?_ _ | refine .drew ?_) | ((with_reducible refine .setCell ?_ ?_ _); rotate_left; focus (first | (left; simp; done) | (right; simp; (first | done | omega)))) | with_reducible (first | assumption | exact .refl _ _ | refine .trans0 ?_ ‹_›))))).mono ?_; rw [HQ.out]; rintro e w4 ⟨rfl, F4⟩)
        · have F5 : Frm [] w w4 := FR.trans0 (((by repeat (first | with_reducible (first | refine .alloc ?_ _ | refine .drewN ?_ _ | refine .drew ?_) | ((with_reducible refine .setCell ?_ ?_ _); rotate_left; focus (first | (left; simp; done) | (right; simp; (first | done | omega)))) | with_reducible (first | assumption | exact .refl _ _ | refine .trans0 ?_ ‹_›))) : Frm [] wr _).trans0 F4)
          (try simp only [Exit.noGoto])
          go_ret
          exact ⟨ret_bool (by rw [HR2.out]; rfl), F5⟩
        · have F5 : Frm [] w w4 := FR.trans0 (((by repeat (first | with_reducible (first | refine .alloc ?_ _ | refine .drewN ?_ _ | refine .drew ?_) | ((with_reducible refine .setCell ?_ ?_ _); rotate_left; focus (first | (left; simp; done) | (right; simp; (first | done | omega)))) | with_reducible (first | assumption | exact .refl _ _ | refine .trans0 ?_ ‹_›))) : Frm [] wr _).trans0 F4)
          go_roundw
          case rel => exact ⟨j + 1, by omega, by go_num, F5, by show _ = _; rw [HR2.out]; simp⟩
          case measure => simp [intOf]; omega
      · have : j = ts.length := by omega
        subst this
        go_wp2
        (try simp only [Exit.noGoto])
        go_ret
        refine ⟨ret_bool ?_, FR⟩
        rw [HR.out, List.drop_length]
        have h2 := HL.out
        rw [h2, List.drop_length]
        rfl
  · have HS := Lib.hid (Term.sames_len ts us hlen)
    have hlen' : ((ts.length : Int) != (us.length : Int)) = true := by simp; omega
    clear hlen
    go_enter Try.func25, Try.ntmps25
    go_wp2
    (try simp only [Exit.noGoto])
    go_ret
    exact ⟨ret_bool HS.out.symm, Frm.refl _ _⟩

set_option maxRecDepth 100000 in
set_option maxHeartbeats 2000000 in
theorem term_Same : ∀ (a b : Term) (F : List Nat) (va vb : Value) (w : World), TermV F w a va → TermV F w b vb →
    Calls Try.prog 17 #[va, vb] w fun e w' => e = .returned (.bool (a.same b)) ∧ Frm [] w w' := by
  intro a
  induction a using Term.induct with
  | h k n s ts ih =>
    intro b F va vb w ha hb
    have HEQ := Lib.hid (equal_func ts)
    have IH := Lib.hid ih
    clear ih
    obtain ⟨k2, n2, s2, us⟩ := b
    obtain ⟨A, ca, rfl⟩ := ha.form
    obtain ⟨B, cb, rfl⟩ := hb.form
    have ha : TermV F w (.mk k n s ts) (.agg #[.int .i64 k, .int .i64 n, .string s, .slice A ts.length ca]) := ha
    have hb : TermV F w (.mk k2 n2 s2 us) (.agg #[.int .i64 k2, .int .i64 n2, .string s2, .slice B us.length cb]) := hb
    show Calls Try.prog 17 #[.agg #[.int .i64 k, .int .i64 n, .string s, .slice A ts.length ca], .agg #[.int .i64 k2, .int .i64 n2, .string s2, .slice B us.length cb]] w _
    obtain ⟨hkA, hlA⟩ := ha.kidsOf
    obtain ⟨hkB, hlB⟩ := hb.kidsOf
    have HR : Hid (Term.same (.mk k n s ts) (.mk k2 n2 s2 us) = ((decide (k = k2) && (decide (n = n2) && decide (s.toList = s2.toList))) && Term.sames ts us)) := by show _ = _; rw [Term.same]; rfl
    generalize Term.same (.mk k n s ts) (.mk k2 n2 s2 us) = R at *
    have hLL : ts.length ≤ 1048576 := hlA
    by_cases h1 : k = k2
    · by_cases h2 : n = n2
      · by_cases h3 : s.toList = s2.toList
        · have e1 : (k == k2) = true := by simpa using h1
          have e2 : (n == n2) = true := by simpa using h2
          have e3 : (s.toList == s2.toList) = true := by simpa using h3
          have HR2 : Hid (R = Term.sames ts us) := by show _ = _; rw [HR.out]; simp [h1, h2, h3]
          clear h1 h2 h3 HR
          go_enter Try.func17, Try.ntmps17
          go_wp2_with (go_at_call 25; refine (HEQ.out us IH.out F A B ca cb _ (hkA.keep (by repeat (first | with_reducible (first | refine .alloc ?_ _ | refine .drewN ?_ _ | refine .drew ?_) | ((with_reducible refine .setCell ?_ ?_ _); rotate_left; focus (first | (left; simp; done) | (right; simp; (first | done | omega)))) | with_reducible (first | assumption | exact .refl _ _ | refine .trans0 ?_ ‹_›)))) (hkB.keep (by repeat (first | with_reducible (first | refine .alloc ?_ _ | refine .drewN ?_ _ | refine .drew ?_) | ((with_reducible refine .setCell ?_ ?_ _); rotate_left; focus (first | (left; simp; done) | (right; simp; (first | done | omega)))) | with_reducible (first | assumption | exact .refl _ _ | refine .trans0 ?_ ‹_›)))) hlA hlB).mono ?_; rintro e w4 ⟨rfl, F4⟩)
          go_ret
          exact ⟨ret_bool HR2.out.symm, (by repeat (first | with_reducible (first | refine .alloc ?_ _ | refine .drewN ?_ _ | refine .drew ?_) | ((with_reducible refine .setCell ?_ ?_ _); rotate_left; focus (first | (left; simp; done) | (right; simp; (first | done | omega)))) | with_reducible (first | assumption | exact .refl _ _ | refine .trans0 ?_ ‹_›)))⟩
        · have e1 : (k == k2) = true := by simpa using h1
          have e2 : (n == n2) = true := by simpa using h2
          have e3 : (s.toList == s2.toList) = false := by simpa using h3
          have HR2 : Hid (R = false) := by show _ = _; rw [HR.out]; simp [h3]
          clear h1 h2 h3 HR
          go_enter Try.func17, Try.ntmps17
          go_wp2
          go_ret
          exact ⟨ret_bool HR2.out.symm, (by repeat (first | with_reducible (first | refine .alloc ?_ _ | refine .drewN ?_ _ | refine .drew ?_) | ((with_reducible refine .setCell ?_ ?_ _); rotate_left; focus (first | (left; simp; done) | (right; simp; (first | done | omega)))) | with_reducible (first | assumption | exact .refl _ _ | refine .trans0 ?_ ‹_›)))⟩
      · have e1 : (k == k2) = true := by simpa using h1
        have e2 : (n == n2) = false := by simpa using h2
        have HR2 : Hid (R = false) := by show _ = _; rw [HR.out]; simp [h2]
        clear h1 h2 HR
        go_enter Try.func17, Try.ntmps17
        go_wp2
        go_ret
        exact ⟨ret_bool HR2.out.symm, (by repeat (first | with_reducible (first | refine .alloc ?_ _ | refine .drewN ?_ _ | refine .drew ?_) | ((with_reducible refine .setCell ?_ ?_ _); rotate_left; focus (first | (left; simp; done) | (right; simp; (first | done | omega)))) | with_reducible (first | assumption | exact .refl _ _ | refine .trans0 ?_ ‹_›)))⟩
    · have e1 : (k == k2) = false := by simpa using h1
      have HR2 : Hid (R = false) := by show _ = _; rw [HR.out]; simp [h1]
      clear h1 HR
      go_enter Try.func17, Try.ntmps17
      go_wp2
      go_ret
      exact ⟨ret_bool HR2.out.symm, (by repeat (first | with_reducible (first | refine .alloc ?_ _ | refine .drewN ?_ _ | refine .drew ?_) | ((with_reducible refine .setCell ?_ ?_ _); rotate_left; focus (first | (left; simp; done) | (right; simp; (first | done | omega)))) | with_reducible (first | assumption | exact .refl _ _ | refine .trans0 ?_ ‹_›)))⟩
end Go.Proofs.Ytkiofaojokofbaa
namespace Go.Proofs.Ytkiofaojokofbaa
open Go.RowKit

theorem law_nine (w : World) : Calls Try.prog 8 #[] w fun e w' => ∃ lb, e = .returned (.pointer (some ⟨lb, 0, none⟩)) ∧ LatAt w' lb Lat.nine ∧ w.heap.size ≤ lb ∧ Frm [] w w' := by
  go_enter Try.func8, Try.ntmps8
  go_wp2_with (first
    | (go_at_call 23; refine (law_chain 9 _ (by decide) (by decide)).mono ?_; rintro e w1 ⟨A, cap, rfl, hp, F1⟩)
    | (go_at_call 22; refine (lat_new 9 A cap (chainL (9 - 1)) _ (by decide) (by decide) hp (by decide)).mono ?_; rintro e w2 ⟨r, hr, F2, hm⟩; obtain rfl := Lat.made_nine hr; obtain ⟨lb, hlb, hl, rfl⟩ := hm; dsimp only))
  go_ret
  exact ⟨lb, rfl, hl, Nat.le_trans F1.size hlb, (by repeat (first | with_reducible (first | refine .alloc ?_ _ | refine .drewN ?_ _ | refine .drew ?_) | ((with_reducible refine .setCell ?_ ?_ _); rotate_left; focus (first | (left; simp; done) | (right; simp; (first | done | omega)))) | with_reducible (first | assumption | exact .refl _ _ | refine .trans0 ?_ ‹_›)))⟩

theorem law_few (F : List Nat) (t : Term) (v : Value) (w : World) (h : TermV F w t v) (hs : t.size ≤ 1048576) :
    Calls Try.prog 5 #[v] w fun e w' => e = .returned (.bool (decide (t.size ≤ 200))) ∧ Frm [] w w' := by
  obtain ⟨A, cap, rfl⟩ := h.form
  go_enter Try.func5, Try.ntmps5
  go_wp2_with (go_at_call 19; refine (ref_size t F _ _ (h.keep (by repeat (first | with_reducible (first | refine .alloc ?_ _ | refine .drewN ?_ _ | refine .drew ?_) | ((with_reducible refine .setCell ?_ ?_ _); rotate_left; focus (first | (left; simp; done) | (right; simp; (first | done | omega)))) | with_reducible (first | assumption | exact .refl _ _ | refine .trans0 ?_ ‹_›)))) hs).mono ?_; rintro e w2 ⟨rfl, Fw2⟩; obtain ⟨hcw2, hfw2⟩ := Fw2.reads)
  go_ret
  exact ⟨ret_bool (decide_eq_decide.2 (by omega)), (by repeat (first | with_reducible (first | refine .alloc ?_ _ | refine .drewN ?_ _ | refine .drew ?_) | ((with_reducible refine .setCell ?_ ?_ _); rotate_left; focus (first | (left; simp; done) | (right; simp; (first | done | omega)))) | with_reducible (first | assumption | exact .refl _ _ | refine .trans0 ?_ ‹_›)))⟩

def st12 : PStore := PStore.empty.fresh 12
theorem st12_get (n : Int) : st12.get n = none := by rw [st12, PStore.fresh_get]; unfold PStore.get; split <;> simp [PStore.empty]
theorem st12_cell {n : Nat} (h : n < 12) : st12.cells[n]? = some none := by
  have : st12.cells = List.replicate 12 none := rfl
  rw [this, List.getElem?_replicate, if_pos h]
theorem st12_next (t : Term) : st12.next t = none := by unfold PStore.next; split; exact st12_get _; rfl
theorem st12_walk (t : Term) : st12.walk t = t := PStore.walk_free (st12_next t)

/-- A new store. -/
def BoundTo (w : World) (st : PStore) (e : Ending) (w' : World) : Prop := ∃ sb G F, e = .returned (.pointer (some ⟨sb, 0, none⟩)) ∧ StoreAt G F w' sb st ∧ Frm [] w w' ∧ (∀ b, b ∈ F → w.heap.size ≤ b)
theorem law_bound_nil (w : World) : Calls Try.prog 6 #[.slice none 0 0] w fun e w' => BoundTo w st12 e w' := by
  go_enter Try.func6, Try.ntmps6
  go_wp2_with (first
    | (go_at_call 10; refine (store_new [] _ (by simp)).mono ?_; rintro e w1 ⟨rfl, hst, F1⟩; have hsz := hst.lt w.heap.size (by simp))
    | (go_at_call 8; refine (law_nine _).mono ?_; rintro e w2 ⟨lb, rfl, hl, hlb, F2⟩; have hst2 := hst.keep F2)
    | (go_at_call 11; refine (store_fresh _ _ _ .empty 12 _ hst2 (by decide)).mono ?_; rintro e w3 ⟨rfl, TO⟩; obtain ⟨G3, F3', hs3, F3, k3, k4, k5⟩ := TO))
  go_loop [5] (fun i => i = .int .i64 0) (fun _ => 0)
  case atStart => rfl
  case round =>
    obtain rfl := hrel
    go_wp2
    (try simp only [Exit.noGoto])
    go_ret
    refine ⟨w.heap.size, G3, F3', rfl, hs3, ((F1.trans0 F2).trans F3 (fun b hb => by rw [List.mem_singleton.1 hb]; exact .inr (Nat.le_refl _))), fun b hb => ?_⟩
    rcases k4 b hb with h | h
    · rw [List.mem_singleton.1 h]; exact Nat.le_refl _
    · have := (F1.trans0 F2).size; omega
end Go.Proofs.Ytkiofaojokofbaa
namespace Go.Proofs.Ytkiofaojokofbaa
open Go.RowKit

/-- The value and the count don't depend on the level. -/
theorem evalT_lev (l : Lat) (st : PStore) : ∀ d m t a b, (evalT l st d m t a).1 = (evalT l st d m t b).1 ∧ (evalT l st d m t a).2.2 = (evalT l st d m t b).2.2
  | 0, m, t, a, b => ⟨rfl, rfl⟩
  | d + 1, m, t, a, b => by
    by_cases h : 2000 < m + 1
    · simp [evalT, h]
    · rw [evalT_succ l st d m t a h, evalT_succ l st d m t b h]
      generalize l.opened (st.walk t) = o
      generalize l.join a o.2 = a'
      generalize l.join b o.2 = b'
      unfold evalB
      split
      · exact ⟨rfl, rfl⟩
      split
      · exact ⟨rfl, rfl⟩
      split
      · exact ⟨rfl, rfl⟩
      have h1 := evalT_lev l st d (m + 1) (o.1.kids.getD 0 default) a' b'
      generalize evalT l st d (m + 1) (o.1.kids.getD 0 default) a' = r at *
      generalize evalT l st d (m + 1) (o.1.kids.getD 0 default) b' = q at *
      obtain ⟨x, la, ma⟩ := r
      obtain ⟨y, lb, mb⟩ := q
      dsimp only at h1
      obtain ⟨rfl, rfl⟩ := h1
      cases x with
      | error c => exact ⟨rfl, rfl⟩
      | ok v =>
        dsimp only
        split
        · have h2 := evalT_lev l st d ma (o.1.kids.getD 1 default) la lb
          generalize evalT l st d ma (o.1.kids.getD 1 default) la = r at *
          generalize evalT l st d ma (o.1.kids.getD 1 default) lb = q at *
          obtain ⟨x, lc, mc⟩ := r
          obtain ⟨y, ld, md⟩ := q
          dsimp only at h2
          obtain ⟨rfl, rfl⟩ := h2
          cases x <;> exact ⟨rfl, rfl⟩
        · split <;> exact ⟨rfl, rfl⟩
theorem evalT_up (l : Lat) (st : PStore) : ∀ d m t a, m ≤ (evalT l st d m t a).2.2
  | 0, m, t, a => Nat.le_succ m
  | d + 1, m, t, a => by
    by_cases h : 2000 < m + 1
    · simp [evalT, h]
    · rw [evalT_succ l st d m t a h]
      generalize l.opened (st.walk t) = o
      generalize l.join a o.2 = a'
      unfold evalB
      split
      · exact Nat.le_succ m
      split
      · exact Nat.le_succ m
      split
      · exact Nat.le_succ m
      have h1 := evalT_up l st d (m + 1) (o.1.kids.getD 0 default) a'
      generalize evalT l st d (m + 1) (o.1.kids.getD 0 default) a' = r at *
      obtain ⟨x, la, ma⟩ := r
      dsimp only at h1
      cases x with
      | error c => dsimp only; omega
      | ok v =>
        dsimp only
        split
        · have h2 := evalT_up l st d ma (o.1.kids.getD 1 default) la
          generalize evalT l st d ma (o.1.kids.getD 1 default) la = r at *
          obtain ⟨x, lc, mc⟩ := r
          dsimp only at h2
          cases x <;> (dsimp only; omega)
        · split <;> (dsimp only; omega)
/-- With a higher count ahead: full, or the same. -/
theorem evalT_shift (l : Lat) (st : PStore) : ∀ d1 m1 t a d m, m ≤ m1 → 2000 ≤ d + m →
    (evalT l st d1 m1 t a).1 = .error 3 ∨ ∃ r lev k, evalT l st d m t a = (r, lev, k) ∧ evalT l st d1 m1 t a = (r, lev, k + (m1 - m))
  | 0, m1, t, a, d, m, _, _ => .inl rfl
  | d1 + 1, m1, t, a, d, m, hm, hd => by
    by_cases h : 2000 < m1 + 1
    · left; simp [evalT, h]
    · obtain ⟨d', rfl⟩ : ∃ d', d = d' + 1 := ⟨d - 1, by omega⟩
      rw [evalT_succ l st d1 m1 t a h, evalT_succ l st d' m t a (by omega)]
      generalize l.opened (st.walk t) = o
      generalize l.join a o.2 = a'
      unfold evalB
      split
      · exact .inr ⟨_, _, _, rfl, Prod.ext rfl (Prod.ext rfl (by dsimp only; omega))⟩
      split
      · exact .inr ⟨_, _, _, rfl, Prod.ext rfl (Prod.ext rfl (by dsimp only; omega))⟩
      split
      · exact .inr ⟨_, _, _, rfl, Prod.ext rfl (Prod.ext rfl (by dsimp only; omega))⟩
      have hup := evalT_up l st d' (m + 1) (o.1.kids.getD 0 default) a'
      rcases evalT_shift l st d1 (m1 + 1) (o.1.kids.getD 0 default) a' d' (m + 1) (by omega) (by omega) with h1 | ⟨r, lev, k, e1, e2⟩
      · left
        generalize evalT l st d1 (m1 + 1) (o.1.kids.getD 0 default) a' = r at *
        obtain ⟨x, la, ma⟩ := r
        dsimp only at h1
        subst h1
        rfl
      · rw [e1, e2]
        rw [e1] at hup
        dsimp only at hup
        cases r with
        | error c => exact .inr ⟨_, _, _, rfl, Prod.ext rfl (Prod.ext rfl (by dsimp only; omega))⟩
        | ok v =>
          dsimp only
          split
          · rcases evalT_shift l st d1 (k + (m1 + 1 - (m + 1))) (o.1.kids.getD 1 default) lev d' k (by omega) (by omega) with h2 | ⟨r2, lev2, k2, f1, f2⟩
            · left
              generalize evalT l st d1 (k + (m1 + 1 - (m + 1))) (o.1.kids.getD 1 default) lev = r at *
              obtain ⟨x, la, ma⟩ := r
              dsimp only at h2
              subst h2
              rfl
            · rw [f1, f2]
              cases r2 <;> exact .inr ⟨_, _, _, rfl, Prod.ext rfl (Prod.ext rfl (by dsimp only; omega))⟩
          · split <;> exact .inr ⟨_, _, _, rfl, Prod.ext rfl (Prod.ext rfl (by dsimp only; omega))⟩
end Go.Proofs.Ytkiofaojokofbaa
namespace Go.Proofs.Ytkiofaojokofbaa
open Go.RowKit

def In9 (a : Int) : Prop := 0 ≤ a ∧ a < 9
theorem nine_all {P : Int → Int → Bool} (h : ((List.range 9).all fun i => (List.range 9).all fun j => P (i : Int) (j : Int)) = true) {a b : Int} (ha : In9 a) (hb : In9 b) : P a b = true := by
  obtain ⟨a1, a2⟩ := ha
  obtain ⟨b1, b2⟩ := hb
  rw [List.all_eq_true] at h
  have h1 := h a.toNat (List.mem_range.2 (by omega))
  rw [List.all_eq_true] at h1
  have h2 := h1 b.toNat (List.mem_range.2 (by omega))
  rwa [Int.toNat_of_nonneg a1, Int.toNat_of_nonneg b1] at h2
theorem nine_join {a b : Int} (ha : In9 a) (hb : In9 b) : Lat.nine.join a b = max a b := by
  have h := nine_all (P := fun a b => Lat.nine.join a b == max a b) (by kernel_rfl) ha hb
  simpa using h
theorem nine_leq {a b : Int} (ha : In9 a) (hb : In9 b) : Lat.nine.leq a b = decide (a ≤ b) := by
  have h := nine_all (P := fun a b => Lat.nine.leq a b == decide (a ≤ b)) (by kernel_rfl) ha hb
  simpa using h
theorem nine_bottom : Lat.nine.bottom = 0 := by kernel_rfl
theorem nine_top : Lat.nine.top = 8 := by kernel_rfl
theorem nine_level (n : Int) : In9 (Lat.nine.level n) := by
  unfold Lat.level
  split
  · rw [nine_top]; exact ⟨by decide, by decide⟩
  · rename_i h
    have h9 : ((Lat.nine.n : Nat) : Int) = 9 := rfl
    rw [h9] at h
    exact ⟨by omega, by omega⟩
theorem in9_max {a b : Int} (ha : In9 a) (hb : In9 b) : In9 (max a b) := by
  obtain ⟨a1, a2⟩ := ha
  obtain ⟨b1, b2⟩ := hb
  exact ⟨by omega, by omega⟩
theorem evalT_level (st : PStore) (ho : ∀ t, In9 (Lat.nine.opened t).2) : ∀ d m t a, In9 a → In9 (evalT Lat.nine st d m t a).2.1 ∧ a ≤ (evalT Lat.nine st d m t a).2.1
  | 0, m, t, a, ha => ⟨ha, Int.le_refl _⟩
  | d + 1, m, t, a, ha => by
    by_cases h : 2000 < m + 1
    · simp only [evalT, h, if_true]; exact ⟨ha, Int.le_refl _⟩
    · rw [evalT_succ _ st d m t a h]
      have h1 := ho (st.walk t)
      generalize Lat.nine.opened (st.walk t) = o at *
      rw [nine_join ha h1]
      have h2 := in9_max ha h1
      have h3 : a ≤ max a o.2 := by omega
      generalize max a o.2 = b at *
      unfold evalB
      split
      · exact ⟨h2, h3⟩
      split
      · exact ⟨h2, h3⟩
      split
      · exact ⟨h2, h3⟩
      have k1 := evalT_level st ho d (m + 1) (o.1.kids.getD 0 default) b h2
      generalize evalT Lat.nine st d (m + 1) (o.1.kids.getD 0 default) b = r at *
      obtain ⟨x, la, ma⟩ := r
      dsimp only at k1
      obtain ⟨k1, k2⟩ := k1
      cases x with
      | error c => exact ⟨k1, by dsimp only; omega⟩
      | ok v =>
        dsimp only
        split
        · have q1 := evalT_level st ho d ma (o.1.kids.getD 1 default) la k1
          generalize evalT Lat.nine st d ma (o.1.kids.getD 1 default) la = r at *
          obtain ⟨x, lc, mc⟩ := r
          dsimp only at q1
          obtain ⟨q1, q2⟩ := q1
          cases x <;> exact ⟨q1, by dsimp only; omega⟩
        · split <;> exact ⟨k1, by dsimp only; omega⟩
theorem nine_peel : ∀ (t : Term) (a : Int), In9 a → In9 (Lat.nine.peel a t).2 := by
  intro t
  induction t using Term.induct with
  | h k n s ts ih =>
    intro a ha
    cases hs : (Term.mk k n s ts).sealOf
    · rw [Lat.peel_else _ _ _ hs]; exact ha
    · obtain ⟨rfl, x, rfl⟩ := Term.sealOf_true hs
      rw [Lat.peel_seal, nine_join ha (nine_level n)]
      exact ih x (by simp) _ (in9_max ha (nine_level n))
theorem nine_opened (t : Term) : In9 (Lat.nine.opened t).2 := by
  have h0 : In9 Lat.nine.bottom := by rw [nine_bottom]; exact ⟨by decide, by decide⟩
  unfold Lat.opened
  split
  · exact nine_peel t _ h0
  · exact h0
end Go.Proofs.Ytkiofaojokofbaa
namespace Go.Proofs.Ytkiofaojokofbaa
open Go.RowKit

theorem bindF_eq {s s' : PStore} {v : Int} {t : Term} {c : Int} (h : s.Binds v t c s') : s.bindF v t = (c, s') := by
  obtain ⟨h1, h2⟩ := PStore.binds_det (PStore.bindF_spec s v t) h
  exact Prod.ext h1 h2
theorem binds_ok {s : PStore} {v : Nat} {t : Term} (hv : s.cells[v]? = some none) (hh : s.has t v false) : s.Binds v t 0 (s.bind v t) :=
  .inr (.inr (.inr ⟨rfl, rfl, by omega, hv, hh⟩))
theorem walk_var {s : PStore} {v : Nat} (hv : s.cells[v]? = some none) : s.walk (Term.var v) = Term.var v :=
  PStore.walk_free (by rw [Term.var, PStore.next_var]; exact PStore.get_in hv)
theorem matchT_bind (l : Lat) (s : PStore) (v : Nat) (t : Term) (hv : s.cells[v]? = some none) (ht : s.walk t = t) (hk : ¬ (t.kind = 1 ∧ t.n = v)) (hh : s.has t v false) :
    s.matchT l [Term.var v] [t] = (true, l.bottom, 0, s.bind v t) := by
  unfold PStore.matchT
  rw [if_pos (show [Term.var v].length = [t].length from rfl)]
  show PStore.matchF l (1999 + 1) s [(Term.var v, t)] l.bottom = _
  rw [PStore.matchF]
  dsimp only
  rw [walk_var hv, ht]
  have hb : s.bindP (Term.var v) t = (true, true, s.bind v t) := by
    unfold PStore.bindP
    rw [if_neg (fun h => hk ⟨h.2.1, h.2.2.symm⟩), if_pos (show (Term.var v).kind = 1 from rfl)]
    show (true, (s.bindF v t).1 == 0, (s.bindF v t).2) = _
    rw [bindF_eq (binds_ok hv hh)]
    rfl
  rw [hb, if_pos rfl, if_pos rfl, PStore.matchF_nil]
theorem walk_num (s : PStore) (a : Int) : s.walk (Term.num a) = Term.num a := PStore.walk_free (PStore.next_ne (by decide))
theorem opened_num (l : Lat) (a : Int) : l.opened (Term.num a) = (Term.num a, l.bottom) := by
  unfold Lat.opened
  rw [if_neg (by simp [Term.num, Term.sealOf, Term.kind])]
theorem nine_join0 : Lat.nine.join 0 0 = 0 := by kernel_rfl
theorem matchT_num (s : PStore) (a b : Int) : s.matchT Lat.nine [Term.num a] [Term.num b] = (decide (a = b), 0, 0, s) := by
  unfold PStore.matchT
  rw [if_pos (show [Term.num a].length = [Term.num b].length from rfl)]
  show PStore.matchF Lat.nine (1999 + 1) s [(Term.num a, Term.num b)] Lat.nine.bottom = _
  rw [PStore.matchF]
  dsimp only
  rw [walk_num, walk_num, opened_num, opened_num, nine_bottom]
  have hb : s.bindP (Term.num a) (Term.num b) = (false, false, s) := by
    unfold PStore.bindP
    rw [if_neg (by simp [Term.num, Term.kind]), if_neg (by simp [Term.num, Term.kind]), if_neg (by simp [Term.num, Term.kind])]
  rw [hb]
  simp only [Bool.false_eq_true, if_false, nine_join0]
  by_cases h : a = b
  · rw [if_pos ⟨rfl, rfl, h⟩, PStore.matchF_nil, decide_eq_true h]
  · rw [if_neg (fun x => h x.2.2), if_neg (fun x => by have := x.1; simp [Term.num, Term.kind] at this), decide_eq_false h]
theorem evalS_num (s : PStore) (a : Int) : evalS Lat.nine s (Term.num a) = (a, 0, 0) := by
  have : evalT Lat.nine s (1999 + 1) 0 (Term.num a) Lat.nine.bottom = (.ok a, 0, 1) := by
    rw [evalT_succ _ _ _ _ _ _ (by omega), walk_num, opened_num, nine_bottom]
    show evalB _ 1 (Lat.nine.join 0 0) 2 a _ [] = _
    rw [nine_join0]
    rfl
  unfold evalS
  rw [show (2000 : Nat) = 1999 + 1 from rfl, this]
theorem testT_num (s : PStore) (op : ByteArray) (a b : Int) : s.testT Lat.nine op (Term.num a) (Term.num b) = ((Arith.test op a b).1, 0, 0, s) := by
  unfold PStore.testT
  rw [evalS_num, evalS_num]
  simp [nine_join0]
end Go.Proofs.Ytkiofaojokofbaa
