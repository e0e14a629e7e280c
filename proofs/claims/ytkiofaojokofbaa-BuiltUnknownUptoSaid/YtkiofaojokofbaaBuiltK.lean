/- built.goals.all: the map of the known goals (printed by allgen.py). -/
import Derived.Test.YtkiofaojokofbaaBuiltJ
import Derived.WalkSpells
import Derived.WalkLawsBesides
import Derived.Deep.QuietTactic
import Derived.BigQuiet
import Derived.Deep.DeepCutAuto
import Derived.Deep.RegionHeld3
import Derived.Lib.Hide
import Derived.Handy
namespace Go.Proofs.Ytkiofaojokofbaa
open Go.RowKit Go.Maps

/-- The known goals: names, and how many arguments. -/
def goalTab : List (ByteArray × Int) := [(⟨#[116, 114, 117, 101]⟩, 0), (⟨#[102, 97, 105, 108]⟩, 0), (⟨#[61]⟩, 2), (⟨#[92, 61]⟩, 2), (⟨#[61, 61]⟩, 2), (⟨#[92, 61, 61]⟩, 2), (⟨#[64, 60]⟩, 2), (⟨#[105, 115]⟩, 2), (⟨#[118, 97, 114]⟩, 1), (⟨#[110, 111, 110, 118, 97, 114]⟩, 1), (⟨#[97, 116, 111, 109]⟩, 1), (⟨#[105, 110, 116, 101, 103, 101, 114]⟩, 1), (⟨#[99, 111, 112, 121, 95, 116, 101, 114, 109]⟩, 2), (⟨#[60]⟩, 2), (⟨#[62]⟩, 2), (⟨#[61, 60]⟩, 2), (⟨#[62, 61]⟩, 2), (⟨#[61, 58, 61]⟩, 2), (⟨#[61, 92, 61]⟩, 2)]
def goalKey (i : Nat) : Value := keyV (goalTab.getD i default).1 (goalTab.getD i default).2
/-- What is asked for the goal of that number. -/
def AskV (w : World) (gb sb lb : Nat) (i : Nat) (v : Value) : Prop :=
  match i with
  | 0 => v = .func (.func 27) #[] #[.pointer (some ⟨gb, 0, none⟩)]
  | 1 => v = .func (.func 28) #[] #[.pointer (some ⟨gb, 0, none⟩)]
  | 2 => v = .func (.func 29) #[.agg #[.pointer (some ⟨sb, 0, none⟩), .pointer (some ⟨lb, 0, none⟩)]] #[]
  | 3 => v = .func (.func 30) #[.agg #[.pointer (some ⟨sb, 0, none⟩), .pointer (some ⟨lb, 0, none⟩)]] #[]
  | 4 => Closes w 51 73 (.func (.func 32) #[] #[]) sb lb v
  | 5 => Closes w 51 73 (.func (.func 33) #[] #[]) sb lb v
  | 6 => Closes w 51 73 (.func (.func 34) #[] #[]) sb lb v
  | 7 => v = .func (.func 35) #[.agg #[.pointer (some ⟨sb, 0, none⟩), .pointer (some ⟨lb, 0, none⟩)]] #[]
  | 8 => Closes w 56 24 (.func (.func 37) #[] #[]) sb lb v
  | 9 => Closes w 56 24 (.func (.func 38) #[] #[]) sb lb v
  | 10 => Closes w 56 24 (.func (.func 39) #[] #[]) sb lb v
  | 11 => Closes w 56 24 (.func (.func 40) #[] #[]) sb lb v
  | 12 => v = .func (.func 41) #[.agg #[.pointer (some ⟨sb, 0, none⟩), .pointer (some ⟨lb, 0, none⟩)]] #[]
  | 13 => Closes w 59 9 (.string ⟨#[60]⟩) sb lb v
  | 14 => Closes w 59 9 (.string ⟨#[62]⟩) sb lb v
  | 15 => Closes w 59 9 (.string ⟨#[61, 60]⟩) sb lb v
  | 16 => Closes w 59 9 (.string ⟨#[62, 61]⟩) sb lb v
  | 17 => Closes w 59 9 (.string ⟨#[61, 58, 61]⟩) sb lb v
  | 18 => Closes w 59 9 (.string ⟨#[61, 92, 61]⟩) sb lb v
  | _ => False

theorem Closes.mapped {w w' : World} {f : FuncId} {ty : TypeId} {x : Value} {sb lb mb : Nat} {v : Value} {k : TypeId} {l : List (Value × Value)} {P : Program} (h : Closes w f ty x sb lb v) (hm : MapAt P k w mb l) (fr : Frm [mb] w w') : Closes w' f ty x sb lb v := by
  obtain ⟨g, n, rfl, h1, h2⟩ := h
  obtain ⟨es, c, hm, _⟩ := hm
  refine ⟨g, n, rfl, fr.at_ h1 (fun e => ?_), fr.at_ h2 (fun e => ?_)⟩
  · rw [List.mem_singleton] at e; subst e; unfold GoalsAt at h1; rw [hm] at h1; cases h1
  · rw [List.mem_singleton] at e; subst e; rw [hm] at h2; cases h2
theorem GoalsAt.mapped {w w' : World} {gb sb lb mb : Nat} {k : TypeId} {l : List (Value × Value)} {P : Program} (h1 : GoalsAt w gb sb lb) (hm : MapAt P k w mb l) (fr : Frm [mb] w w') : GoalsAt w' gb sb lb := by
  obtain ⟨es, c, hm, _⟩ := hm
  refine fr.at_ h1 (fun e => ?_)
  rw [List.mem_singleton] at e; subst e; unfold GoalsAt at h1; rw [hm] at h1; cases h1
theorem AskV.same {w w' : World} {gb sb lb i : Nat} {v : Value} (h : AskV w gb sb lb i v) (hc : ∀ f ty x v, Closes w f ty x sb lb v → Closes w' f ty x sb lb v) : AskV w' gb sb lb i v := by
  unfold AskV at h ⊢
  split at h <;> first | exact h | exact hc _ _ _ _ h
theorem AskV.keep {w w' : World} {gb sb lb i : Nat} {v : Value} (h : AskV w gb sb lb i v) (f : Frm [] w w') : AskV w' gb sb lb i v := h.same fun _ _ _ _ hc => hc.keep f
theorem AskV.mapped {w w' : World} {gb sb lb i mb : Nat} {v : Value} {k : TypeId} {l : List (Value × Value)} {P : Program} (h : AskV w gb sb lb i v) (hm : MapAt P k w mb l) (fr : Frm [mb] w w') : AskV w' gb sb lb i v := h.same fun _ _ _ _ hc => hc.mapped hm fr
theorem keyV_inj {s t : ByteArray} {m n : Int} (h : keyV s m = keyV t n) : s = t ∧ m = n := by
  unfold keyV at h
  simp only [Value.agg.injEq, Array.mk.injEq, List.cons.injEq, Value.string.injEq, Value.int.injEq, true_and, and_true] at h
  exact h
theorem goalKey_inj {i j : Nat} (hi : i < 19) (hj : j < 19) (h : goalKey i = goalKey j) : i = j := by
  have h2 := keyV_inj h
  have key : ∀ i j : Fin 19, ((goalTab.getD i.1 default).1.data.toList = (goalTab.getD j.1 default).1.data.toList ∧ (goalTab.getD i.1 default).2 = (goalTab.getD j.1 default).2) → i = j := by decide
  have := key ⟨i, hi⟩ ⟨j, hj⟩ ⟨by rw [h2.1], h2.2⟩
  simpa using this
theorem goalKey_lit (i : Nat) (hi : i < 19) : ∃ lit, keyOf Try.prog 57 (goalKey i) = some lit := by
  have key : ∀ i : Fin 19, (goalTab.getD i.1 default).1.data.size ≤ 1048576 ∧ -9223372036854775808 ≤ (goalTab.getD i.1 default).2 ∧ (goalTab.getD i.1 default).2 ≤ 9223372036854775807 := by decide
  obtain ⟨h1, h2, h3⟩ := key ⟨i, hi⟩
  exact key_lit _ _ h1 ⟨h2, h3⟩
/-- The map holds the goals that ok tells of. -/
def GoalsMap (w : World) (gb sb lb mb : Nat) (ok : Nat → Prop) (l : List (Value × Value)) : Prop :=
  MapAt Try.prog 57 w mb l ∧ (∀ x ∈ l, ∃ i, i < 19 ∧ ok i ∧ x.1 = goalKey i ∧ AskV w gb sb lb i x.2) ∧ (∀ i, i < 19 → ok i → ∃ x ∈ l, x.1 = goalKey i)
theorem GoalsMap.keep {w w' : World} {gb sb lb mb : Nat} {ok : Nat → Prop} {l : List (Value × Value)} (h : GoalsMap w gb sb lb mb ok l) (f : Frm [] w w') : GoalsMap w' gb sb lb mb ok l :=
  ⟨h.1.keep f, fun x hx => by obtain ⟨i, h1, h2, h3, h4⟩ := h.2.1 x hx; exact ⟨i, h1, h2, h3, h4.keep f⟩, h.2.2⟩
theorem GoalsMap.put {w : World} {gb sb lb mb : Nat} {ok ok' : Nat → Prop} {l : List (Value × Value)} (h : GoalsMap w gb sb lb mb ok l) {i : Nat} (hi : i < 19) (hno : ¬ ok i) {v : Value} (hv : AskV w gb sb lb i v) (hok : ∀ j, j < 19 → (ok' j ↔ ok j ∨ j = i)) :
    ∃ w', (Instr.mapUpdate 52 (.map (some mb)) (goalKey i) v).run Try.prog w = .ok () w' ∧ GoalsMap w' gb sb lb mb ok' (l ++ [(goalKey i, v)]) ∧ Frm [mb] w w' := by
  obtain ⟨lit, hlit⟩ := goalKey_lit i hi
  obtain ⟨hm, h1, h2⟩ := h
  obtain ⟨w', hrun, hm', fr, _⟩ := hm.put Try.keyedKey Try.underlying52 (val := v) hlit (fun x hx e => by
    obtain ⟨j, hj, hoj, hxj, _⟩ := h1 x hx
    have := goalKey_inj hj hi (hxj.symm.trans e)
    subst this
    exact hno hoj)
  refine ⟨w', hrun, ⟨hm', fun x hx => ?_, fun j hj hoj => ?_⟩, fr⟩
  · rcases List.mem_append.1 hx with hx | hx
    · obtain ⟨j, hj, hoj, hxj, ha⟩ := h1 x hx
      exact ⟨j, hj, (hok j hj).2 (.inl hoj), hxj, ha.mapped hm fr⟩
    · rw [List.mem_singleton.1 hx]
      exact ⟨i, hi, (hok i hi).2 (.inr rfl), rfl, hv.mapped hm fr⟩
  · rcases (hok j hj).1 hoj with hoj | rfl
    · obtain ⟨x, hx, hk⟩ := h2 j hj hoj
      exact ⟨x, by simp [hx], hk⟩
    · exact ⟨(goalKey j, v), by simp, rfl⟩

def insOp (i : Nat) : Nat := [3, 6, 10, 14, 18, 22, 26, 30, 34, 38, 42, 46, 50].getD i 99
def insIn (listed : Array Bool) (i : Nat) : Prop := i < 13 ∧ listed.getD (insOp i) false = true
/-- What holds while the map is made, in whatever order. -/
structure AllInv (w0 : World) (gb sb lb : Nat) (listed : Array Bool) (x6 : Value) (w : World) : Prop where
  frm : Frm [] w0 w
  gat : GoalsAt w gb sb lb
  size : listed.size = 53
  map : ∃ mb l, (listed.getD 0 false = true → x6 = .map (some mb) ∧ GoalsMap w gb sb lb mb (insIn listed) l ∧ w0.heap.size ≤ mb) ∧ (listed.getD 0 false = false → ∀ i, ¬ insIn listed i)
theorem getD_tf {listed : Array Bool} {i : Nat} (h : listed.getD i true = false) : listed.getD i false = false := getD_in h
theorem insIn_other {listed : Array Bool} {j : Nat} (hj : ∀ i, i < 13 → insOp i ≠ j) (i : Nat) : insIn (listed.setIfInBounds j true) i ↔ insIn listed i := by
  unfold insIn
  constructor
  · rintro ⟨h1, h2⟩
    rw [getD_set_ne (hj i h1).symm] at h2
    exact ⟨h1, h2⟩
  · rintro ⟨h1, h2⟩
    refine ⟨h1, ?_⟩
    rw [getD_set_ne (hj i h1).symm]
    exact h2
theorem GoalsMap.iff {w : World} {gb sb lb mb : Nat} {ok ok' : Nat → Prop} {l : List (Value × Value)} (h : GoalsMap w gb sb lb mb ok l) (hok : ∀ i, ok' i ↔ ok i) : GoalsMap w gb sb lb mb ok' l :=
  ⟨h.1, fun x hx => by obtain ⟨i, h1, h2, h3⟩ := h.2.1 x hx; exact ⟨i, h1, (hok i).2 h2, h3⟩, fun i hi hoi => h.2.2 i hi ((hok i).1 hoi)⟩
theorem AllInv.made {w0 w : World} {gb sb lb : Nat} {listed : Array Bool} {x6 : Value} (h : AllInv w0 gb sb lb listed x6 w) (h0 : listed.getD 0 true = false) : AllInv w0 gb sb lb (listed.setIfInBounds 0 true) (.map (some w.heap.size)) (w.alloc (.map #[] 0)) := by
  obtain ⟨f, g, hz, mb, l, h1, h2⟩ := h
  have hno := h2 (getD_tf h0)
  have hio := fun i => insIn_other (listed := listed) (j := 0) (by decide) i
  refine ⟨f.alloc _, g.keep ((Frm.refl [] w).alloc _), by simpa using hz, w.heap.size, [], fun _ => ⟨rfl, ⟨MapAt.made _ _ _, (fun x hx => by cases hx), fun i _ hi => absurd ((hio i).1 hi) (hno i)⟩, f.size⟩, fun hc => ?_⟩
  rw [getD_set_self h0] at hc; cases hc
theorem AllInv.quiet {w0 w w' : World} {gb sb lb : Nat} {listed : Array Bool} {x6 : Value} (h : AllInv w0 gb sb lb listed x6 w) (f' : Frm [] w w') (j : Nat) (hj : ∀ i, i < 13 → insOp i ≠ j) (hj0 : j ≠ 0) : AllInv w0 gb sb lb (listed.setIfInBounds j true) x6 w' := by
  obtain ⟨f, g, hz, mb, l, h1, h2⟩ := h
  have hio := fun i => insIn_other (listed := listed) (j := j) hj i
  refine ⟨f.trans0 f', g.keep f', by simpa using hz, mb, l, fun h0 => ?_, fun h0 i hi => ?_⟩
  · rw [getD_set_ne hj0] at h0
    obtain ⟨g1, g2, g3⟩ := h1 h0
    exact ⟨g1, (g2.keep f').iff hio, g3⟩
  · rw [getD_set_ne hj0] at h0
    exact h2 h0 i ((hio i).1 hi)
theorem AllInv.ins {w0 w : World} {gb sb lb : Nat} {listed : Array Bool} {x6 : Value} (h : AllInv w0 gb sb lb listed x6 w) (h0 : listed.getD 0 false = true) {i : Nat} (hi : i < 13) (hl : listed.getD (insOp i) true = false) {v : Value} (hv : AskV w gb sb lb i v) :
    ∃ mb w', x6 = .map (some mb) ∧ (Instr.mapUpdate 52 (.map (some mb)) (goalKey i) v).run Try.prog w = .ok () w' ∧ AllInv w0 gb sb lb (listed.setIfInBounds (insOp i) true) x6 w' ∧ (∀ k u, AskV w gb sb lb k u → AskV w' gb sb lb k u) := by
  obtain ⟨f, g, hz, mb, l, h1, h2⟩ := h
  obtain ⟨g1, g2, g3⟩ := h1 h0
  have hinj : ∀ j, j < 13 → insOp j = insOp i → j = i := by
    have key : ∀ a b : Fin 13, insOp a.1 = insOp b.1 → a = b := by decide
    intro j hj e
    have := key ⟨j, hj⟩ ⟨i, hi⟩ e
    simpa using this
  have hne0 : insOp i ≠ 0 := by
    have key : ∀ a : Fin 13, insOp a.1 ≠ 0 := by decide
    exact key ⟨i, hi⟩
  obtain ⟨w', hrun, gm, fr⟩ := g2.put (ok' := insIn (listed.setIfInBounds (insOp i) true)) (i := i) (by omega) (fun hx => by have := getD_tf hl; rw [hx.2] at this; cases this) hv (fun j hj => by
    unfold insIn
    constructor
    · rintro ⟨k1, k2⟩
      by_cases e : insOp j = insOp i
      · exact .inr (hinj j k1 e)
      · rw [getD_set_ne (Ne.symm e)] at k2
        exact .inl ⟨k1, k2⟩
    · rintro (⟨k1, k2⟩ | rfl)
      · refine ⟨k1, ?_⟩
        by_cases e : insOp j = insOp i
        · rw [e]; exact getD_set_self hl
        · rw [getD_set_ne (Ne.symm e)]; exact k2
      · exact ⟨hi, getD_set_self hl⟩)
  refine ⟨mb, w', g1, hrun, ⟨f.trans fr (fun b hb => by rw [List.mem_singleton.1 hb]; exact .inr g3), g.mapped g2.1 fr, by simpa using hz, mb, _, fun _ => ⟨g1, gm, g3⟩, fun hc => ?_⟩, fun k u hk => hk.mapped g2.1 fr⟩
  rw [getD_set_ne hne0, h0] at hc; cases hc

def allPure : List Nat := [1, 2, 4, 5, 7, 8, 9, 11, 12, 13, 15, 16, 19, 20, 23, 24, 27, 28, 29, 31, 32, 35, 36, 39, 40, 43, 44, 47, 48, 49]
def AllJ (w0 : World) (gb sb lb : Nat) (listed : Array Bool) (a : Act) (w : World) : Prop :=
  ∃ x3 x6 x19 x22 x25 x31 x34 x37 x40 x44 : Value, a = { tmps := #[.agg #[.pointer (some ⟨sb, 0, none⟩), .pointer (some ⟨lb, 0, none⟩)], .pointer (some ⟨gb, 0, none⟩), .map none, x3, undef, undef, x6, .agg #[.string ⟨#[116, 114, 117, 101]⟩, .int .i64 0], .func (.func 27) #[] #[.pointer (some ⟨gb, 0, none⟩)], .agg #[.string ⟨#[102, 97, 105, 108]⟩, .int .i64 0], .func (.func 28) #[] #[.pointer (some ⟨gb, 0, none⟩)], .agg #[.string ⟨#[61]⟩, .int .i64 2], .agg #[.pointer (some ⟨sb, 0, none⟩), .pointer (some ⟨lb, 0, none⟩)], .func (.func 29) #[.agg #[.pointer (some ⟨sb, 0, none⟩), .pointer (some ⟨lb, 0, none⟩)]] #[], .agg #[.string ⟨#[92, 61]⟩, .int .i64 2], .agg #[.pointer (some ⟨sb, 0, none⟩), .pointer (some ⟨lb, 0, none⟩)], .func (.func 30) #[.agg #[.pointer (some ⟨sb, 0, none⟩), .pointer (some ⟨lb, 0, none⟩)]] #[], .agg #[.string ⟨#[61, 61]⟩, .int .i64 2], .agg #[.pointer (some ⟨sb, 0, none⟩), .pointer (some ⟨lb, 0, none⟩)], x19, .agg #[.string ⟨#[92, 61, 61]⟩, .int .i64 2], .agg #[.pointer (some ⟨sb, 0, none⟩), .pointer (some ⟨lb, 0, none⟩)], x22, .agg #[.string ⟨#[64, 60]⟩, .int .i64 2], .agg #[.pointer (some ⟨sb, 0, none⟩), .pointer (some ⟨lb, 0, none⟩)], x25, .agg #[.string ⟨#[105, 115]⟩, .int .i64 2], .agg #[.pointer (some ⟨sb, 0, none⟩), .pointer (some ⟨lb, 0, none⟩)], .func (.func 35) #[.agg #[.pointer (some ⟨sb, 0, none⟩), .pointer (some ⟨lb, 0, none⟩)]] #[], .agg #[.string ⟨#[118, 97, 114]⟩, .int .i64 1], .agg #[.pointer (some ⟨sb, 0, none⟩), .pointer (some ⟨lb, 0, none⟩)], x31, .agg #[.string ⟨#[110, 111, 110, 118, 97, 114]⟩, .int .i64 1], .agg #[.pointer (some ⟨sb, 0, none⟩), .pointer (some ⟨lb, 0, none⟩)], x34, .agg #[.string ⟨#[97, 116, 111, 109]⟩, .int .i64 1], .agg #[.pointer (some ⟨sb, 0, none⟩), .pointer (some ⟨lb, 0, none⟩)], x37, .agg #[.string ⟨#[105, 110, 116, 101, 103, 101, 114]⟩, .int .i64 1], .agg #[.pointer (some ⟨sb, 0, none⟩), .pointer (some ⟨lb, 0, none⟩)], x40, .agg #[.string ⟨#[99, 111, 112, 121, 95, 116, 101, 114, 109]⟩, .int .i64 2], .agg #[.pointer (some ⟨sb, 0, none⟩), .pointer (some ⟨lb, 0, none⟩)], .func (.func 41) #[.agg #[.pointer (some ⟨sb, 0, none⟩), .pointer (some ⟨lb, 0, none⟩)]] #[], x44, undef, undef, undef, undef, undef, undef, undef, undef, undef, undef, undef, undef], defers := [] } ∧ AllInv w0 gb sb lb listed x6 w ∧ (∀ j ∈ allPure, listed.getD j true = true) ∧
    (listed.getD 17 false = true → AskV w gb sb lb 4 x19) ∧
    (listed.getD 21 false = true → AskV w gb sb lb 5 x22) ∧
    (listed.getD 25 false = true → AskV w gb sb lb 6 x25) ∧
    (listed.getD 33 false = true → AskV w gb sb lb 8 x31) ∧
    (listed.getD 37 false = true → AskV w gb sb lb 9 x34) ∧
    (listed.getD 41 false = true → AskV w gb sb lb 10 x37) ∧
    (listed.getD 45 false = true → AskV w gb sb lb 11 x40) ∧
    (listed.getD 51 false = true → x44 = x6 ∧ listed.getD 0 false = true) ∧ (listed.getD 52 false = true → x3 = x6 ∧ listed.getD 0 false = true)

theorem all_pure {listed : Array Bool} {i : Nat} (h : ∀ j ∈ allPure, listed.getD j true = true) : ∀ j ∈ allPure, (listed.setIfInBounds i true).getD j true = true := fun j hj => by
  by_cases e : i = j
  · subst e
    have := h i hj
    rw [Array.getD_eq_getD_getElem?] at this ⊢
    by_cases hs : i < listed.size
    · rw [Array.getElem?_setIfInBounds_self_of_lt hs]; rfl
    · rw [Array.getElem?_eq_none (by simp; omega)]; rfl
  · rw [getD_set_ne e]; exact h j hj


theorem wpOp_inv {P : Program} {ops : Array Oper} {Q : Exit → Act → World → Prop} {K : Act → World → Prop} {i : Nat} {o : Oper} {a : Act} {w : World} (ho : ops[i]? = some o)
    (h : ∀ K' : Act → World → Prop, Shut (∀ a w, K a w → K' a w) → if Region.wanted o (yielded ops a.tmps) = true then Oper.wp P o a w K' Q else K' (a.put o.dst undef) w) : wpOp P ops Q i K a w :=
  wpOp_step ho (fun K' hK => h K' hK)

theorem wpList_index_arr {P : Program} {ops : Array Oper} {Q : Exit → Act → World → Prop} {rest : List Oper} {o : Oper} {a : Act} {w : World} (hg : o.guard = none) (x i : Operand) (t : TypeId) (hop : o.op = .index t x i) (v : Value) (hrun : (Instr.index t (a.eval x) (a.eval i)).run P w = .ok v w)
    (hK : wpList P ops Q rest (a.put o.dst v) w) : wpList P ops Q (o :: rest) a w := by
  refine wpList_plain hg fun K' hK' => ?_
  unfold Oper.wp
  simp [execOp, hop, hrun, Result.andThen]
  exact hK' _ _ hK
theorem GoalsMap.iff19 {w : World} {gb sb lb mb : Nat} {l : List (Value × Value)} (h : GoalsMap w gb sb lb mb (fun i => i < 13 + 6) l) : GoalsMap w gb sb lb mb (fun _ => True) l :=
  ⟨h.1, fun x hx => by obtain ⟨i, h1, _, h3⟩ := h.2.1 x hx; exact ⟨i, h1, trivial, h3⟩, fun i hi _ => h.2.2 i hi hi⟩
theorem insOp_lt {i : Nat} (hi : i < 13) : insOp i < 53 := by
  have key : ∀ a : Fin 13, insOp a.1 < 53 := by decide
  exact key ⟨i, hi⟩
/-- The map of the known goals. -/
def AllMade (w0 : World) (gb sb lb : Nat) (x3 : Value) (w : World) : Prop := ∃ mb l, x3 = .map (some mb) ∧ GoalsMap w gb sb lb mb (fun i => i < 13) l ∧ w0.heap.size ≤ mb ∧ Frm [] w0 w ∧ GoalsAt w gb sb lb

set_option maxRecDepth 100000 in
set_option maxHeartbeats 4000000 in
theorem goals_all (sb lb : Nat) (w : World) : Calls Try.prog 20 #[.agg #[.pointer (some ⟨sb, 0, none⟩), .pointer (some ⟨lb, 0, none⟩)]] w fun e w' => (∃ gb mb l, e = .returned (.map (some mb)) ∧ GoalsMap w' gb sb lb mb (fun _ => True) l ∧ GoalsAt w' gb sb lb) ∧ Frm [] w w' := by
  have hmf : ∀ (fn : Fn) (first cap : Array Value) (w : World), (Instr.makeFunc fn first cap).run Try.prog w = .ok (.func fn first cap) w := fun _ _ _ _ => rfl
  go_enter Try.func20, Try.ntmps20
  go_upto_region 1 with (fail)
  generalize hW : World.alloc _ _ = W
  have hg : GoalsAt W w.heap.size sb lb := by subst hW; unfold GoalsAt; exact (by repeat (first | rw [heap_alloc_at] | rw [heap_size_alloc] | rfl | rw [if_pos (by omega)] | rw [if_neg (by omega)]))
  have FW : Frm [] w W := by subst hW; exact (by repeat (first | with_reducible (first | refine .alloc ?_ _ | refine .drewN ?_ _ | refine .drew ?_) | ((with_reducible refine .setCell ?_ ?_ _); rotate_left; focus (first | (left; simp; done) | (right; simp; (first | done | omega)))) | with_reducible (first | assumption | exact .refl _ _ | refine .trans0 ?_ ‹_›)))
  have hgb : ∃ gb, Hid (gb = w.heap.size) := ⟨_, rfl⟩
  obtain ⟨gb, HGB⟩ := hgb
  rw [← HGB.out] at hg ⊢
  clear hW
  go_cut [3] (fun x3 wx => AllMade W gb sb lb x3 wx)
  case first =>
    obtain ⟨p0, p1, p2⟩ := hg.c
    have hgd : GoalsAt W.drew gb sb lb := hg
    refine wp_region_U (fun w' => GoalsAt w' gb sb lb) (fun _ => true) (by kernel_rfl) ?rgnS1 (fun hHeld => ?rgnB1)
    case rgnS1 => assumption
    case' rgnB1 => skip
    refine Pend.start [1, 2, 4, 5, 7, 8, 9, 11, 12, 13, 15, 16, 19, 20, 23, 24, 27, 28, 29, 31, 32, 35, 36, 39, 40, 43, 44, 47, 48, 49] ?_
    iterate 30 (refine tk (v := ?_) rfl (by kernel_rfl) (by rfl) (fun _ _ _ h => h) (by assumption) ?_ ?_; rotate_left; (focus (intro wq hSw; (try dsimp only at hSw); obtain ⟨P0, P1, P2⟩ := hSw.c; go_simp; (first | done | with_reducible rfl))); try simp only [Act.put, List.setIfInBounds_toArray, List.set_cons_zero, List.set_cons_succ])
    refine Pend.done ?_
    refine wpAnyU_inv (AllJ W gb sb lb) ?stp ?fin _ _ _ _ (of_decide_eq_true (by kernel_rfl)) ?sta
    case sta =>
      refine ⟨undef, undef, undef, undef, undef, undef, undef, undef, undef, undef, rfl, ⟨(by repeat (first | with_reducible (first | refine .alloc ?_ _ | refine .drewN ?_ _ | refine .drew ?_) | ((with_reducible refine .setCell ?_ ?_ _); rotate_left; focus (first | (left; simp; done) | (right; simp; (first | done | omega)))) | with_reducible (first | assumption | exact .refl _ _ | refine .trans0 ?_ ‹_›))), hgd, by kernel_rfl, 0, [], fun h => absurd h (by decide), fun _ i hi => ?_⟩, by decide, fun h => absurd h (by decide), fun h => absurd h (by decide), fun h => absurd h (by decide), fun h => absurd h (by decide), fun h => absurd h (by decide), fun h => absurd h (by decide), fun h => absurd h (by decide), fun h => absurd h (by decide), fun h => absurd h (by decide)⟩
      obtain ⟨h1, h2⟩ := hi
      have h3 : i = 0 ∨ i = 1 ∨ i = 2 ∨ i = 3 ∨ i = 4 ∨ i = 5 ∨ i = 6 ∨ i = 7 ∨ i = 8 ∨ i = 9 ∨ i = 10 ∨ i = 11 ∨ i = 12 := by omega
      rcases h3 with rfl | rfl | rfl | rfl | rfl | rfl | rfl | rfl | rfl | rfl | rfl | rfl | rfl <;> exact absurd h2 (by decide)
    case fin =>
      intro listed a w1 hJ hr
      have hall := Region.all_listed (ops := _) (by kernel_rfl) (hJ.choose_spec.choose_spec.choose_spec.choose_spec.choose_spec.choose_spec.choose_spec.choose_spec.choose_spec.choose_spec.2.1.size) hr
      obtain ⟨x3, x6, x19, x22, x25, x31, x34, x37, x40, x44, rfl, hinv, hpu, c4, c5, c6, c8, c9, c10, c11, m51, m52⟩ := hJ
      obtain ⟨rfl, d0⟩ := m52 (hall 52 (by decide))
      obtain ⟨f, g, hz, mb, l, h1, h2⟩ := hinv
      obtain ⟨rfl, g2, g3⟩ := h1 d0
      go_wp2
      go_meet
      case rel => exact ⟨mb, l, rfl, g2.iff (fun i => ⟨fun hi => ⟨hi, hall _ (insOp_lt hi)⟩, fun hi => hi.1⟩), g3, f, g⟩
    case stp =>
      intro listed a w1 hJ i hi
      obtain ⟨x3, x6, x19, x22, x25, x31, x34, x37, x40, x44, rfl, hinv, hpu, c4, c5, c6, c8, c9, c10, c11, m51, m52⟩ := hJ
      obtain ⟨hun, o, ho, hall⟩ := mem_ready.1 hi
      have hlt : i < 53 := (Array.getElem?_eq_some_iff.1 ho).1
      have hnp : i ∉ allPure := fun h => by rw [hpu i h] at hun; cases hun
      have hcase : i = 0 ∨ i = 17 ∨ i = 21 ∨ i = 25 ∨ i = 33 ∨ i = 37 ∨ i = 41 ∨ i = 45 ∨ i = 3 ∨ i = 6 ∨ i = 10 ∨ i = 14 ∨ i = 18 ∨ i = 22 ∨ i = 26 ∨ i = 30 ∨ i = 34 ∨ i = 38 ∨ i = 42 ∨ i = 46 ∨ i = 50 ∨ i = 51 ∨ i = 52 := by
        unfold allPure at hnp
        simp only [List.mem_cons, List.not_mem_nil, or_false, not_or] at hnp
        omega
      clear hlt hnp
      rcases hcase with rfl | rfl | rfl | rfl | rfl | rfl | rfl | rfl | rfl | rfl | rfl | rfl | rfl | rfl | rfl | rfl | rfl | rfl | rfl | rfl | rfl | rfl | rfl
      · rw [show (_ : Array Oper)[0]? = some { dst := some 6, op := Go.Op.makeMap 52 none, type := 52, pos := "built.go:112", after := #[], guard := none } from rfl] at ho
        cases ho
        have hz := hinv.made hun
        refine wpOp_inv (o := { dst := some 6, op := Go.Op.makeMap 52 none, type := 52, pos := "built.go:112", after := #[], guard := none }) rfl (fun K' hK => ?_)
        have hmm := @run_makeMap Try.prog
        go_simp
        refine hK.out _ _ ⟨fun _ => hz.gat, x3, _, x19, x22, x25, x31, x34, x37, x40, x44, rfl, hz, all_pure hpu, (fun h => (fun _ _ h => h.keep ((Frm.refl [] w1).alloc _) : ∀ k u, AskV w1 gb sb lb k u → AskV (w1.alloc (.map #[] 0)) gb sb lb k u) _ _ (c4 (by rw [getD_set_ne (by decide)] at h; exact h))), (fun h => (fun _ _ h => h.keep ((Frm.refl [] w1).alloc _) : ∀ k u, AskV w1 gb sb lb k u → AskV (w1.alloc (.map #[] 0)) gb sb lb k u) _ _ (c5 (by rw [getD_set_ne (by decide)] at h; exact h))), (fun h => (fun _ _ h => h.keep ((Frm.refl [] w1).alloc _) : ∀ k u, AskV w1 gb sb lb k u → AskV (w1.alloc (.map #[] 0)) gb sb lb k u) _ _ (c6 (by rw [getD_set_ne (by decide)] at h; exact h))), (fun h => (fun _ _ h => h.keep ((Frm.refl [] w1).alloc _) : ∀ k u, AskV w1 gb sb lb k u → AskV (w1.alloc (.map #[] 0)) gb sb lb k u) _ _ (c8 (by rw [getD_set_ne (by decide)] at h; exact h))), (fun h => (fun _ _ h => h.keep ((Frm.refl [] w1).alloc _) : ∀ k u, AskV w1 gb sb lb k u → AskV (w1.alloc (.map #[] 0)) gb sb lb k u) _ _ (c9 (by rw [getD_set_ne (by decide)] at h; exact h))), (fun h => (fun _ _ h => h.keep ((Frm.refl [] w1).alloc _) : ∀ k u, AskV w1 gb sb lb k u → AskV (w1.alloc (.map #[] 0)) gb sb lb k u) _ _ (c10 (by rw [getD_set_ne (by decide)] at h; exact h))), (fun h => (fun _ _ h => h.keep ((Frm.refl [] w1).alloc _) : ∀ k u, AskV w1 gb sb lb k u → AskV (w1.alloc (.map #[] 0)) gb sb lb k u) _ _ (c11 (by rw [getD_set_ne (by decide)] at h; exact h))), fun h => ?_, fun h => ?_⟩
        · rw [getD_set_ne (by decide)] at h; have := (m51 h).2; rw [getD_tf hun] at this; cases this
        · rw [getD_set_ne (by decide)] at h; have := (m52 h).2; rw [getD_tf hun] at this; cases this
      · rw [show (_ : Array Oper)[17]? = some { dst := some 19, op := Go.Op.call { callee := Go.Callee.value (Go.Operand.func 31), args := #[Go.Operand.tmp 18, Go.Operand.func 32], argTypes := #[54, 73] }, type := 50, pos := "built.go:117", after := #[{ on := 16, ground := Go.Ground.data }], guard := none } from rfl] at ho
        cases ho
        refine wpOp_inv (o := { dst := some 19, op := Go.Op.call { callee := Go.Callee.value (Go.Operand.func 31), args := #[Go.Operand.tmp 18, Go.Operand.func 32], argTypes := #[54, 73] }, type := 50, pos := "built.go:117", after := #[{ on := 16, ground := Go.Ground.data }], guard := none }) rfl (fun K' hK => ?_)
        go_simp
        refine (goals_compare 32 sb lb _).mono ?_
        rintro e w2 ⟨⟨v2, rfl, hv2⟩, F2⟩
        have hz := hinv.quiet F2 17 (by decide) (by decide)
        dsimp only
        refine hK.out _ _ ⟨fun _ => hz.gat, x3, x6, _, x22, x25, x31, x34, x37, x40, x44, rfl, hz, all_pure hpu, (fun _ => hv2), (fun h => (fun _ _ h => h.keep F2 : ∀ k u, AskV w1 gb sb lb k u → AskV w2 gb sb lb k u) _ _ (c5 (by rw [getD_set_ne (by decide)] at h; exact h))), (fun h => (fun _ _ h => h.keep F2 : ∀ k u, AskV w1 gb sb lb k u → AskV w2 gb sb lb k u) _ _ (c6 (by rw [getD_set_ne (by decide)] at h; exact h))), (fun h => (fun _ _ h => h.keep F2 : ∀ k u, AskV w1 gb sb lb k u → AskV w2 gb sb lb k u) _ _ (c8 (by rw [getD_set_ne (by decide)] at h; exact h))), (fun h => (fun _ _ h => h.keep F2 : ∀ k u, AskV w1 gb sb lb k u → AskV w2 gb sb lb k u) _ _ (c9 (by rw [getD_set_ne (by decide)] at h; exact h))), (fun h => (fun _ _ h => h.keep F2 : ∀ k u, AskV w1 gb sb lb k u → AskV w2 gb sb lb k u) _ _ (c10 (by rw [getD_set_ne (by decide)] at h; exact h))), (fun h => (fun _ _ h => h.keep F2 : ∀ k u, AskV w1 gb sb lb k u → AskV w2 gb sb lb k u) _ _ (c11 (by rw [getD_set_ne (by decide)] at h; exact h))), fun h => ?_, fun h => ?_⟩
        · rw [getD_set_ne (by decide)] at h ⊢; exact m51 h
        · rw [getD_set_ne (by decide)] at h ⊢; exact m52 h
      · rw [show (_ : Array Oper)[21]? = some { dst := some 22, op := Go.Op.call { callee := Go.Callee.value (Go.Operand.func 31), args := #[Go.Operand.tmp 21, Go.Operand.func 33], argTypes := #[54, 73] }, type := 50, pos := "built.go:118", after := #[{ on := 20, ground := Go.Ground.data }, { on := 17, ground := Go.Ground.chain }], guard := none } from rfl] at ho
        cases ho
        refine wpOp_inv (o := { dst := some 22, op := Go.Op.call { callee := Go.Callee.value (Go.Operand.func 31), args := #[Go.Operand.tmp 21, Go.Operand.func 33], argTypes := #[54, 73] }, type := 50, pos := "built.go:118", after := #[{ on := 20, ground := Go.Ground.data }, { on := 17, ground := Go.Ground.chain }], guard := none }) rfl (fun K' hK => ?_)
        go_simp
        refine (goals_compare 33 sb lb _).mono ?_
        rintro e w2 ⟨⟨v2, rfl, hv2⟩, F2⟩
        have hz := hinv.quiet F2 21 (by decide) (by decide)
        dsimp only
        refine hK.out _ _ ⟨fun _ => hz.gat, x3, x6, x19, _, x25, x31, x34, x37, x40, x44, rfl, hz, all_pure hpu, (fun h => (fun _ _ h => h.keep F2 : ∀ k u, AskV w1 gb sb lb k u → AskV w2 gb sb lb k u) _ _ (c4 (by rw [getD_set_ne (by decide)] at h; exact h))), (fun _ => hv2), (fun h => (fun _ _ h => h.keep F2 : ∀ k u, AskV w1 gb sb lb k u → AskV w2 gb sb lb k u) _ _ (c6 (by rw [getD_set_ne (by decide)] at h; exact h))), (fun h => (fun _ _ h => h.keep F2 : ∀ k u, AskV w1 gb sb lb k u → AskV w2 gb sb lb k u) _ _ (c8 (by rw [getD_set_ne (by decide)] at h; exact h))), (fun h => (fun _ _ h => h.keep F2 : ∀ k u, AskV w1 gb sb lb k u → AskV w2 gb sb lb k u) _ _ (c9 (by rw [getD_set_ne (by decide)] at h; exact h))), (fun h => (fun _ _ h => h.keep F2 : ∀ k u, AskV w1 gb sb lb k u → AskV w2 gb sb lb k u) _ _ (c10 (by rw [getD_set_ne (by decide)] at h; exact h))), (fun h => (fun _ _ h => h.keep F2 : ∀ k u, AskV w1 gb sb lb k u → AskV w2 gb sb lb k u) _ _ (c11 (by rw [getD_set_ne (by decide)] at h; exact h))), fun h => ?_, fun h => ?_⟩
        · rw [getD_set_ne (by decide)] at h ⊢; exact m51 h
        · rw [getD_set_ne (by decide)] at h ⊢; exact m52 h
      · rw [show (_ : Array Oper)[25]? = some { dst := some 25, op := Go.Op.call { callee := Go.Callee.value (Go.Operand.func 31), args := #[Go.Operand.tmp 24, Go.Operand.func 34], argTypes := #[54, 73] }, type := 50, pos := "built.go:119", after := #[{ on := 24, ground := Go.Ground.data }, { on := 21, ground := Go.Ground.chain }], guard := none } from rfl] at ho
        cases ho
        refine wpOp_inv (o := { dst := some 25, op := Go.Op.call { callee := Go.Callee.value (Go.Operand.func 31), args := #[Go.Operand.tmp 24, Go.Operand.func 34], argTypes := #[54, 73] }, type := 50, pos := "built.go:119", after := #[{ on := 24, ground := Go.Ground.data }, { on := 21, ground := Go.Ground.chain }], guard := none }) rfl (fun K' hK => ?_)
        go_simp
        refine (goals_compare 34 sb lb _).mono ?_
        rintro e w2 ⟨⟨v2, rfl, hv2⟩, F2⟩
        have hz := hinv.quiet F2 25 (by decide) (by decide)
        dsimp only
        refine hK.out _ _ ⟨fun _ => hz.gat, x3, x6, x19, x22, _, x31, x34, x37, x40, x44, rfl, hz, all_pure hpu, (fun h => (fun _ _ h => h.keep F2 : ∀ k u, AskV w1 gb sb lb k u → AskV w2 gb sb lb k u) _ _ (c4 (by rw [getD_set_ne (by decide)] at h; exact h))), (fun h => (fun _ _ h => h.keep F2 : ∀ k u, AskV w1 gb sb lb k u → AskV w2 gb sb lb k u) _ _ (c5 (by rw [getD_set_ne (by decide)] at h; exact h))), (fun _ => hv2), (fun h => (fun _ _ h => h.keep F2 : ∀ k u, AskV w1 gb sb lb k u → AskV w2 gb sb lb k u) _ _ (c8 (by rw [getD_set_ne (by decide)] at h; exact h))), (fun h => (fun _ _ h => h.keep F2 : ∀ k u, AskV w1 gb sb lb k u → AskV w2 gb sb lb k u) _ _ (c9 (by rw [getD_set_ne (by decide)] at h; exact h))), (fun h => (fun _ _ h => h.keep F2 : ∀ k u, AskV w1 gb sb lb k u → AskV w2 gb sb lb k u) _ _ (c10 (by rw [getD_set_ne (by decide)] at h; exact h))), (fun h => (fun _ _ h => h.keep F2 : ∀ k u, AskV w1 gb sb lb k u → AskV w2 gb sb lb k u) _ _ (c11 (by rw [getD_set_ne (by decide)] at h; exact h))), fun h => ?_, fun h => ?_⟩
        · rw [getD_set_ne (by decide)] at h ⊢; exact m51 h
        · rw [getD_set_ne (by decide)] at h ⊢; exact m52 h
      · rw [show (_ : Array Oper)[33]? = some { dst := some 31, op := Go.Op.call { callee := Go.Callee.value (Go.Operand.func 36), args := #[Go.Operand.tmp 30, Go.Operand.func 37], argTypes := #[54, 24] }, type := 50, pos := "built.go:121", after := #[{ on := 32, ground := Go.Ground.data }, { on := 25, ground := Go.Ground.chain }], guard := none } from rfl] at ho
        cases ho
        refine wpOp_inv (o := { dst := some 31, op := Go.Op.call { callee := Go.Callee.value (Go.Operand.func 36), args := #[Go.Operand.tmp 30, Go.Operand.func 37], argTypes := #[54, 24] }, type := 50, pos := "built.go:121", after := #[{ on := 32, ground := Go.Ground.data }, { on := 25, ground := Go.Ground.chain }], guard := none }) rfl (fun K' hK => ?_)
        go_simp
        refine (goals_kind 37 sb lb _).mono ?_
        rintro e w2 ⟨⟨v2, rfl, hv2⟩, F2⟩
        have hz := hinv.quiet F2 33 (by decide) (by decide)
        dsimp only
        refine hK.out _ _ ⟨fun _ => hz.gat, x3, x6, x19, x22, x25, _, x34, x37, x40, x44, rfl, hz, all_pure hpu, (fun h => (fun _ _ h => h.keep F2 : ∀ k u, AskV w1 gb sb lb k u → AskV w2 gb sb lb k u) _ _ (c4 (by rw [getD_set_ne (by decide)] at h; exact h))), (fun h => (fun _ _ h => h.keep F2 : ∀ k u, AskV w1 gb sb lb k u → AskV w2 gb sb lb k u) _ _ (c5 (by rw [getD_set_ne (by decide)] at h; exact h))), (fun h => (fun _ _ h => h.keep F2 : ∀ k u, AskV w1 gb sb lb k u → AskV w2 gb sb lb k u) _ _ (c6 (by rw [getD_set_ne (by decide)] at h; exact h))), (fun _ => hv2), (fun h => (fun _ _ h => h.keep F2 : ∀ k u, AskV w1 gb sb lb k u → AskV w2 gb sb lb k u) _ _ (c9 (by rw [getD_set_ne (by decide)] at h; exact h))), (fun h => (fun _ _ h => h.keep F2 : ∀ k u, AskV w1 gb sb lb k u → AskV w2 gb sb lb k u) _ _ (c10 (by rw [getD_set_ne (by decide)] at h; exact h))), (fun h => (fun _ _ h => h.keep F2 : ∀ k u, AskV w1 gb sb lb k u → AskV w2 gb sb lb k u) _ _ (c11 (by rw [getD_set_ne (by decide)] at h; exact h))), fun h => ?_, fun h => ?_⟩
        · rw [getD_set_ne (by decide)] at h ⊢; exact m51 h
        · rw [getD_set_ne (by decide)] at h ⊢; exact m52 h
      · rw [show (_ : Array Oper)[37]? = some { dst := some 34, op := Go.Op.call { callee := Go.Callee.value (Go.Operand.func 36), args := #[Go.Operand.tmp 33, Go.Operand.func 38], argTypes := #[54, 24] }, type := 50, pos := "built.go:122", after := #[{ on := 36, ground := Go.Ground.data }, { on := 33, ground := Go.Ground.chain }], guard := none } from rfl] at ho
        cases ho
        refine wpOp_inv (o := { dst := some 34, op := Go.Op.call { callee := Go.Callee.value (Go.Operand.func 36), args := #[Go.Operand.tmp 33, Go.Operand.func 38], argTypes := #[54, 24] }, type := 50, pos := "built.go:122", after := #[{ on := 36, ground := Go.Ground.data }, { on := 33, ground := Go.Ground.chain }], guard := none }) rfl (fun K' hK => ?_)
        go_simp
        refine (goals_kind 38 sb lb _).mono ?_
        rintro e w2 ⟨⟨v2, rfl, hv2⟩, F2⟩
        have hz := hinv.quiet F2 37 (by decide) (by decide)
        dsimp only
        refine hK.out _ _ ⟨fun _ => hz.gat, x3, x6, x19, x22, x25, x31, _, x37, x40, x44, rfl, hz, all_pure hpu, (fun h => (fun _ _ h => h.keep F2 : ∀ k u, AskV w1 gb sb lb k u → AskV w2 gb sb lb k u) _ _ (c4 (by rw [getD_set_ne (by decide)] at h; exact h))), (fun h => (fun _ _ h => h.keep F2 : ∀ k u, AskV w1 gb sb lb k u → AskV w2 gb sb lb k u) _ _ (c5 (by rw [getD_set_ne (by decide)] at h; exact h))), (fun h => (fun _ _ h => h.keep F2 : ∀ k u, AskV w1 gb sb lb k u → AskV w2 gb sb lb k u) _ _ (c6 (by rw [getD_set_ne (by decide)] at h; exact h))), (fun h => (fun _ _ h => h.keep F2 : ∀ k u, AskV w1 gb sb lb k u → AskV w2 gb sb lb k u) _ _ (c8 (by rw [getD_set_ne (by decide)] at h; exact h))), (fun _ => hv2), (fun h => (fun _ _ h => h.keep F2 : ∀ k u, AskV w1 gb sb lb k u → AskV w2 gb sb lb k u) _ _ (c10 (by rw [getD_set_ne (by decide)] at h; exact h))), (fun h => (fun _ _ h => h.keep F2 : ∀ k u, AskV w1 gb sb lb k u → AskV w2 gb sb lb k u) _ _ (c11 (by rw [getD_set_ne (by decide)] at h; exact h))), fun h => ?_, fun h => ?_⟩
        · rw [getD_set_ne (by decide)] at h ⊢; exact m51 h
        · rw [getD_set_ne (by decide)] at h ⊢; exact m52 h
      · rw [show (_ : Array Oper)[41]? = some { dst := some 37, op := Go.Op.call { callee := Go.Callee.value (Go.Operand.func 36), args := #[Go.Operand.tmp 36, Go.Operand.func 39], argTypes := #[54, 24] }, type := 50, pos := "built.go:123", after := #[{ on := 40, ground := Go.Ground.data }, { on := 37, ground := Go.Ground.chain }], guard := none } from rfl] at ho
        cases ho
        refine wpOp_inv (o := { dst := some 37, op := Go.Op.call { callee := Go.Callee.value (Go.Operand.func 36), args := #[Go.Operand.tmp 36, Go.Operand.func 39], argTypes := #[54, 24] }, type := 50, pos := "built.go:123", after := #[{ on := 40, ground := Go.Ground.data }, { on := 37, ground := Go.Ground.chain }], guard := none }) rfl (fun K' hK => ?_)
        go_simp
        refine (goals_kind 39 sb lb _).mono ?_
        rintro e w2 ⟨⟨v2, rfl, hv2⟩, F2⟩
        have hz := hinv.quiet F2 41 (by decide) (by decide)
        dsimp only
        refine hK.out _ _ ⟨fun _ => hz.gat, x3, x6, x19, x22, x25, x31, x34, _, x40, x44, rfl, hz, all_pure hpu, (fun h => (fun _ _ h => h.keep F2 : ∀ k u, AskV w1 gb sb lb k u → AskV w2 gb sb lb k u) _ _ (c4 (by rw [getD_set_ne (by decide)] at h; exact h))), (fun h => (fun _ _ h => h.keep F2 : ∀ k u, AskV w1 gb sb lb k u → AskV w2 gb sb lb k u) _ _ (c5 (by rw [getD_set_ne (by decide)] at h; exact h))), (fun h => (fun _ _ h => h.keep F2 : ∀ k u, AskV w1 gb sb lb k u → AskV w2 gb sb lb k u) _ _ (c6 (by rw [getD_set_ne (by decide)] at h; exact h))), (fun h => (fun _ _ h => h.keep F2 : ∀ k u, AskV w1 gb sb lb k u → AskV w2 gb sb lb k u) _ _ (c8 (by rw [getD_set_ne (by decide)] at h; exact h))), (fun h => (fun _ _ h => h.keep F2 : ∀ k u, AskV w1 gb sb lb k u → AskV w2 gb sb lb k u) _ _ (c9 (by rw [getD_set_ne (by decide)] at h; exact h))), (fun _ => hv2), (fun h => (fun _ _ h => h.keep F2 : ∀ k u, AskV w1 gb sb lb k u → AskV w2 gb sb lb k u) _ _ (c11 (by rw [getD_set_ne (by decide)] at h; exact h))), fun h => ?_, fun h => ?_⟩
        · rw [getD_set_ne (by decide)] at h ⊢; exact m51 h
        · rw [getD_set_ne (by decide)] at h ⊢; exact m52 h
      · rw [show (_ : Array Oper)[45]? = some { dst := some 40, op := Go.Op.call { callee := Go.Callee.value (Go.Operand.func 36), args := #[Go.Operand.tmp 39, Go.Operand.func 40], argTypes := #[54, 24] }, type := 50, pos := "built.go:124", after := #[{ on := 44, ground := Go.Ground.data }, { on := 41, ground := Go.Ground.chain }], guard := none } from rfl] at ho
        cases ho
        refine wpOp_inv (o := { dst := some 40, op := Go.Op.call { callee := Go.Callee.value (Go.Operand.func 36), args := #[Go.Operand.tmp 39, Go.Operand.func 40], argTypes := #[54, 24] }, type := 50, pos := "built.go:124", after := #[{ on := 44, ground := Go.Ground.data }, { on := 41, ground := Go.Ground.chain }], guard := none }) rfl (fun K' hK => ?_)
        go_simp
        refine (goals_kind 40 sb lb _).mono ?_
        rintro e w2 ⟨⟨v2, rfl, hv2⟩, F2⟩
        have hz := hinv.quiet F2 45 (by decide) (by decide)
        dsimp only
        refine hK.out _ _ ⟨fun _ => hz.gat, x3, x6, x19, x22, x25, x31, x34, x37, _, x44, rfl, hz, all_pure hpu, (fun h => (fun _ _ h => h.keep F2 : ∀ k u, AskV w1 gb sb lb k u → AskV w2 gb sb lb k u) _ _ (c4 (by rw [getD_set_ne (by decide)] at h; exact h))), (fun h => (fun _ _ h => h.keep F2 : ∀ k u, AskV w1 gb sb lb k u → AskV w2 gb sb lb k u) _ _ (c5 (by rw [getD_set_ne (by decide)] at h; exact h))), (fun h => (fun _ _ h => h.keep F2 : ∀ k u, AskV w1 gb sb lb k u → AskV w2 gb sb lb k u) _ _ (c6 (by rw [getD_set_ne (by decide)] at h; exact h))), (fun h => (fun _ _ h => h.keep F2 : ∀ k u, AskV w1 gb sb lb k u → AskV w2 gb sb lb k u) _ _ (c8 (by rw [getD_set_ne (by decide)] at h; exact h))), (fun h => (fun _ _ h => h.keep F2 : ∀ k u, AskV w1 gb sb lb k u → AskV w2 gb sb lb k u) _ _ (c9 (by rw [getD_set_ne (by decide)] at h; exact h))), (fun h => (fun _ _ h => h.keep F2 : ∀ k u, AskV w1 gb sb lb k u → AskV w2 gb sb lb k u) _ _ (c10 (by rw [getD_set_ne (by decide)] at h; exact h))), (fun _ => hv2), fun h => ?_, fun h => ?_⟩
        · rw [getD_set_ne (by decide)] at h ⊢; exact m51 h
        · rw [getD_set_ne (by decide)] at h ⊢; exact m52 h
      · rw [show (_ : Array Oper)[3]? = some { dst := none, op := Go.Op.insert 52 (Go.Operand.tmp 6) (Go.Operand.tmp 7) (Go.Operand.tmp 8), type := 0, pos := "built.go:112", after := #[{ on := 0, ground := Go.Ground.data }, { on := 1, ground := Go.Ground.data }, { on := 2, ground := Go.Ground.data }], guard := none } from rfl] at ho
        cases ho
        have d0 : listed.getD 0 false = true := hall { on := 0, ground := Go.Ground.data } (by simp) rfl
        obtain ⟨mb, w2, rfl, hrun, hz, hkp⟩ := hinv.ins d0 (i := 0) (by decide) hun (v := .func (.func 27) #[] #[.pointer (some ⟨gb, 0, none⟩)]) rfl
        have hrun2 : (Instr.mapUpdate 52 (.map (some mb)) (.agg #[.string ⟨#[116, 114, 117, 101]⟩, .int .i64 0]) (.func (.func 27) #[] #[.pointer (some ⟨gb, 0, none⟩)])).run Try.prog w1 = .ok () w2 := hrun
        refine wpOp_inv (o := { dst := none, op := Go.Op.insert 52 (Go.Operand.tmp 6) (Go.Operand.tmp 7) (Go.Operand.tmp 8), type := 0, pos := "built.go:112", after := #[{ on := 0, ground := Go.Ground.data }, { on := 1, ground := Go.Ground.data }, { on := 2, ground := Go.Ground.data }], guard := none }) rfl (fun K' hK => ?_)
        clear hrun
        go_simp
        refine hK.out _ _ ⟨fun _ => hz.gat, x3, _, x19, x22, x25, x31, x34, x37, x40, x44, rfl, hz, all_pure hpu, (fun h => hkp _ _ (c4 (by rw [getD_set_ne (by decide)] at h; exact h))), (fun h => hkp _ _ (c5 (by rw [getD_set_ne (by decide)] at h; exact h))), (fun h => hkp _ _ (c6 (by rw [getD_set_ne (by decide)] at h; exact h))), (fun h => hkp _ _ (c8 (by rw [getD_set_ne (by decide)] at h; exact h))), (fun h => hkp _ _ (c9 (by rw [getD_set_ne (by decide)] at h; exact h))), (fun h => hkp _ _ (c10 (by rw [getD_set_ne (by decide)] at h; exact h))), (fun h => hkp _ _ (c11 (by rw [getD_set_ne (by decide)] at h; exact h))), fun h => ?_, fun h => ?_⟩
        · rw [getD_set_ne (by decide)] at h ⊢; exact m51 h
        · rw [getD_set_ne (by decide)] at h ⊢; exact m52 h
      · rw [show (_ : Array Oper)[6]? = some { dst := none, op := Go.Op.insert 52 (Go.Operand.tmp 6) (Go.Operand.tmp 9) (Go.Operand.tmp 10), type := 0, pos := "built.go:112", after := #[{ on := 0, ground := Go.Ground.data }, { on := 4, ground := Go.Ground.data }, { on := 5, ground := Go.Ground.data }], guard := none } from rfl] at ho
        cases ho
        have d0 : listed.getD 0 false = true := hall { on := 0, ground := Go.Ground.data } (by simp) rfl
        obtain ⟨mb, w2, rfl, hrun, hz, hkp⟩ := hinv.ins d0 (i := 1) (by decide) hun (v := .func (.func 28) #[] #[.pointer (some ⟨gb, 0, none⟩)]) rfl
        have hrun2 : (Instr.mapUpdate 52 (.map (some mb)) (.agg #[.string ⟨#[102, 97, 105, 108]⟩, .int .i64 0]) (.func (.func 28) #[] #[.pointer (some ⟨gb, 0, none⟩)])).run Try.prog w1 = .ok () w2 := hrun
        refine wpOp_inv (o := { dst := none, op := Go.Op.insert 52 (Go.Operand.tmp 6) (Go.Operand.tmp 9) (Go.Operand.tmp 10), type := 0, pos := "built.go:112", after := #[{ on := 0, ground := Go.Ground.data }, { on := 4, ground := Go.Ground.data }, { on := 5, ground := Go.Ground.data }], guard := none }) rfl (fun K' hK => ?_)
        clear hrun
        go_simp
        refine hK.out _ _ ⟨fun _ => hz.gat, x3, _, x19, x22, x25, x31, x34, x37, x40, x44, rfl, hz, all_pure hpu, (fun h => hkp _ _ (c4 (by rw [getD_set_ne (by decide)] at h; exact h))), (fun h => hkp _ _ (c5 (by rw [getD_set_ne (by decide)] at h; exact h))), (fun h => hkp _ _ (c6 (by rw [getD_set_ne (by decide)] at h; exact h))), (fun h => hkp _ _ (c8 (by rw [getD_set_ne (by decide)] at h; exact h))), (fun h => hkp _ _ (c9 (by rw [getD_set_ne (by decide)] at h; exact h))), (fun h => hkp _ _ (c10 (by rw [getD_set_ne (by decide)] at h; exact h))), (fun h => hkp _ _ (c11 (by rw [getD_set_ne (by decide)] at h; exact h))), fun h => ?_, fun h => ?_⟩
        · rw [getD_set_ne (by decide)] at h ⊢; exact m51 h
        · rw [getD_set_ne (by decide)] at h ⊢; exact m52 h
      · rw [show (_ : Array Oper)[10]? = some { dst := none, op := Go.Op.insert 52 (Go.Operand.tmp 6) (Go.Operand.tmp 11) (Go.Operand.tmp 13), type := 0, pos := "built.go:112", after := #[{ on := 0, ground := Go.Ground.data }, { on := 7, ground := Go.Ground.data }, { on := 9, ground := Go.Ground.data }], guard := none } from rfl] at ho
        cases ho
        have d0 : listed.getD 0 false = true := hall { on := 0, ground := Go.Ground.data } (by simp) rfl
        obtain ⟨mb, w2, rfl, hrun, hz, hkp⟩ := hinv.ins d0 (i := 2) (by decide) hun (v := .func (.func 29) #[.agg #[.pointer (some ⟨sb, 0, none⟩), .pointer (some ⟨lb, 0, none⟩)]] #[]) rfl
        have hrun2 : (Instr.mapUpdate 52 (.map (some mb)) (.agg #[.string ⟨#[61]⟩, .int .i64 2]) (.func (.func 29) #[.agg #[.pointer (some ⟨sb, 0, none⟩), .pointer (some ⟨lb, 0, none⟩)]] #[])).run Try.prog w1 = .ok () w2 := hrun
        refine wpOp_inv (o := { dst := none, op := Go.Op.insert 52 (Go.Operand.tmp 6) (Go.Operand.tmp 11) (Go.Operand.tmp 13), type := 0, pos := "built.go:112", after := #[{ on := 0, ground := Go.Ground.data }, { on := 7, ground := Go.Ground.data }, { on := 9, ground := Go.Ground.data }], guard := none }) rfl (fun K' hK => ?_)
        clear hrun
        go_simp
        refine hK.out _ _ ⟨fun _ => hz.gat, x3, _, x19, x22, x25, x31, x34, x37, x40, x44, rfl, hz, all_pure hpu, (fun h => hkp _ _ (c4 (by rw [getD_set_ne (by decide)] at h; exact h))), (fun h => hkp _ _ (c5 (by rw [getD_set_ne (by decide)] at h; exact h))), (fun h => hkp _ _ (c6 (by rw [getD_set_ne (by decide)] at h; exact h))), (fun h => hkp _ _ (c8 (by rw [getD_set_ne (by decide)] at h; exact h))), (fun h => hkp _ _ (c9 (by rw [getD_set_ne (by decide)] at h; exact h))), (fun h => hkp _ _ (c10 (by rw [getD_set_ne (by decide)] at h; exact h))), (fun h => hkp _ _ (c11 (by rw [getD_set_ne (by decide)] at h; exact h))), fun h => ?_, fun h => ?_⟩
        · rw [getD_set_ne (by decide)] at h ⊢; exact m51 h
        · rw [getD_set_ne (by decide)] at h ⊢; exact m52 h
      · rw [show (_ : Array Oper)[14]? = some { dst := none, op := Go.Op.insert 52 (Go.Operand.tmp 6) (Go.Operand.tmp 14) (Go.Operand.tmp 16), type := 0, pos := "built.go:112", after := #[{ on := 0, ground := Go.Ground.data }, { on := 11, ground := Go.Ground.data }, { on := 13, ground := Go.Ground.data }], guard := none } from rfl] at ho
        cases ho
        have d0 : listed.getD 0 false = true := hall { on := 0, ground := Go.Ground.data } (by simp) rfl
        obtain ⟨mb, w2, rfl, hrun, hz, hkp⟩ := hinv.ins d0 (i := 3) (by decide) hun (v := .func (.func 30) #[.agg #[.pointer (some ⟨sb, 0, none⟩), .pointer (some ⟨lb, 0, none⟩)]] #[]) rfl
        have hrun2 : (Instr.mapUpdate 52 (.map (some mb)) (.agg #[.string ⟨#[92, 61]⟩, .int .i64 2]) (.func (.func 30) #[.agg #[.pointer (some ⟨sb, 0, none⟩), .pointer (some ⟨lb, 0, none⟩)]] #[])).run Try.prog w1 = .ok () w2 := hrun
        refine wpOp_inv (o := { dst := none, op := Go.Op.insert 52 (Go.Operand.tmp 6) (Go.Operand.tmp 14) (Go.Operand.tmp 16), type := 0, pos := "built.go:112", after := #[{ on := 0, ground := Go.Ground.data }, { on := 11, ground := Go.Ground.data }, { on := 13, ground := Go.Ground.data }], guard := none }) rfl (fun K' hK => ?_)
        clear hrun
        go_simp
        refine hK.out _ _ ⟨fun _ => hz.gat, x3, _, x19, x22, x25, x31, x34, x37, x40, x44, rfl, hz, all_pure hpu, (fun h => hkp _ _ (c4 (by rw [getD_set_ne (by decide)] at h; exact h))), (fun h => hkp _ _ (c5 (by rw [getD_set_ne (by decide)] at h; exact h))), (fun h => hkp _ _ (c6 (by rw [getD_set_ne (by decide)] at h; exact h))), (fun h => hkp _ _ (c8 (by rw [getD_set_ne (by decide)] at h; exact h))), (fun h => hkp _ _ (c9 (by rw [getD_set_ne (by decide)] at h; exact h))), (fun h => hkp _ _ (c10 (by rw [getD_set_ne (by decide)] at h; exact h))), (fun h => hkp _ _ (c11 (by rw [getD_set_ne (by decide)] at h; exact h))), fun h => ?_, fun h => ?_⟩
        · rw [getD_set_ne (by decide)] at h ⊢; exact m51 h
        · rw [getD_set_ne (by decide)] at h ⊢; exact m52 h
      · rw [show (_ : Array Oper)[18]? = some { dst := none, op := Go.Op.insert 52 (Go.Operand.tmp 6) (Go.Operand.tmp 17) (Go.Operand.tmp 19), type := 0, pos := "built.go:112", after := #[{ on := 0, ground := Go.Ground.data }, { on := 15, ground := Go.Ground.data }, { on := 17, ground := Go.Ground.data }], guard := none } from rfl] at ho
        cases ho
        have d0 : listed.getD 0 false = true := hall { on := 0, ground := Go.Ground.data } (by simp) rfl
        have dc : listed.getD 17 false = true := hall { on := 17, ground := Go.Ground.data } (by simp) rfl
        obtain ⟨mb, w2, rfl, hrun, hz, hkp⟩ := hinv.ins d0 (i := 4) (by decide) hun (c4 dc)
        have hrun2 : (Instr.mapUpdate 52 (.map (some mb)) (.agg #[.string ⟨#[61, 61]⟩, .int .i64 2]) (x19)).run Try.prog w1 = .ok () w2 := hrun
        refine wpOp_inv (o := { dst := none, op := Go.Op.insert 52 (Go.Operand.tmp 6) (Go.Operand.tmp 17) (Go.Operand.tmp 19), type := 0, pos := "built.go:112", after := #[{ on := 0, ground := Go.Ground.data }, { on := 15, ground := Go.Ground.data }, { on := 17, ground := Go.Ground.data }], guard := none }) rfl (fun K' hK => ?_)
        clear hrun
        go_simp
        refine hK.out _ _ ⟨fun _ => hz.gat, x3, _, x19, x22, x25, x31, x34, x37, x40, x44, rfl, hz, all_pure hpu, (fun h => hkp _ _ (c4 (by rw [getD_set_ne (by decide)] at h; exact h))), (fun h => hkp _ _ (c5 (by rw [getD_set_ne (by decide)] at h; exact h))), (fun h => hkp _ _ (c6 (by rw [getD_set_ne (by decide)] at h; exact h))), (fun h => hkp _ _ (c8 (by rw [getD_set_ne (by decide)] at h; exact h))), (fun h => hkp _ _ (c9 (by rw [getD_set_ne (by decide)] at h; exact h))), (fun h => hkp _ _ (c10 (by rw [getD_set_ne (by decide)] at h; exact h))), (fun h => hkp _ _ (c11 (by rw [getD_set_ne (by decide)] at h; exact h))), fun h => ?_, fun h => ?_⟩
        · rw [getD_set_ne (by decide)] at h ⊢; exact m51 h
        · rw [getD_set_ne (by decide)] at h ⊢; exact m52 h
      · rw [show (_ : Array Oper)[22]? = some { dst := none, op := Go.Op.insert 52 (Go.Operand.tmp 6) (Go.Operand.tmp 20) (Go.Operand.tmp 22), type := 0, pos := "built.go:112", after := #[{ on := 0, ground := Go.Ground.data }, { on := 19, ground := Go.Ground.data }, { on := 21, ground := Go.Ground.data }], guard := none } from rfl] at ho
        cases ho
        have d0 : listed.getD 0 false = true := hall { on := 0, ground := Go.Ground.data } (by simp) rfl
        have dc : listed.getD 21 false = true := hall { on := 21, ground := Go.Ground.data } (by simp) rfl
        obtain ⟨mb, w2, rfl, hrun, hz, hkp⟩ := hinv.ins d0 (i := 5) (by decide) hun (c5 dc)
        have hrun2 : (Instr.mapUpdate 52 (.map (some mb)) (.agg #[.string ⟨#[92, 61, 61]⟩, .int .i64 2]) (x22)).run Try.prog w1 = .ok () w2 := hrun
        refine wpOp_inv (o := { dst := none, op := Go.Op.insert 52 (Go.Operand.tmp 6) (Go.Operand.tmp 20) (Go.Operand.tmp 22), type := 0, pos := "built.go:112", after := #[{ on := 0, ground := Go.Ground.data }, { on := 19, ground := Go.Ground.data }, { on := 21, ground := Go.Ground.data }], guard := none }) rfl (fun K' hK => ?_)
        clear hrun
        go_simp
        refine hK.out _ _ ⟨fun _ => hz.gat, x3, _, x19, x22, x25, x31, x34, x37, x40, x44, rfl, hz, all_pure hpu, (fun h => hkp _ _ (c4 (by rw [getD_set_ne (by decide)] at h; exact h))), (fun h => hkp _ _ (c5 (by rw [getD_set_ne (by decide)] at h; exact h))), (fun h => hkp _ _ (c6 (by rw [getD_set_ne (by decide)] at h; exact h))), (fun h => hkp _ _ (c8 (by rw [getD_set_ne (by decide)] at h; exact h))), (fun h => hkp _ _ (c9 (by rw [getD_set_ne (by decide)] at h; exact h))), (fun h => hkp _ _ (c10 (by rw [getD_set_ne (by decide)] at h; exact h))), (fun h => hkp _ _ (c11 (by rw [getD_set_ne (by decide)] at h; exact h))), fun h => ?_, fun h => ?_⟩
        · rw [getD_set_ne (by decide)] at h ⊢; exact m51 h
        · rw [getD_set_ne (by decide)] at h ⊢; exact m52 h
      · rw [show (_ : Array Oper)[26]? = some { dst := none, op := Go.Op.insert 52 (Go.Operand.tmp 6) (Go.Operand.tmp 23) (Go.Operand.tmp 25), type := 0, pos := "built.go:112", after := #[{ on := 0, ground := Go.Ground.data }, { on := 23, ground := Go.Ground.data }, { on := 25, ground := Go.Ground.data }], guard := none } from rfl] at ho
        cases ho
        have d0 : listed.getD 0 false = true := hall { on := 0, ground := Go.Ground.data } (by simp) rfl
        have dc : listed.getD 25 false = true := hall { on := 25, ground := Go.Ground.data } (by simp) rfl
        obtain ⟨mb, w2, rfl, hrun, hz, hkp⟩ := hinv.ins d0 (i := 6) (by decide) hun (c6 dc)
        have hrun2 : (Instr.mapUpdate 52 (.map (some mb)) (.agg #[.string ⟨#[64, 60]⟩, .int .i64 2]) (x25)).run Try.prog w1 = .ok () w2 := hrun
        refine wpOp_inv (o := { dst := none, op := Go.Op.insert 52 (Go.Operand.tmp 6) (Go.Operand.tmp 23) (Go.Operand.tmp 25), type := 0, pos := "built.go:112", after := #[{ on := 0, ground := Go.Ground.data }, { on := 23, ground := Go.Ground.data }, { on := 25, ground := Go.Ground.data }], guard := none }) rfl (fun K' hK => ?_)
        clear hrun
        go_simp
        refine hK.out _ _ ⟨fun _ => hz.gat, x3, _, x19, x22, x25, x31, x34, x37, x40, x44, rfl, hz, all_pure hpu, (fun h => hkp _ _ (c4 (by rw [getD_set_ne (by decide)] at h; exact h))), (fun h => hkp _ _ (c5 (by rw [getD_set_ne (by decide)] at h; exact h))), (fun h => hkp _ _ (c6 (by rw [getD_set_ne (by decide)] at h; exact h))), (fun h => hkp _ _ (c8 (by rw [getD_set_ne (by decide)] at h; exact h))), (fun h => hkp _ _ (c9 (by rw [getD_set_ne (by decide)] at h; exact h))), (fun h => hkp _ _ (c10 (by rw [getD_set_ne (by decide)] at h; exact h))), (fun h => hkp _ _ (c11 (by rw [getD_set_ne (by decide)] at h; exact h))), fun h => ?_, fun h => ?_⟩
        · rw [getD_set_ne (by decide)] at h ⊢; exact m51 h
        · rw [getD_set_ne (by decide)] at h ⊢; exact m52 h
      · rw [show (_ : Array Oper)[30]? = some { dst := none, op := Go.Op.insert 52 (Go.Operand.tmp 6) (Go.Operand.tmp 26) (Go.Operand.tmp 28), type := 0, pos := "built.go:112", after := #[{ on := 0, ground := Go.Ground.data }, { on := 27, ground := Go.Ground.data }, { on := 29, ground := Go.Ground.data }], guard := none } from rfl] at ho
        cases ho
        have d0 : listed.getD 0 false = true := hall { on := 0, ground := Go.Ground.data } (by simp) rfl
        obtain ⟨mb, w2, rfl, hrun, hz, hkp⟩ := hinv.ins d0 (i := 7) (by decide) hun (v := .func (.func 35) #[.agg #[.pointer (some ⟨sb, 0, none⟩), .pointer (some ⟨lb, 0, none⟩)]] #[]) rfl
        have hrun2 : (Instr.mapUpdate 52 (.map (some mb)) (.agg #[.string ⟨#[105, 115]⟩, .int .i64 2]) (.func (.func 35) #[.agg #[.pointer (some ⟨sb, 0, none⟩), .pointer (some ⟨lb, 0, none⟩)]] #[])).run Try.prog w1 = .ok () w2 := hrun
        refine wpOp_inv (o := { dst := none, op := Go.Op.insert 52 (Go.Operand.tmp 6) (Go.Operand.tmp 26) (Go.Operand.tmp 28), type := 0, pos := "built.go:112", after := #[{ on := 0, ground := Go.Ground.data }, { on := 27, ground := Go.Ground.data }, { on := 29, ground := Go.Ground.data }], guard := none }) rfl (fun K' hK => ?_)
        clear hrun
        go_simp
        refine hK.out _ _ ⟨fun _ => hz.gat, x3, _, x19, x22, x25, x31, x34, x37, x40, x44, rfl, hz, all_pure hpu, (fun h => hkp _ _ (c4 (by rw [getD_set_ne (by decide)] at h; exact h))), (fun h => hkp _ _ (c5 (by rw [getD_set_ne (by decide)] at h; exact h))), (fun h => hkp _ _ (c6 (by rw [getD_set_ne (by decide)] at h; exact h))), (fun h => hkp _ _ (c8 (by rw [getD_set_ne (by decide)] at h; exact h))), (fun h => hkp _ _ (c9 (by rw [getD_set_ne (by decide)] at h; exact h))), (fun h => hkp _ _ (c10 (by rw [getD_set_ne (by decide)] at h; exact h))), (fun h => hkp _ _ (c11 (by rw [getD_set_ne (by decide)] at h; exact h))), fun h => ?_, fun h => ?_⟩
        · rw [getD_set_ne (by decide)] at h ⊢; exact m51 h
        · rw [getD_set_ne (by decide)] at h ⊢; exact m52 h
      · rw [show (_ : Array Oper)[34]? = some { dst := none, op := Go.Op.insert 52 (Go.Operand.tmp 6) (Go.Operand.tmp 29) (Go.Operand.tmp 31), type := 0, pos := "built.go:112", after := #[{ on := 0, ground := Go.Ground.data }, { on := 31, ground := Go.Ground.data }, { on := 33, ground := Go.Ground.data }], guard := none } from rfl] at ho
        cases ho
        have d0 : listed.getD 0 false = true := hall { on := 0, ground := Go.Ground.data } (by simp) rfl
        have dc : listed.getD 33 false = true := hall { on := 33, ground := Go.Ground.data } (by simp) rfl
        obtain ⟨mb, w2, rfl, hrun, hz, hkp⟩ := hinv.ins d0 (i := 8) (by decide) hun (c8 dc)
        have hrun2 : (Instr.mapUpdate 52 (.map (some mb)) (.agg #[.string ⟨#[118, 97, 114]⟩, .int .i64 1]) (x31)).run Try.prog w1 = .ok () w2 := hrun
        refine wpOp_inv (o := { dst := none, op := Go.Op.insert 52 (Go.Operand.tmp 6) (Go.Operand.tmp 29) (Go.Operand.tmp 31), type := 0, pos := "built.go:112", after := #[{ on := 0, ground := Go.Ground.data }, { on := 31, ground := Go.Ground.data }, { on := 33, ground := Go.Ground.data }], guard := none }) rfl (fun K' hK => ?_)
        clear hrun
        go_simp
        refine hK.out _ _ ⟨fun _ => hz.gat, x3, _, x19, x22, x25, x31, x34, x37, x40, x44, rfl, hz, all_pure hpu, (fun h => hkp _ _ (c4 (by rw [getD_set_ne (by decide)] at h; exact h))), (fun h => hkp _ _ (c5 (by rw [getD_set_ne (by decide)] at h; exact h))), (fun h => hkp _ _ (c6 (by rw [getD_set_ne (by decide)] at h; exact h))), (fun h => hkp _ _ (c8 (by rw [getD_set_ne (by decide)] at h; exact h))), (fun h => hkp _ _ (c9 (by rw [getD_set_ne (by decide)] at h; exact h))), (fun h => hkp _ _ (c10 (by rw [getD_set_ne (by decide)] at h; exact h))), (fun h => hkp _ _ (c11 (by rw [getD_set_ne (by decide)] at h; exact h))), fun h => ?_, fun h => ?_⟩
        · rw [getD_set_ne (by decide)] at h ⊢; exact m51 h
        · rw [getD_set_ne (by decide)] at h ⊢; exact m52 h
      · rw [show (_ : Array Oper)[38]? = some { dst := none, op := Go.Op.insert 52 (Go.Operand.tmp 6) (Go.Operand.tmp 32) (Go.Operand.tmp 34), type := 0, pos := "built.go:112", after := #[{ on := 0, ground := Go.Ground.data }, { on := 35, ground := Go.Ground.data }, { on := 37, ground := Go.Ground.data }], guard := none } from rfl] at ho
        cases ho
        have d0 : listed.getD 0 false = true := hall { on := 0, ground := Go.Ground.data } (by simp) rfl
        have dc : listed.getD 37 false = true := hall { on := 37, ground := Go.Ground.data } (by simp) rfl
        obtain ⟨mb, w2, rfl, hrun, hz, hkp⟩ := hinv.ins d0 (i := 9) (by decide) hun (c9 dc)
        have hrun2 : (Instr.mapUpdate 52 (.map (some mb)) (.agg #[.string ⟨#[110, 111, 110, 118, 97, 114]⟩, .int .i64 1]) (x34)).run Try.prog w1 = .ok () w2 := hrun
        refine wpOp_inv (o := { dst := none, op := Go.Op.insert 52 (Go.Operand.tmp 6) (Go.Operand.tmp 32) (Go.Operand.tmp 34), type := 0, pos := "built.go:112", after := #[{ on := 0, ground := Go.Ground.data }, { on := 35, ground := Go.Ground.data }, { on := 37, ground := Go.Ground.data }], guard := none }) rfl (fun K' hK => ?_)
        clear hrun
        go_simp
        refine hK.out _ _ ⟨fun _ => hz.gat, x3, _, x19, x22, x25, x31, x34, x37, x40, x44, rfl, hz, all_pure hpu, (fun h => hkp _ _ (c4 (by rw [getD_set_ne (by decide)] at h; exact h))), (fun h => hkp _ _ (c5 (by rw [getD_set_ne (by decide)] at h; exact h))), (fun h => hkp _ _ (c6 (by rw [getD_set_ne (by decide)] at h; exact h))), (fun h => hkp _ _ (c8 (by rw [getD_set_ne (by decide)] at h; exact h))), (fun h => hkp _ _ (c9 (by rw [getD_set_ne (by decide)] at h; exact h))), (fun h => hkp _ _ (c10 (by rw [getD_set_ne (by decide)] at h; exact h))), (fun h => hkp _ _ (c11 (by rw [getD_set_ne (by decide)] at h; exact h))), fun h => ?_, fun h => ?_⟩
        · rw [getD_set_ne (by decide)] at h ⊢; exact m51 h
        · rw [getD_set_ne (by decide)] at h ⊢; exact m52 h
      · rw [show (_ : Array Oper)[42]? = some { dst := none, op := Go.Op.insert 52 (Go.Operand.tmp 6) (Go.Operand.tmp 35) (Go.Operand.tmp 37), type := 0, pos := "built.go:112", after := #[{ on := 0, ground := Go.Ground.data }, { on := 39, ground := Go.Ground.data }, { on := 41, ground := Go.Ground.data }], guard := none } from rfl] at ho
        cases ho
        have d0 : listed.getD 0 false = true := hall { on := 0, ground := Go.Ground.data } (by simp) rfl
        have dc : listed.getD 41 false = true := hall { on := 41, ground := Go.Ground.data } (by simp) rfl
        obtain ⟨mb, w2, rfl, hrun, hz, hkp⟩ := hinv.ins d0 (i := 10) (by decide) hun (c10 dc)
        have hrun2 : (Instr.mapUpdate 52 (.map (some mb)) (.agg #[.string ⟨#[97, 116, 111, 109]⟩, .int .i64 1]) (x37)).run Try.prog w1 = .ok () w2 := hrun
        refine wpOp_inv (o := { dst := none, op := Go.Op.insert 52 (Go.Operand.tmp 6) (Go.Operand.tmp 35) (Go.Operand.tmp 37), type := 0, pos := "built.go:112", after := #[{ on := 0, ground := Go.Ground.data }, { on := 39, ground := Go.Ground.data }, { on := 41, ground := Go.Ground.data }], guard := none }) rfl (fun K' hK => ?_)
        clear hrun
        go_simp
        refine hK.out _ _ ⟨fun _ => hz.gat, x3, _, x19, x22, x25, x31, x34, x37, x40, x44, rfl, hz, all_pure hpu, (fun h => hkp _ _ (c4 (by rw [getD_set_ne (by decide)] at h; exact h))), (fun h => hkp _ _ (c5 (by rw [getD_set_ne (by decide)] at h; exact h))), (fun h => hkp _ _ (c6 (by rw [getD_set_ne (by decide)] at h; exact h))), (fun h => hkp _ _ (c8 (by rw [getD_set_ne (by decide)] at h; exact h))), (fun h => hkp _ _ (c9 (by rw [getD_set_ne (by decide)] at h; exact h))), (fun h => hkp _ _ (c10 (by rw [getD_set_ne (by decide)] at h; exact h))), (fun h => hkp _ _ (c11 (by rw [getD_set_ne (by decide)] at h; exact h))), fun h => ?_, fun h => ?_⟩
        · rw [getD_set_ne (by decide)] at h ⊢; exact m51 h
        · rw [getD_set_ne (by decide)] at h ⊢; exact m52 h
      · rw [show (_ : Array Oper)[46]? = some { dst := none, op := Go.Op.insert 52 (Go.Operand.tmp 6) (Go.Operand.tmp 38) (Go.Operand.tmp 40), type := 0, pos := "built.go:112", after := #[{ on := 0, ground := Go.Ground.data }, { on := 43, ground := Go.Ground.data }, { on := 45, ground := Go.Ground.data }], guard := none } from rfl] at ho
        cases ho
        have d0 : listed.getD 0 false = true := hall { on := 0, ground := Go.Ground.data } (by simp) rfl
        have dc : listed.getD 45 false = true := hall { on := 45, ground := Go.Ground.data } (by simp) rfl
        obtain ⟨mb, w2, rfl, hrun, hz, hkp⟩ := hinv.ins d0 (i := 11) (by decide) hun (c11 dc)
        have hrun2 : (Instr.mapUpdate 52 (.map (some mb)) (.agg #[.string ⟨#[105, 110, 116, 101, 103, 101, 114]⟩, .int .i64 1]) (x40)).run Try.prog w1 = .ok () w2 := hrun
        refine wpOp_inv (o := { dst := none, op := Go.Op.insert 52 (Go.Operand.tmp 6) (Go.Operand.tmp 38) (Go.Operand.tmp 40), type := 0, pos := "built.go:112", after := #[{ on := 0, ground := Go.Ground.data }, { on := 43, ground := Go.Ground.data }, { on := 45, ground := Go.Ground.data }], guard := none }) rfl (fun K' hK => ?_)
        clear hrun
        go_simp
        refine hK.out _ _ ⟨fun _ => hz.gat, x3, _, x19, x22, x25, x31, x34, x37, x40, x44, rfl, hz, all_pure hpu, (fun h => hkp _ _ (c4 (by rw [getD_set_ne (by decide)] at h; exact h))), (fun h => hkp _ _ (c5 (by rw [getD_set_ne (by decide)] at h; exact h))), (fun h => hkp _ _ (c6 (by rw [getD_set_ne (by decide)] at h; exact h))), (fun h => hkp _ _ (c8 (by rw [getD_set_ne (by decide)] at h; exact h))), (fun h => hkp _ _ (c9 (by rw [getD_set_ne (by decide)] at h; exact h))), (fun h => hkp _ _ (c10 (by rw [getD_set_ne (by decide)] at h; exact h))), (fun h => hkp _ _ (c11 (by rw [getD_set_ne (by decide)] at h; exact h))), fun h => ?_, fun h => ?_⟩
        · rw [getD_set_ne (by decide)] at h ⊢; exact m51 h
        · rw [getD_set_ne (by decide)] at h ⊢; exact m52 h
      · rw [show (_ : Array Oper)[50]? = some { dst := none, op := Go.Op.insert 52 (Go.Operand.tmp 6) (Go.Operand.tmp 41) (Go.Operand.tmp 43), type := 0, pos := "built.go:112", after := #[{ on := 0, ground := Go.Ground.data }, { on := 47, ground := Go.Ground.data }, { on := 49, ground := Go.Ground.data }], guard := none } from rfl] at ho
        cases ho
        have d0 : listed.getD 0 false = true := hall { on := 0, ground := Go.Ground.data } (by simp) rfl
        obtain ⟨mb, w2, rfl, hrun, hz, hkp⟩ := hinv.ins d0 (i := 12) (by decide) hun (v := .func (.func 41) #[.agg #[.pointer (some ⟨sb, 0, none⟩), .pointer (some ⟨lb, 0, none⟩)]] #[]) rfl
        have hrun2 : (Instr.mapUpdate 52 (.map (some mb)) (.agg #[.string ⟨#[99, 111, 112, 121, 95, 116, 101, 114, 109]⟩, .int .i64 2]) (.func (.func 41) #[.agg #[.pointer (some ⟨sb, 0, none⟩), .pointer (some ⟨lb, 0, none⟩)]] #[])).run Try.prog w1 = .ok () w2 := hrun
        refine wpOp_inv (o := { dst := none, op := Go.Op.insert 52 (Go.Operand.tmp 6) (Go.Operand.tmp 41) (Go.Operand.tmp 43), type := 0, pos := "built.go:112", after := #[{ on := 0, ground := Go.Ground.data }, { on := 47, ground := Go.Ground.data }, { on := 49, ground := Go.Ground.data }], guard := none }) rfl (fun K' hK => ?_)
        clear hrun
        go_simp
        refine hK.out _ _ ⟨fun _ => hz.gat, x3, _, x19, x22, x25, x31, x34, x37, x40, x44, rfl, hz, all_pure hpu, (fun h => hkp _ _ (c4 (by rw [getD_set_ne (by decide)] at h; exact h))), (fun h => hkp _ _ (c5 (by rw [getD_set_ne (by decide)] at h; exact h))), (fun h => hkp _ _ (c6 (by rw [getD_set_ne (by decide)] at h; exact h))), (fun h => hkp _ _ (c8 (by rw [getD_set_ne (by decide)] at h; exact h))), (fun h => hkp _ _ (c9 (by rw [getD_set_ne (by decide)] at h; exact h))), (fun h => hkp _ _ (c10 (by rw [getD_set_ne (by decide)] at h; exact h))), (fun h => hkp _ _ (c11 (by rw [getD_set_ne (by decide)] at h; exact h))), fun h => ?_, fun h => ?_⟩
        · rw [getD_set_ne (by decide)] at h ⊢; exact m51 h
        · rw [getD_set_ne (by decide)] at h ⊢; exact m52 h
      · rw [show (_ : Array Oper)[51]? = some { dst := some 44, op := Go.Op.move (Go.Operand.tmp 6), type := 52, pos := "built.go:112", after := #[{ on := 0, ground := Go.Ground.data }, { on := 1, ground := Go.Ground.data }, { on := 2, ground := Go.Ground.data }, { on := 3, ground := Go.Ground.data }, { on := 4, ground := Go.Ground.data }, { on := 5, ground := Go.Ground.data }, { on := 6, ground := Go.Ground.data }, { on := 7, ground := Go.Ground.data }, { on := 8, ground := Go.Ground.data }, { on := 9, ground := Go.Ground.data }, { on := 10, ground := Go.Ground.data }, { on := 11, ground := Go.Ground.data }, { on := 12, ground := Go.Ground.data }, { on := 13, ground := Go.Ground.data }, { on := 14, ground := Go.Ground.data }, { on := 15, ground := Go.Ground.data }, { on := 16, ground := Go.Ground.data }, { on := 17, ground := Go.Ground.data }, { on := 18, ground := Go.Ground.data }, { on := 19, ground := Go.Ground.data }, { on := 20, ground := Go.Ground.data }, { on := 21, ground := Go.Ground.data }, { on := 22, ground := Go.Ground.data }, { on := 23, ground := Go.Ground.data }, { on := 24, ground := Go.Ground.data }, { on := 25, ground := Go.Ground.data }, { on := 26, ground := Go.Ground.data }, { on := 27, ground := Go.Ground.data }, { on := 28, ground := Go.Ground.data }, { on := 29, ground := Go.Ground.data }, { on := 30, ground := Go.Ground.data }, { on := 31, ground := Go.Ground.data }, { on := 32, ground := Go.Ground.data }, { on := 33, ground := Go.Ground.data }, { on := 34, ground := Go.Ground.data }, { on := 35, ground := Go.Ground.data }, { on := 36, ground := Go.Ground.data }, { on := 37, ground := Go.Ground.data }, { on := 38, ground := Go.Ground.data }, { on := 39, ground := Go.Ground.data }, { on := 40, ground := Go.Ground.data }, { on := 41, ground := Go.Ground.data }, { on := 42, ground := Go.Ground.data }, { on := 43, ground := Go.Ground.data }, { on := 44, ground := Go.Ground.data }, { on := 45, ground := Go.Ground.data }, { on := 46, ground := Go.Ground.data }, { on := 47, ground := Go.Ground.data }, { on := 48, ground := Go.Ground.data }, { on := 49, ground := Go.Ground.data }, { on := 50, ground := Go.Ground.data }], guard := none } from rfl] at ho
        cases ho
        have d0 : listed.getD 0 false = true := hall { on := 0, ground := Go.Ground.data } (by simp) rfl
        have hz := hinv.quiet (Frm.refl [] w1) 51 (by decide) (by decide)
        refine wpOp_inv (o := { dst := some 44, op := Go.Op.move (Go.Operand.tmp 6), type := 52, pos := "built.go:112", after := #[{ on := 0, ground := Go.Ground.data }, { on := 1, ground := Go.Ground.data }, { on := 2, ground := Go.Ground.data }, { on := 3, ground := Go.Ground.data }, { on := 4, ground := Go.Ground.data }, { on := 5, ground := Go.Ground.data }, { on := 6, ground := Go.Ground.data }, { on := 7, ground := Go.Ground.data }, { on := 8, ground := Go.Ground.data }, { on := 9, ground := Go.Ground.data }, { on := 10, ground := Go.Ground.data }, { on := 11, ground := Go.Ground.data }, { on := 12, ground := Go.Ground.data }, { on := 13, ground := Go.Ground.data }, { on := 14, ground := Go.Ground.data }, { on := 15, ground := Go.Ground.data }, { on := 16, ground := Go.Ground.data }, { on := 17, ground := Go.Ground.data }, { on := 18, ground := Go.Ground.data }, { on := 19, ground := Go.Ground.data }, { on := 20, ground := Go.Ground.data }, { on := 21, ground := Go.Ground.data }, { on := 22, ground := Go.Ground.data }, { on := 23, ground := Go.Ground.data }, { on := 24, ground := Go.Ground.data }, { on := 25, ground := Go.Ground.data }, { on := 26, ground := Go.Ground.data }, { on := 27, ground := Go.Ground.data }, { on := 28, ground := Go.Ground.data }, { on := 29, ground := Go.Ground.data }, { on := 30, ground := Go.Ground.data }, { on := 31, ground := Go.Ground.data }, { on := 32, ground := Go.Ground.data }, { on := 33, ground := Go.Ground.data }, { on := 34, ground := Go.Ground.data }, { on := 35, ground := Go.Ground.data }, { on := 36, ground := Go.Ground.data }, { on := 37, ground := Go.Ground.data }, { on := 38, ground := Go.Ground.data }, { on := 39, ground := Go.Ground.data }, { on := 40, ground := Go.Ground.data }, { on := 41, ground := Go.Ground.data }, { on := 42, ground := Go.Ground.data }, { on := 43, ground := Go.Ground.data }, { on := 44, ground := Go.Ground.data }, { on := 45, ground := Go.Ground.data }, { on := 46, ground := Go.Ground.data }, { on := 47, ground := Go.Ground.data }, { on := 48, ground := Go.Ground.data }, { on := 49, ground := Go.Ground.data }, { on := 50, ground := Go.Ground.data }], guard := none }) rfl (fun K' hK => ?_)
        go_simp
        refine hK.out _ _ ⟨fun _ => hz.gat, x3, _, x19, x22, x25, x31, x34, x37, x40, _, rfl, hz, all_pure hpu, (fun h => (fun _ _ h => h : ∀ k u, AskV w1 gb sb lb k u → AskV w1 gb sb lb k u) _ _ (c4 (by rw [getD_set_ne (by decide)] at h; exact h))), (fun h => (fun _ _ h => h : ∀ k u, AskV w1 gb sb lb k u → AskV w1 gb sb lb k u) _ _ (c5 (by rw [getD_set_ne (by decide)] at h; exact h))), (fun h => (fun _ _ h => h : ∀ k u, AskV w1 gb sb lb k u → AskV w1 gb sb lb k u) _ _ (c6 (by rw [getD_set_ne (by decide)] at h; exact h))), (fun h => (fun _ _ h => h : ∀ k u, AskV w1 gb sb lb k u → AskV w1 gb sb lb k u) _ _ (c8 (by rw [getD_set_ne (by decide)] at h; exact h))), (fun h => (fun _ _ h => h : ∀ k u, AskV w1 gb sb lb k u → AskV w1 gb sb lb k u) _ _ (c9 (by rw [getD_set_ne (by decide)] at h; exact h))), (fun h => (fun _ _ h => h : ∀ k u, AskV w1 gb sb lb k u → AskV w1 gb sb lb k u) _ _ (c10 (by rw [getD_set_ne (by decide)] at h; exact h))), (fun h => (fun _ _ h => h : ∀ k u, AskV w1 gb sb lb k u → AskV w1 gb sb lb k u) _ _ (c11 (by rw [getD_set_ne (by decide)] at h; exact h))), fun h => ?_, fun h => ?_⟩
        · rw [getD_set_ne (by decide)]; exact ⟨rfl, d0⟩
        · rw [getD_set_ne (by decide)] at h ⊢; exact m52 h
      · rw [show (_ : Array Oper)[52]? = some { dst := some 3, op := Go.Op.assign (Go.Operand.tmp 44), type := 52, pos := "built.go:112", after := #[{ on := 51, ground := Go.Ground.data }, { on := 45, ground := Go.Ground.chain }, { on := 0, ground := Go.Ground.phase }, { on := 1, ground := Go.Ground.phase }, { on := 2, ground := Go.Ground.phase }, { on := 3, ground := Go.Ground.phase }, { on := 4, ground := Go.Ground.phase }, { on := 5, ground := Go.Ground.phase }, { on := 6, ground := Go.Ground.phase }, { on := 7, ground := Go.Ground.phase }, { on := 8, ground := Go.Ground.phase }, { on := 9, ground := Go.Ground.phase }, { on := 10, ground := Go.Ground.phase }, { on := 11, ground := Go.Ground.phase }, { on := 12, ground := Go.Ground.phase }, { on := 13, ground := Go.Ground.phase }, { on := 14, ground := Go.Ground.phase }, { on := 15, ground := Go.Ground.phase }, { on := 16, ground := Go.Ground.phase }, { on := 17, ground := Go.Ground.phase }, { on := 18, ground := Go.Ground.phase }, { on := 19, ground := Go.Ground.phase }, { on := 20, ground := Go.Ground.phase }, { on := 21, ground := Go.Ground.phase }, { on := 22, ground := Go.Ground.phase }, { on := 23, ground := Go.Ground.phase }, { on := 24, ground := Go.Ground.phase }, { on := 25, ground := Go.Ground.phase }, { on := 26, ground := Go.Ground.phase }, { on := 27, ground := Go.Ground.phase }, { on := 28, ground := Go.Ground.phase }, { on := 29, ground := Go.Ground.phase }, { on := 30, ground := Go.Ground.phase }, { on := 31, ground := Go.Ground.phase }, { on := 32, ground := Go.Ground.phase }, { on := 33, ground := Go.Ground.phase }, { on := 34, ground := Go.Ground.phase }, { on := 35, ground := Go.Ground.phase }, { on := 36, ground := Go.Ground.phase }, { on := 37, ground := Go.Ground.phase }, { on := 38, ground := Go.Ground.phase }, { on := 39, ground := Go.Ground.phase }, { on := 40, ground := Go.Ground.phase }, { on := 41, ground := Go.Ground.phase }, { on := 42, ground := Go.Ground.phase }, { on := 43, ground := Go.Ground.phase }, { on := 44, ground := Go.Ground.phase }, { on := 45, ground := Go.Ground.phase }, { on := 46, ground := Go.Ground.phase }, { on := 47, ground := Go.Ground.phase }, { on := 48, ground := Go.Ground.phase }, { on := 49, ground := Go.Ground.phase }, { on := 50, ground := Go.Ground.phase }, { on := 51, ground := Go.Ground.phase }], guard := none } from rfl] at ho
        cases ho
        obtain ⟨d51, d0⟩ := m51 (hall { on := 51, ground := Go.Ground.data } (by simp) rfl)
        subst d51
        have hz := hinv.quiet (Frm.refl [] w1) 52 (by decide) (by decide)
        refine wpOp_inv (o := { dst := some 3, op := Go.Op.assign (Go.Operand.tmp 44), type := 52, pos := "built.go:112", after := #[{ on := 51, ground := Go.Ground.data }, { on := 45, ground := Go.Ground.chain }, { on := 0, ground := Go.Ground.phase }, { on := 1, ground := Go.Ground.phase }, { on := 2, ground := Go.Ground.phase }, { on := 3, ground := Go.Ground.phase }, { on := 4, ground := Go.Ground.phase }, { on := 5, ground := Go.Ground.phase }, { on := 6, ground := Go.Ground.phase }, { on := 7, ground := Go.Ground.phase }, { on := 8, ground := Go.Ground.phase }, { on := 9, ground := Go.Ground.phase }, { on := 10, ground := Go.Ground.phase }, { on := 11, ground := Go.Ground.phase }, { on := 12, ground := Go.Ground.phase }, { on := 13, ground := Go.Ground.phase }, { on := 14, ground := Go.Ground.phase }, { on := 15, ground := Go.Ground.phase }, { on := 16, ground := Go.Ground.phase }, { on := 17, ground := Go.Ground.phase }, { on := 18, ground := Go.Ground.phase }, { on := 19, ground := Go.Ground.phase }, { on := 20, ground := Go.Ground.phase }, { on := 21, ground := Go.Ground.phase }, { on := 22, ground := Go.Ground.phase }, { on := 23, ground := Go.Ground.phase }, { on := 24, ground := Go.Ground.phase }, { on := 25, ground := Go.Ground.phase }, { on := 26, ground := Go.Ground.phase }, { on := 27, ground := Go.Ground.phase }, { on := 28, ground := Go.Ground.phase }, { on := 29, ground := Go.Ground.phase }, { on := 30, ground := Go.Ground.phase }, { on := 31, ground := Go.Ground.phase }, { on := 32, ground := Go.Ground.phase }, { on := 33, ground := Go.Ground.phase }, { on := 34, ground := Go.Ground.phase }, { on := 35, ground := Go.Ground.phase }, { on := 36, ground := Go.Ground.phase }, { on := 37, ground := Go.Ground.phase }, { on := 38, ground := Go.Ground.phase }, { on := 39, ground := Go.Ground.phase }, { on := 40, ground := Go.Ground.phase }, { on := 41, ground := Go.Ground.phase }, { on := 42, ground := Go.Ground.phase }, { on := 43, ground := Go.Ground.phase }, { on := 44, ground := Go.Ground.phase }, { on := 45, ground := Go.Ground.phase }, { on := 46, ground := Go.Ground.phase }, { on := 47, ground := Go.Ground.phase }, { on := 48, ground := Go.Ground.phase }, { on := 49, ground := Go.Ground.phase }, { on := 50, ground := Go.Ground.phase }, { on := 51, ground := Go.Ground.phase }], guard := none }) rfl (fun K' hK => ?_)
        go_simp
        refine hK.out _ _ ⟨fun _ => hz.gat, _, _, x19, x22, x25, x31, x34, x37, x40, _, rfl, hz, all_pure hpu, (fun h => (fun _ _ h => h : ∀ k u, AskV w1 gb sb lb k u → AskV w1 gb sb lb k u) _ _ (c4 (by rw [getD_set_ne (by decide)] at h; exact h))), (fun h => (fun _ _ h => h : ∀ k u, AskV w1 gb sb lb k u → AskV w1 gb sb lb k u) _ _ (c5 (by rw [getD_set_ne (by decide)] at h; exact h))), (fun h => (fun _ _ h => h : ∀ k u, AskV w1 gb sb lb k u → AskV w1 gb sb lb k u) _ _ (c6 (by rw [getD_set_ne (by decide)] at h; exact h))), (fun h => (fun _ _ h => h : ∀ k u, AskV w1 gb sb lb k u → AskV w1 gb sb lb k u) _ _ (c8 (by rw [getD_set_ne (by decide)] at h; exact h))), (fun h => (fun _ _ h => h : ∀ k u, AskV w1 gb sb lb k u → AskV w1 gb sb lb k u) _ _ (c9 (by rw [getD_set_ne (by decide)] at h; exact h))), (fun h => (fun _ _ h => h : ∀ k u, AskV w1 gb sb lb k u → AskV w1 gb sb lb k u) _ _ (c10 (by rw [getD_set_ne (by decide)] at h; exact h))), (fun h => (fun _ _ h => h : ∀ k u, AskV w1 gb sb lb k u → AskV w1 gb sb lb k u) _ _ (c11 (by rw [getD_set_ne (by decide)] at h; exact h))), fun h => ?_, fun h => ?_⟩
        · rw [getD_set_ne (by decide)]; exact ⟨rfl, d0⟩
        · rw [getD_set_ne (by decide)]; exact ⟨rfl, d0⟩
  case rest =>
    obtain ⟨mb, l, rfl, gm, hmb, FX, hgx⟩ := hcut
    rename World => V
    go_wp2
    go_loopw [46] (fun i wr => ∃ (j : Nat) (l : List (Value × Value)), j ≤ 6 ∧ i = .int .i64 j ∧ GoalsMap wr gb sb lb mb (fun i => i < 13 + j) l ∧ Frm [] W wr ∧ GoalsAt wr gb sb lb) (fun i _ => 6 - (intOf i).toNat)
    case atStart => exact ⟨0, l, by omega, rfl, gm, FX, hgx⟩
    case round =>
      obtain ⟨j, lr, hj, rfl, gmr, FR, hgr⟩ := hrel
      obtain ⟨P0, P1, P2⟩ := hgr.c
      have h7 : j = 0 ∨ j = 1 ∨ j = 2 ∨ j = 3 ∨ j = 4 ∨ j = 5 ∨ j = 6 := by omega
      clear hj
      rcases h7 with rfl | rfl | rfl | rfl | rfl | rfl | rfl
      · have hb : ((0 : Int) < 6) := by omega
        go_wp2_with (first | (refine wpList_index_arr rfl (.tmp 45) (.tmp 46) 75 rfl (.string ⟨#[60]⟩) (by kernel_rfl) ?_) | (go_at_call 42; refine (goals_test ⟨#[60]⟩ sb lb _).mono ?_; rintro e w2 ⟨⟨v2, rfl, hv2⟩, F2⟩; obtain ⟨w3, hrun, gm3, F3⟩ := (gmr.keep (Frm.trans0 (by repeat (first | with_reducible (first | refine .alloc ?_ _ | refine .drewN ?_ _ | refine .drew ?_) | ((with_reducible refine .setCell ?_ ?_ _); rotate_left; focus (first | (left; simp; done) | (right; simp; (first | done | omega)))) | with_reducible (first | assumption | exact .refl _ _ | refine .trans0 ?_ ‹_›))) F2)).put (ok' := fun i => i < 13 + 0 + 1) (i := 13 + 0) (by omega) (by omega) (v := v2) hv2 (fun k _ => by omega); have hg3 := (hgr.keep (Frm.trans0 (by repeat (first | with_reducible (first | refine .alloc ?_ _ | refine .drewN ?_ _ | refine .drew ?_) | ((with_reducible refine .setCell ?_ ?_ _); rotate_left; focus (first | (left; simp; done) | (right; simp; (first | done | omega)))) | with_reducible (first | assumption | exact .refl _ _ | refine .trans0 ?_ ‹_›))) F2)).mapped (gmr.keep (Frm.trans0 (by repeat (first | with_reducible (first | refine .alloc ?_ _ | refine .drewN ?_ _ | refine .drew ?_) | ((with_reducible refine .setCell ?_ ?_ _); rotate_left; focus (first | (left; simp; done) | (right; simp; (first | done | omega)))) | with_reducible (first | assumption | exact .refl _ _ | refine .trans0 ?_ ‹_›))) F2)).1 F3; have hrun2 : (Instr.mapUpdate 52 (.map (some mb)) (.agg #[.string ⟨#[60]⟩, .int .i64 2]) v2).run Try.prog w2 = .ok () w3 := hrun; clear hrun))
        go_roundw
        case rel => exact ⟨0 + 1, _, by omega, rfl, gm3, (FR.trans0 (Frm.trans0 (by repeat (first | with_reducible (first | refine .alloc ?_ _ | refine .drewN ?_ _ | refine .drew ?_) | ((with_reducible refine .setCell ?_ ?_ _); rotate_left; focus (first | (left; simp; done) | (right; simp; (first | done | omega)))) | with_reducible (first | assumption | exact .refl _ _ | refine .trans0 ?_ ‹_›))) F2)).trans F3 (fun b hb => by rw [List.mem_singleton.1 hb]; exact .inr hmb), hg3⟩
        case measure => simp [intOf]
      · have hb : ((1 : Int) < 6) := by omega
        go_wp2_with (first | (refine wpList_index_arr rfl (.tmp 45) (.tmp 46) 75 rfl (.string ⟨#[62]⟩) (by kernel_rfl) ?_) | (go_at_call 42; refine (goals_test ⟨#[62]⟩ sb lb _).mono ?_; rintro e w2 ⟨⟨v2, rfl, hv2⟩, F2⟩; obtain ⟨w3, hrun, gm3, F3⟩ := (gmr.keep (Frm.trans0 (by repeat (first | with_reducible (first | refine .alloc ?_ _ | refine .drewN ?_ _ | refine .drew ?_) | ((with_reducible refine .setCell ?_ ?_ _); rotate_left; focus (first | (left; simp; done) | (right; simp; (first | done | omega)))) | with_reducible (first | assumption | exact .refl _ _ | refine .trans0 ?_ ‹_›))) F2)).put (ok' := fun i => i < 13 + 1 + 1) (i := 13 + 1) (by omega) (by omega) (v := v2) hv2 (fun k _ => by omega); have hg3 := (hgr.keep (Frm.trans0 (by repeat (first | with_reducible (first | refine .alloc ?_ _ | refine .drewN ?_ _ | refine .drew ?_) | ((with_reducible refine .setCell ?_ ?_ _); rotate_left; focus (first | (left; simp; done) | (right; simp; (first | done | omega)))) | with_reducible (first | assumption | exact .refl _ _ | refine .trans0 ?_ ‹_›))) F2)).mapped (gmr.keep (Frm.trans0 (by repeat (first | with_reducible (first | refine .alloc ?_ _ | refine .drewN ?_ _ | refine .drew ?_) | ((with_reducible refine .setCell ?_ ?_ _); rotate_left; focus (first | (left; simp; done) | (right; simp; (first | done | omega)))) | with_reducible (first | assumption | exact .refl _ _ | refine .trans0 ?_ ‹_›))) F2)).1 F3; have hrun2 : (Instr.mapUpdate 52 (.map (some mb)) (.agg #[.string ⟨#[62]⟩, .int .i64 2]) v2).run Try.prog w2 = .ok () w3 := hrun; clear hrun))
        go_roundw
        case rel => exact ⟨1 + 1, _, by omega, rfl, gm3, (FR.trans0 (Frm.trans0 (by repeat (first | with_reducible (first | refine .alloc ?_ _ | refine .drewN ?_ _ | refine .drew ?_) | ((with_reducible refine .setCell ?_ ?_ _); rotate_left; focus (first | (left; simp; done) | (right; simp; (first | done | omega)))) | with_reducible (first | assumption | exact .refl _ _ | refine .trans0 ?_ ‹_›))) F2)).trans F3 (fun b hb => by rw [List.mem_singleton.1 hb]; exact .inr hmb), hg3⟩
        case measure => simp [intOf]
      · have hb : ((2 : Int) < 6) := by omega
        go_wp2_with (first | (refine wpList_index_arr rfl (.tmp 45) (.tmp 46) 75 rfl (.string ⟨#[61, 60]⟩) (by kernel_rfl) ?_) | (go_at_call 42; refine (goals_test ⟨#[61, 60]⟩ sb lb _).mono ?_; rintro e w2 ⟨⟨v2, rfl, hv2⟩, F2⟩; obtain ⟨w3, hrun, gm3, F3⟩ := (gmr.keep (Frm.trans0 (by repeat (first | with_reducible (first | refine .alloc ?_ _ | refine .drewN ?_ _ | refine .drew ?_) | ((with_reducible refine .setCell ?_ ?_ _); rotate_left; focus (first | (left; simp; done) | (right; simp; (first | done | omega)))) | with_reducible (first | assumption | exact .refl _ _ | refine .trans0 ?_ ‹_›))) F2)).put (ok' := fun i => i < 13 + 2 + 1) (i := 13 + 2) (by omega) (by omega) (v := v2) hv2 (fun k _ => by omega); have hg3 := (hgr.keep (Frm.trans0 (by repeat (first | with_reducible (first | refine .alloc ?_ _ | refine .drewN ?_ _ | refine .drew ?_) | ((with_reducible refine .setCell ?_ ?_ _); rotate_left; focus (first | (left; simp; done) | (right; simp; (first | done | omega)))) | with_reducible (first | assumption | exact .refl _ _ | refine .trans0 ?_ ‹_›))) F2)).mapped (gmr.keep (Frm.trans0 (by repeat (first | with_reducible (first | refine .alloc ?_ _ | refine .drewN ?_ _ | refine .drew ?_) | ((with_reducible refine .setCell ?_ ?_ _); rotate_left; focus (first | (left; simp; done) | (right; simp; (first | done | omega)))) | with_reducible (first | assumption | exact .refl _ _ | refine .trans0 ?_ ‹_›))) F2)).1 F3; have hrun2 : (Instr.mapUpdate 52 (.map (some mb)) (.agg #[.string ⟨#[61, 60]⟩, .int .i64 2]) v2).run Try.prog w2 = .ok () w3 := hrun; clear hrun))
        go_roundw
        case rel => exact ⟨2 + 1, _, by omega, rfl, gm3, (FR.trans0 (Frm.trans0 (by repeat (first | with_reducible (first | refine .alloc ?_ _ | refine .drewN ?_ _ | refine .drew ?_) | ((with_reducible refine .setCell ?_ ?_ _); rotate_left; focus (first | (left; simp; done) | (right; simp; (first | done | omega)))) | with_reducible (first | assumption | exact .refl _ _ | refine .trans0 ?_ ‹_›))) F2)).trans F3 (fun b hb => by rw [List.mem_singleton.1 hb]; exact .inr hmb), hg3⟩
        case measure => simp [intOf]
      · have hb : ((3 : Int) < 6) := by omega
        go_wp2_with (first | (refine wpList_index_arr rfl (.tmp 45) (.tmp 46) 75 rfl (.string ⟨#[62, 61]⟩) (by kernel_rfl) ?_) | (go_at_call 42; refine (goals_test ⟨#[62, 61]⟩ sb lb _).mono ?_; rintro e w2 ⟨⟨v2, rfl, hv2⟩, F2⟩; obtain ⟨w3, hrun, gm3, F3⟩ := (gmr.keep (Frm.trans0 (by repeat (first | with_reducible (first | refine .alloc ?_ _ | refine .drewN ?_ _ | refine .drew ?_) | ((with_reducible refine .setCell ?_ ?_ _); rotate_left; focus (first | (left; simp; done) | (right; simp; (first | done | omega)))) | with_reducible (first | assumption | exact .refl _ _ | refine .trans0 ?_ ‹_›))) F2)).put (ok' := fun i => i < 13 + 3 + 1) (i := 13 + 3) (by omega) (by omega) (v := v2) hv2 (fun k _ => by omega); have hg3 := (hgr.keep (Frm.trans0 (by repeat (first | with_reducible (first | refine .alloc ?_ _ | refine .drewN ?_ _ | refine .drew ?_) | ((with_reducible refine .setCell ?_ ?_ _); rotate_left; focus (first | (left; simp; done) | (right; simp; (first | done | omega)))) | with_reducible (first | assumption | exact .refl _ _ | refine .trans0 ?_ ‹_›))) F2)).mapped (gmr.keep (Frm.trans0 (by repeat (first | with_reducible (first | refine .alloc ?_ _ | refine .drewN ?_ _ | refine .drew ?_) | ((with_reducible refine .setCell ?_ ?_ _); rotate_left; focus (first | (left; simp; done) | (right; simp; (first | done | omega)))) | with_reducible (first | assumption | exact .refl _ _ | refine .trans0 ?_ ‹_›))) F2)).1 F3; have hrun2 : (Instr.mapUpdate 52 (.map (some mb)) (.agg #[.string ⟨#[62, 61]⟩, .int .i64 2]) v2).run Try.prog w2 = .ok () w3 := hrun; clear hrun))
        go_roundw
        case rel => exact ⟨3 + 1, _, by omega, rfl, gm3, (FR.trans0 (Frm.trans0 (by repeat (first | with_reducible (first | refine .alloc ?_ _ | refine .drewN ?_ _ | refine .drew ?_) | ((with_reducible refine .setCell ?_ ?_ _); rotate_left; focus (first | (left; simp; done) | (right; simp; (first | done | omega)))) | with_reducible (first | assumption | exact .refl _ _ | refine .trans0 ?_ ‹_›))) F2)).trans F3 (fun b hb => by rw [List.mem_singleton.1 hb]; exact .inr hmb), hg3⟩
        case measure => simp [intOf]
      · have hb : ((4 : Int) < 6) := by omega
        go_wp2_with (first | (refine wpList_index_arr rfl (.tmp 45) (.tmp 46) 75 rfl (.string ⟨#[61, 58, 61]⟩) (by kernel_rfl) ?_) | (go_at_call 42; refine (goals_test ⟨#[61, 58, 61]⟩ sb lb _).mono ?_; rintro e w2 ⟨⟨v2, rfl, hv2⟩, F2⟩; obtain ⟨w3, hrun, gm3, F3⟩ := (gmr.keep (Frm.trans0 (by repeat (first | with_reducible (first | refine .alloc ?_ _ | refine .drewN ?_ _ | refine .drew ?_) | ((with_reducible refine .setCell ?_ ?_ _); rotate_left; focus (first | (left; simp; done) | (right; simp; (first | done | omega)))) | with_reducible (first | assumption | exact .refl _ _ | refine .trans0 ?_ ‹_›))) F2)).put (ok' := fun i => i < 13 + 4 + 1) (i := 13 + 4) (by omega) (by omega) (v := v2) hv2 (fun k _ => by omega); have hg3 := (hgr.keep (Frm.trans0 (by repeat (first | with_reducible (first | refine .alloc ?_ _ | refine .drewN ?_ _ | refine .drew ?_) | ((with_reducible refine .setCell ?_ ?_ _); rotate_left; focus (first | (left; simp; done) | (right; simp; (first | done | omega)))) | with_reducible (first | assumption | exact .refl _ _ | refine .trans0 ?_ ‹_›))) F2)).mapped (gmr.keep (Frm.trans0 (by repeat (first | with_reducible (first | refine .alloc ?_ _ | refine .drewN ?_ _ | refine .drew ?_) | ((with_reducible refine .setCell ?_ ?_ _); rotate_left; focus (first | (left; simp; done) | (right; simp; (first | done | omega)))) | with_reducible (first | assumption | exact .refl _ _ | refine .trans0 ?_ ‹_›))) F2)).1 F3; have hrun2 : (Instr.mapUpdate 52 (.map (some mb)) (.agg #[.string ⟨#[61, 58, 61]⟩, .int .i64 2]) v2).run Try.prog w2 = .ok () w3 := hrun; clear hrun))
        go_roundw
        case rel => exact ⟨4 + 1, _, by omega, rfl, gm3, (FR.trans0 (Frm.trans0 (by repeat (first | with_reducible (first | refine .alloc ?_ _ | refine .drewN ?_ _ | refine .drew ?_) | ((with_reducible refine .setCell ?_ ?_ _); rotate_left; focus (first | (left; simp; done) | (right; simp; (first | done | omega)))) | with_reducible (first | assumption | exact .refl _ _ | refine .trans0 ?_ ‹_›))) F2)).trans F3 (fun b hb => by rw [List.mem_singleton.1 hb]; exact .inr hmb), hg3⟩
        case measure => simp [intOf]
      · have hb : ((5 : Int) < 6) := by omega
        go_wp2_with (first | (refine wpList_index_arr rfl (.tmp 45) (.tmp 46) 75 rfl (.string ⟨#[61, 92, 61]⟩) (by kernel_rfl) ?_) | (go_at_call 42; refine (goals_test ⟨#[61, 92, 61]⟩ sb lb _).mono ?_; rintro e w2 ⟨⟨v2, rfl, hv2⟩, F2⟩; obtain ⟨w3, hrun, gm3, F3⟩ := (gmr.keep (Frm.trans0 (by repeat (first | with_reducible (first | refine .alloc ?_ _ | refine .drewN ?_ _ | refine .drew ?_) | ((with_reducible refine .setCell ?_ ?_ _); rotate_left; focus (first | (left; simp; done) | (right; simp; (first | done | omega)))) | with_reducible (first | assumption | exact .refl _ _ | refine .trans0 ?_ ‹_›))) F2)).put (ok' := fun i => i < 13 + 5 + 1) (i := 13 + 5) (by omega) (by omega) (v := v2) hv2 (fun k _ => by omega); have hg3 := (hgr.keep (Frm.trans0 (by repeat (first | with_reducible (first | refine .alloc ?_ _ | refine .drewN ?_ _ | refine .drew ?_) | ((with_reducible refine .setCell ?_ ?_ _); rotate_left; focus (first | (left; simp; done) | (right; simp; (first | done | omega)))) | with_reducible (first | assumption | exact .refl _ _ | refine .trans0 ?_ ‹_›))) F2)).mapped (gmr.keep (Frm.trans0 (by repeat (first | with_reducible (first | refine .alloc ?_ _ | refine .drewN ?_ _ | refine .drew ?_) | ((with_reducible refine .setCell ?_ ?_ _); rotate_left; focus (first | (left; simp; done) | (right; simp; (first | done | omega)))) | with_reducible (first | assumption | exact .refl _ _ | refine .trans0 ?_ ‹_›))) F2)).1 F3; have hrun2 : (Instr.mapUpdate 52 (.map (some mb)) (.agg #[.string ⟨#[61, 92, 61]⟩, .int .i64 2]) v2).run Try.prog w2 = .ok () w3 := hrun; clear hrun))
        go_roundw
        case rel => exact ⟨5 + 1, _, by omega, rfl, gm3, (FR.trans0 (Frm.trans0 (by repeat (first | with_reducible (first | refine .alloc ?_ _ | refine .drewN ?_ _ | refine .drew ?_) | ((with_reducible refine .setCell ?_ ?_ _); rotate_left; focus (first | (left; simp; done) | (right; simp; (first | done | omega)))) | with_reducible (first | assumption | exact .refl _ _ | refine .trans0 ?_ ‹_›))) F2)).trans F3 (fun b hb => by rw [List.mem_singleton.1 hb]; exact .inr hmb), hg3⟩
        case measure => simp [intOf]
      · go_wp2
        (try simp only [Exit.noGoto])
        go_ret
        exact ⟨⟨gb, mb, lr, rfl, gmr.iff19, hgr⟩, FW.trans0 FR⟩
end Go.Proofs.Ytkiofaojokofbaa
