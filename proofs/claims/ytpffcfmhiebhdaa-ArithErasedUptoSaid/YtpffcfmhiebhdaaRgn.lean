/- A region that draws its order: behind each operation of its first phase (those numbered below N) the condition S on the world is shown; behind that phase it is asked no more. -/
import Derived.Deep.RegionHeld3
import Derived.Test.YtpffcfmhiebhdaaPure
namespace Go.Proofs.Ytpffcfmhiebhdaa
section
variable {P : Program} {ops : Array Oper} {Q : Exit → Act → World → Prop} {md : Region.Mode} {S : World → Prop} {N : Nat}

/-- Whatever order is picked from here on; S holds behind every operation below N. -/
def wpAnyT (P : Program) (md : Region.Mode) (ops : Array Oper) (Q : Exit → Act → World → Prop) (S : World → Prop) (N : Nat) : Nat → Array Bool → Act → World → Prop
  | 0, listed, a, w => Region.ready md ops listed = [] ∧ Q .normal a w
  | fuel + 1, listed, a, w =>
    (Region.ready md ops listed = [] → Q .normal a w) ∧
    ∀ i ∈ Region.ready md ops listed, wpOp P ops Q i (fun a' w' => (i < N → S w') ∧ wpAnyT P md ops Q S N fuel (listed.setIfInBounds i true) a' w') a w

theorem wpAny_of_T : ∀ (fuel : Nat) (listed : Array Bool) (a : Act) (w : World), wpAnyT P md ops Q S N fuel listed a w → wpAny P md ops Q fuel listed a w
  | 0, _, _, _, h => h
  | fuel + 1, _, _, _, h => ⟨h.1, fun i hi => wpOp_mono (fun a' w' h' => wpAny_of_T fuel _ a' w' h'.2) (h.2 i hi)⟩

theorem set_other {i j : Nat} (listed : Array Bool) (h : j ≠ i) (x d : Bool) : (listed.setIfInBounds j x).getD i d = listed.getD i d := by
  simp [Array.getD_eq_getD_getElem?, Array.getElem?_setIfInBounds_ne h]

/-- Whoever is listed has those it waits for listed. -/
def Shut' (md : Region.Mode) (ops : Array Oper) (listed : Array Bool) : Prop :=
  ∀ j oj, ops[j]? = some oj → listed.getD j true = true → ∀ e ∈ oj.after, Region.binds md e = true → listed.getD e.on false = true
def Region.closed (md : Region.Mode) (ops : Array Oper) (listed : Array Bool) : Bool :=
  (List.range ops.size).all fun j => !listed.getD j true || match ops[j]? with
    | some oj => oj.after.all fun e => !Region.binds md e || listed.getD e.on false
    | none => true
theorem Region.closed_spec {listed : Array Bool} (h : Region.closed md ops listed = true) : Shut' md ops listed := by
  intro j oj hoj hl e he hb
  unfold Region.closed at h
  rw [List.all_eq_true] at h
  have h1 := h j (List.mem_range.2 (Array.getElem?_eq_some_iff.1 hoj).1)
  rw [hl, hoj] at h1
  dsimp only at h1
  rw [Bool.not_true, Bool.false_or, Array.all_eq_true'] at h1
  have h2 := h1 e he
  rw [hb] at h2
  exact h2
theorem getD_in {listed : Array Bool} {i : Nat} (h : listed.getD i true = false) : listed.getD i false = false := by
  rw [Array.getD_eq_getD_getElem?] at h ⊢
  cases hx : listed[i]? with
  | none => rfl
  | some b => rw [hx] at h; exact h
theorem getD_up {listed : Array Bool} {i : Nat} (h : listed.getD i false = true) : listed.getD i true = true := by
  rw [Array.getD_eq_getD_getElem?] at h ⊢
  cases hx : listed[i]? with
  | none => rfl
  | some b => rw [hx] at h; exact h
theorem set_more {listed : Array Bool} {i j : Nat} (h : listed.getD i false = true) : (listed.setIfInBounds j true).getD i false = true := by
  by_cases hji : j = i
  · subst hji
    rw [Array.getD_eq_getD_getElem?] at h ⊢
    cases hx : listed[j]? with
    | none => rw [hx] at h; cases h
    | some b =>
      rw [Array.getElem?_setIfInBounds_self_of_lt (Array.getElem?_eq_some_iff.1 hx).1]; rfl
  · rw [set_other listed hji]; exact h
theorem Shut'.set {listed : Array Bool} {j : Nat} (h : Shut' md ops listed) (hj : j ∈ Region.ready md ops listed) : Shut' md ops (listed.setIfInBounds j true) := by
  obtain ⟨_, oj, hoj, hall⟩ := mem_ready.1 hj
  intro k ok hok hl e he hb
  by_cases hjk : j = k
  · subst hjk
    rw [hoj] at hok
    cases hok
    exact set_more (hall e he hb)
  · rw [set_other listed hjk] at hl
    exact set_more (h k ok hok hl e he hb)
/-- j waits for i, straight or through others. -/
def Region.waits (md : Region.Mode) (ops : Array Oper) (i : Nat) : Nat → Nat → Bool
  | 0, _ => false
  | f + 1, j => match ops[j]? with
    | some oj => oj.after.any fun e => Region.binds md e && (e.on == i || Region.waits md ops i f e.on)
    | none => false
theorem Region.waits_spec {listed : Array Bool} {i : Nat} (hc : Shut' md ops listed) (hi : listed.getD i true = false) : ∀ f j oj, ops[j]? = some oj → Region.waits md ops i f j = true →
    ∃ e ∈ oj.after, Region.binds md e = true ∧ listed.getD e.on false = false := by
  intro f
  induction f with
  | zero => intro j oj _ h; cases h
  | succ f ih =>
    intro j oj hoj h
    unfold Region.waits at h
    rw [hoj] at h
    dsimp only at h
    rw [Array.any_eq_true'] at h
    obtain ⟨e, he, hx⟩ := h
    rw [Bool.and_eq_true, Bool.or_eq_true, beq_iff_eq] at hx
    refine ⟨e, he, hx.1, ?_⟩
    rcases hx.2 with h1 | h1
    · rw [h1]; exact getD_in hi
    · cases hok : ops[e.on]? with
      | none =>
        cases f with
        | zero => cases h1
        | succ f => unfold Region.waits at h1; rw [hok] at h1; cases h1
      | some ok =>
        obtain ⟨e', he', hb', hf'⟩ := ih e.on ok hok h1
        cases hg : listed.getD e.on false with
        | false => rfl
        | true =>
          have := hc e.on ok hok (getD_up hg) e' he' hb'
          rw [hf'] at this
          cases this
/-- Every operation from N on waits for number i. -/
def Region.late (md : Region.Mode) (ops : Array Oper) (N i : Nat) : Bool :=
  decide (i < N) && (List.range ops.size).all fun j => decide (j < N) || Region.waits md ops i ops.size j
theorem Region.late_spec {i : Nat} (h : Region.late md ops N i = true) : i < N ∧ ∀ listed, Shut' md ops listed → listed.getD i true = false → ∀ j ∈ Region.ready md ops listed, j < N := by
  unfold Region.late at h
  rw [Bool.and_eq_true, decide_eq_true_eq, List.all_eq_true] at h
  refine ⟨h.1, fun listed hc hi j hj => ?_⟩
  obtain ⟨_, oj, hoj, hall⟩ := mem_ready.1 hj
  have h1 := h.2 j (List.mem_range.2 (Array.getElem?_eq_some_iff.1 hoj).1)
  rw [Bool.or_eq_true, decide_eq_true_eq] at h1
  rcases h1 with h1 | h1
  · exact h1
  · obtain ⟨e, he, hb, hf⟩ := Region.waits_spec hc hi _ j oj hoj h1
    have := hall e he hb
    rw [hf] at this
    cases this

/-- An operation may be taken first: C says of which worlds it yields; b: it is one of the first phase, so whoever may come before it is, too. -/
theorem wpAnyT_first {C : World → Prop} {b : Bool} {i : Nat} {oi : Oper} {v : Value} (hi : ops[i]? = some oi) (hsel : ∀ (j : Nat) (o : Oper) cs b, ops[j]? = some o → o.op ≠ .select cs b)
    (hQ : ∀ c a w, Q (.panic c) (a.put oi.dst v) w → Q (.panic c) a w) (hC : ∀ w, (b = true → S w) → C w)
    (hph : b = true → i < N ∧ ∀ listed, Shut' md ops listed → listed.getD i true = false → ∀ j ∈ Region.ready md ops listed, j < N) (hb : b = false → N ≤ i) :
    ∀ (fuel : Nat) (listed : Array Bool) (a : Act) (w : World),
      (∀ j oj, ops[j]? = some oj → j ≠ i → listed.getD j true = false → (∀ e ∈ oj.after, Region.binds md e = true → e.on ≠ i) → oi.apart ops oj = true) →
      i ∈ Region.ready md ops listed → YieldsIf P ops C oi v a → (b = true → S w) → (b = true → Shut' md ops listed) →
      wpAnyT P md ops Q S N fuel (listed.setIfInBounds i true) (a.put oi.dst v) w → wpAnyT P md ops Q S N (fuel + 1) listed a w := by
  have hiS : ∀ w, (b = true → S w) → i < N → S w := fun w hS hlt => by
    cases b with
    | true => exact hS rfl
    | false => have := hb rfl; omega
  intro fuel
  induction fuel with
  | zero =>
    intro listed a w _ hr hy hS _ H
    refine ⟨fun h => (by rw [h] at hr; cases hr), fun j hj => ?_⟩
    by_cases hji : j = i
    · subst hji
      exact hy.wpOp hi (hC w hS) ⟨hiS w hS, H⟩
    · have := ready_mono hj hji
      rw [H.1] at this
      cases this
  | succ fuel ih =>
    intro listed a w hfree hr hy hS hcl H
    have hun := (mem_ready.1 hr).1
    refine ⟨fun h => (by rw [h] at hr; cases hr), fun j hj => ?_⟩
    by_cases hji : j = i
    · subst hji
      exact hy.wpOp hi (hC w hS) ⟨hiS w hS, H⟩
    · have h1 := H.2 j (ready_mono hj hji)
      obtain ⟨hjun, oj, hoj, hall⟩ := mem_ready.1 hj
      have hnot : ∀ e ∈ oj.after, Region.binds md e = true → e.on ≠ i := fun e he hbd heq => by
        have h2 := hall e he hbd
        rw [heq] at h2
        have h3 := getD_up h2
        rw [hun] at h3; cases h3
      have h2 := wpOp_putIf hoj (hfree j oj hoj hji hjun hnot) (fun cs b => hsel i oi cs b hi) (fun cs b => hsel j oj cs b hoj) hQ hy h1
      have hfree' : ∀ k ok, ops[k]? = some ok → k ≠ i → (listed.setIfInBounds j true).getD k true = false →
          (∀ e ∈ ok.after, Region.binds md e = true → e.on ≠ i) → oi.apart ops ok = true := fun k ok hk hki hu hno => by
        refine hfree k ok hk hki ?_ hno
        by_cases hjk : j = k
        · subst hjk; exact hjun
        · rw [set_other listed hjk] at hu; exact hu
      refine wpOp_mono (fun a' w' h3 => ?_) h2
      refine ⟨h3.2.1, ih (listed.setIfInBounds j true) a' w' hfree' (ready_mono hr (Ne.symm hji)) h3.1 (fun hbt => h3.2.1 ((hph hbt).2 listed (hcl hbt) hun j hj)) (fun hbt => (hcl hbt).set hj) ?_⟩
      rw [Array.setIfInBounds_comm _ _ hji]
      exact h3.2.2

/-- Take number i of the first phase. -/
theorem wpAnyT_take {i : Nat} {oi : Oper} {v : Value} {fuel : Nat} {listed : Array Bool} {a : Act} {w : World} (hi : ops[i]? = some oi)
    (hs : Region.noSelect ops = true) (hf : Region.free md ops listed i = true) (hr : (Region.ready md ops listed).contains i = true) (hl : (Region.late md ops N i && Region.closed md ops listed) = true)
    (hQ : ∀ c a w, Q (.panic c) (a.put oi.dst v) w → Q (.panic c) a w) (hy : YieldsIf P ops S oi v a) (hS : S w)
    (h : wpAnyT P md ops Q S N fuel (listed.setIfInBounds i true) (a.put oi.dst v) w) : wpAnyT P md ops Q S N (fuel + 1) listed a w :=
  have hl := (Bool.and_eq_true _ _).mp hl
  wpAnyT_first (C := S) (b := true) hi (Region.noSelect_spec hs) hQ (fun _ h => h rfl) (fun _ => Region.late_spec hl.1) (fun h => by cases h) fuel listed a w (Region.free_spec hi hf) (by simpa using hr) hy (fun _ => hS) (fun _ => Region.closed_spec hl.2) h
/-- Take number i behind the first phase. -/
theorem wpAnyT_take' {i : Nat} {oi : Oper} {v : Value} {fuel : Nat} {listed : Array Bool} {a : Act} {w : World} (hi : ops[i]? = some oi)
    (hs : Region.noSelect ops = true) (hf : Region.free md ops listed i = true) (hr : (Region.ready md ops listed).contains i = true) (hl : decide (N ≤ i) = true)
    (hQ : ∀ c a w, Q (.panic c) (a.put oi.dst v) w → Q (.panic c) a w) (hy : YieldsIf P ops (fun _ => True) oi v a)
    (h : wpAnyT P md ops Q S N fuel (listed.setIfInBounds i true) (a.put oi.dst v) w) : wpAnyT P md ops Q S N (fuel + 1) listed a w :=
  wpAnyT_first (C := fun _ => True) (b := false) hi (Region.noSelect_spec hs) hQ (fun _ _ => trivial) (fun h => by cases h) (fun _ => of_decide_eq_true hl) fuel listed a w (Region.free_spec hi hf) (by simpa using hr) hy (fun h => by cases h) (fun h => by cases h) h

/-- One operation alone may come up, and is carried out. -/
theorem wpAnyT_one {i : Nat} {o : Oper} {fuel : Nat} {listed : Array Bool} {a : Act} {w : World} (hr : Region.ready md ops listed = [i]) (ho : ops[i]? = some o)
    (h : ∀ K' : Act → World → Prop, Shut (∀ a w, (i < N → S w) → ((i < N → S w) → wpAnyT P md ops Q S N fuel (listed.setIfInBounds i true) a w) → K' a w) →
      if Region.wanted o (yielded ops a.tmps) = true then Oper.wp P o a w K' Q else K' (a.put o.dst undef) w) : wpAnyT P md ops Q S N (fuel + 1) listed a w := by
  refine ⟨fun h => (by rw [h] at hr; cases hr), fun j hj => ?_⟩
  rw [hr] at hj
  have := List.mem_singleton.1 hj
  subst this
  exact wpOp_step ho (fun K' hK => h K' (fun a w hS hW => hK a w ⟨hS, hW hS⟩))
/-- Two operations may come up. -/
theorem wpAnyT_two {i j : Nat} {o p : Oper} {fuel : Nat} {listed : Array Bool} {a : Act} {w : World} (hr : Region.ready md ops listed = [i, j]) (ho : ops[i]? = some o) (hp : ops[j]? = some p)
    (h1 : ∀ K' : Act → World → Prop, Shut (∀ a w, (i < N → S w) → ((i < N → S w) → wpAnyT P md ops Q S N fuel (listed.setIfInBounds i true) a w) → K' a w) →
      if Region.wanted o (yielded ops a.tmps) = true then Oper.wp P o a w K' Q else K' (a.put o.dst undef) w)
    (h2 : ∀ K' : Act → World → Prop, Shut (∀ a w, (j < N → S w) → ((j < N → S w) → wpAnyT P md ops Q S N fuel (listed.setIfInBounds j true) a w) → K' a w) →
      if Region.wanted p (yielded ops a.tmps) = true then Oper.wp P p a w K' Q else K' (a.put p.dst undef) w) : wpAnyT P md ops Q S N (fuel + 1) listed a w := by
  refine ⟨fun h => (by rw [h] at hr; cases hr), fun k hk => ?_⟩
  rw [hr] at hk
  rcases List.mem_cons.1 hk with rfl | hk
  · exact wpOp_step ho (fun K' hK => h1 K' (fun a w hS hW => hK a w ⟨hS, hW hS⟩))
  · have := List.mem_singleton.1 hk
    subst this
    exact wpOp_step hp (fun K' hK => h2 K' (fun a w hS hW => hK a w ⟨hS, hW hS⟩))
theorem wpAnyT_done {listed : Array Bool} {a : Act} {w : World} (hr : Region.ready md ops listed = []) (h : Q .normal a w) : ∀ fuel, wpAnyT P md ops Q S N fuel listed a w
  | 0 => ⟨hr, h⟩
  | _ + 1 => ⟨fun _ => h, by rw [hr]; simp⟩
theorem wp_region_T {id : Nat} {a : Act} {w : World} (S : World → Prop) (N : Nat) (hm : P.follows .mixedOrders = true) (hS : S w.drew)
    (h : S w.drew → wpAnyT P .any ops Q S N ops.size (Array.replicate ops.size false) a w.drew) : (Code.region id ops true).wp P Q a w :=
  wp_region_any hm (wpAny_of_T _ _ _ _ (h hS))
end
end Go.Proofs.Ytpffcfmhiebhdaa
