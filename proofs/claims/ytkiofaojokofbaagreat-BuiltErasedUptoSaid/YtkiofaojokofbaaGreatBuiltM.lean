/- Contracts and plain laws: LawB1 LawB2. -/
import Derived.Test.YtkiofaojokofbaaGreatBuiltL
import Derived.WalkSpells
import Derived.WalkLawsBesides
import Derived.Deep.QuietTactic
import Derived.BigQuiet
import Derived.Deep.DeepCutAuto
import Derived.Deep.RegionHeld3
import Derived.Lib.Hide
import Derived.Handy
namespace Go.Proofs.YtkiofaojokofbaaGreat
open Go.RowKit

theorem num_v (F : List Nat) (w : World) {a : Int} (h : I64 a) : TermV F w (Term.num a) (.agg #[.int .i64 2, .int .i64 a, .string ⟨#[]⟩, .slice none 0 0]) := TermV.leaf F w (by unfold I64; omega) h (by decide)
theorem var_v (F : List Nat) (w : World) {a : Int} (h : I64 a) : TermV F w (Term.var a) (.agg #[.int .i64 1, .int .i64 a, .string ⟨#[]⟩, .slice none 0 0]) := TermV.leaf F w (by unfold I64; omega) h (by decide)
theorem term_let (n : Int) (w : World) : Calls Tryz.prog 16 #[.int .i64 n] w fun e w' => e = .returned (.agg #[.int .i64 1, .int .i64 n, .string ⟨#[]⟩, .slice none 0 0]) ∧ Frm [] w w' := by
  go_enter Tryz.func16, Tryz.ntmps16
  go_wp2
  generalize hW : World.alloc _ _ = W
  have hb : W.heap[w.heap.size]? = some (.cells #[.int .i64 1, .int .i64 n, .string ⟨#[]⟩, .slice none 0 0] 25 (0, 0)) := by subst hW; exact (by repeat (first | rw [heap_alloc_at] | rw [heap_size_alloc] | rfl | rw [if_pos (by omega)] | rw [if_neg (by omega)]))
  have FW : Frm [] w W := by subst hW; exact (by repeat (first | with_reducible (first | refine .alloc ?_ _ | refine .drewN ?_ _ | refine .drew ?_) | ((with_reducible refine .setCell ?_ ?_ _); rotate_left; focus (first | (left; simp; done) | (right; simp; (first | done | omega)))) | with_reducible (first | assumption | exact .refl _ _ | refine .trans0 ?_ ‹_›)))
  clear hW
  obtain ⟨r0, r1, r2, r3, r4, r5⟩ := blk4 hb
  refine bodyPost_ret (v := .agg #[.int .i64 1, .int .i64 n, .string ⟨#[]⟩, .slice none 0 0]) (by simp [results, Tryz.results16, go_sem, r0, r1, r2, r3]) rfl ?_
  exact ⟨rfl, FW⟩
def atom (s : ByteArray) : Term := .mk 3 0 s []
theorem term_atom (s : ByteArray) (w : World) (hs : s.size ≤ 1048576) : Calls Tryz.prog 28 #[.string s] w fun e w' => e = .returned (.agg #[.int .i64 3, .int .i64 0, .string s, .slice none 0 0]) ∧ Frm [] w w' := by
  have _ := hs
  have HM : ∀ w1, Calls Tryz.prog 15 #[.string s, .slice none 0 0] w1 fun e w' => e = .returned (.agg #[.int .i64 3, .int .i64 0, .string s, .slice none 0 0]) ∧ Frm [] w1 w' := by
    intro w1
    go_enter Tryz.func15, Tryz.ntmps15
    go_wp2_with (go_at_call 32; refine (slices_clone_nil _).mono ?_; rintro e w' ⟨rfl, rfl⟩)
    generalize hW : World.alloc _ _ = W
    have hb : W.heap[w1.heap.size]? = some (.cells #[.int .i64 3, .int .i64 0, .string s, .slice none 0 0] 25 (0, 0)) := by subst hW; exact (by repeat (first | rw [heap_alloc_at] | rw [heap_size_alloc] | rfl | rw [if_pos (by omega)] | rw [if_neg (by omega)]))
    have FW : Frm [] w1 W := by subst hW; exact (by repeat (first | with_reducible (first | refine .alloc ?_ _ | refine .drewN ?_ _ | refine .drew ?_) | ((with_reducible refine .setCell ?_ ?_ _); rotate_left; focus (first | (left; simp; done) | (right; simp; (first | done | omega)))) | with_reducible (first | assumption | exact .refl _ _ | refine .trans0 ?_ ‹_›)))
    clear hW
    obtain ⟨r0, r1, r2, r3, r4, r5⟩ := blk4 hb
    refine bodyPost_ret (v := .agg #[.int .i64 3, .int .i64 0, .string s, .slice none 0 0]) (by simp [results, Tryz.results15, go_sem, r0, r1, r2, r3]) rfl ?_
    exact ⟨rfl, FW⟩
  go_enter Tryz.func28, Tryz.ntmps28
  go_wp2_with (go_at_call 15; refine (HM _).mono ?_; rintro e w1 ⟨rfl, F1⟩; have hb := F1.at0 (alloc_heap_new w _); obtain ⟨q0, q1, q2, q3, q4, q5⟩ := blk4 hb; have F01 : Frm [] w w1 := Frm.trans0 (by repeat (first | with_reducible (first | refine .alloc ?_ _ | refine .drewN ?_ _ | refine .drew ?_) | ((with_reducible refine .setCell ?_ ?_ _); rotate_left; focus (first | (left; simp; done) | (right; simp; (first | done | omega)))) | with_reducible (first | assumption | exact .refl _ _ | refine .trans0 ?_ ‹_›))) F1)
  have hb2 := box_store4 hb (.int .i64 3) (.int .i64 0) (.string s) (.slice none 0 0)
  have F2 : Frm [w.heap.size] w1 ((((w1.setCell ⟨w.heap.size, 0, none⟩ (.int .i64 3)).setCell ⟨w.heap.size, 1, none⟩ (.int .i64 0)).setCell ⟨w.heap.size, 2, none⟩ (.string s)).setCell ⟨w.heap.size, 3, none⟩ (.slice none 0 0)) := box4_frm' _ _ _ _ _ _
  generalize World.setCell _ _ (.slice none 0 0) = W at *
  obtain ⟨r0, r1, r2, r3, r4, r5⟩ := blk4 hb2
  refine bodyPost_ret (v := .agg #[.int .i64 3, .int .i64 0, .string s, .slice none 0 0]) (by simp [results, Tryz.results28, go_sem, r0, r1, r2, r3]) rfl ?_
  exact ⟨rfl, F01.trans F2 (fun b hb => by rw [List.mem_singleton.1 hb]; exact .inr (Nat.le_refl _))⟩
theorem atom_v (F : List Nat) (w : World) {s : ByteArray} (h : s.size ≤ 1048576) : TermV F w (atom s) (.agg #[.int .i64 3, .int .i64 0, .string s, .slice none 0 0]) := TermV.leaf F w (by unfold I64; omega) (by unfold I64; omega) h

def sumT : Term := .mk 3 0 ⟨#[43]⟩ [Term.num 1, Term.num 2]
def st1 : PStore := PStore.empty.fresh 1
def st1' : PStore := st1.bind 0 (Term.num 3)
theorem has_num (s : PStore) (a : Int) (v : Int) : s.has (Term.num a) v false := by
  refine ⟨1, [], ?_⟩
  unfold PStore.inF
  have : s.run [] (Term.num a) = (some (Term.num a), []) := PStore.runF_stop (PStore.next_ne (by decide)) _ _
  rw [this]
  rfl
theorem callR_at {l : Lat} {s : PStore} {name : ByteArray} {ts : List Term} {i : Nat} (h : goalIdx name ts.length = some i) : callR l s name ts = (true, goalT l s i ts) := by
  unfold callR; rw [h]
theorem shown_is : callR Lat.nine st1 ⟨#[105, 115]⟩ [Term.var 0, sumT] = (true, true, 0, 0, st1') := by
  have h2 : evalS Lat.nine st1 sumT = (3, 0, 0) := by kernel_rfl
  have h3 : st1.matchT Lat.nine [Term.var 0] [Term.num 3] = (true, Lat.nine.bottom, 0, st1') := matchT_bind Lat.nine st1 0 (Term.num 3) (by kernel_rfl) (walk_num _ _) (by decide) (has_num _ _ _)
  rw [callR_at (i := 7) (by kernel_rfl)]
  show (true, st1.isT Lat.nine (Term.var 0) sumT) = _
  unfold PStore.isT
  rw [h2]
  simp only [if_true]
  rw [h3, nine_bottom, nine_join0]
theorem shown_same : callR Lat.nine st1' ⟨#[61, 61]⟩ [(atom ⟨#[97]⟩).put 1, atom ⟨#[97]⟩] = (true, true, 1, 0, st1') := by
  have h2 : st1'.cmpT Lat.nine isZ ((atom ⟨#[97]⟩).put 1) (atom ⟨#[97]⟩) = (true, 1, 0, st1') := by kernel_rfl
  rw [callR_at (i := 4) (by kernel_rfl)]
  show (true, st1'.cmpT Lat.nine isZ ((atom ⟨#[97]⟩).put 1) (atom ⟨#[97]⟩)) = _
  rw [h2]

set_option maxRecDepth 100000 in
set_option maxHeartbeats 2000000 in
theorem law_shown (w : World) : Calls Tryz.prog 9 #[] w fun e w' => e = .returned (.bool true) ∧ Frm [] w w' := by
  have m1 : True := trivial
  go_enter Tryz.func9, Tryz.ntmps9
  go_wp2_with (first
    | (go_at_call 18; refine (law_nine _).mono ?_; rintro e w1 ⟨lb, rfl, hl, hlb, F1⟩; have hlbl := hl.lt)
    | (go_at_call 26; refine (store_new [] _ (by simp)).mono ?_; rintro e w2 ⟨rfl, hst, F2⟩; have hl2 := hl.frm0 F2)
    | (go_at_call 27; refine (store_fresh _ _ _ .empty 1 _ hst (by decide)).mono ?_; rintro e w3 ⟨rfl, TO⟩; obtain ⟨G3, F3', hs3, F3, k3, k4, k5⟩ := TO; have hl3 := hl2.frm F3 (by simp; omega); have F13 : Frm [] w w3 := (F1.trans0 F2).trans F3 (fun b hb => by rw [List.mem_singleton.1 hb]; exact .inr (F1.size)); have hlb3 : lb ∉ G3 := (fun h => by rcases k5 _ h with h | h; (have := List.mem_singleton.1 h; omega); (have := F2.size; omega)))
    | (go_at_call 16; refine (term_let _ _).mono ?_; rintro e w4 ⟨rfl, F4⟩; have HS := F4.size)
    | (go_at_call 14; refine (term_num _ _).mono ?_; rintro e w5 ⟨rfl, F5⟩; (try have HS := Nat.le_trans HS F5.size))
    | (go_at_call 15; refine (term_make F3' ⟨#[43]⟩ _ [Term.num 1, Term.num 2] 2 _ (krow2 (alloc_heap_new _ _) (fun h => by have := hs3.lt _ h; omega) (num_v _ _ (by unfold I64; omega)) (num_v _ _ (by unfold I64; omega))) (.inr ⟨_, _, rfl⟩) (fun b hb => by have := hs3.lt _ hb; simp; omega) (by simp) (by decide)).mono ?_; rintro e w6 ⟨⟨v6, rfl, hv6⟩, F6⟩; obtain ⟨A6, cap6, rfl⟩ := hv6.form; have F36 : Frm [] w3 w6 := Frm.trans0 (by repeat (first | with_reducible (first | refine .alloc ?_ _ | refine .drewN ?_ _ | refine .drew ?_) | ((with_reducible refine .setCell ?_ ?_ _); rotate_left; focus (first | (left; simp; done) | (right; simp; (first | done | omega)))) | with_reducible (first | assumption | exact .refl _ _ | refine .trans0 ?_ ‹_›))) F6)
    | (go_at_call 19; clear m1; refine (built_Call G3 F3' _ lb Lat.nine st1 ⟨#[105, 115]⟩ [Term.var 0, sumT] _ 2 _ ((hl3.frm0 F36).frm0 (by repeat (first | with_reducible (first | refine .alloc ?_ _ | refine .drewN ?_ _ | refine .drew ?_) | ((with_reducible refine .setCell ?_ ?_ _); rotate_left; focus (first | (left; simp; done) | (right; simp; (first | done | omega)))) | with_reducible (first | assumption | exact .refl _ _ | refine .trans0 ?_ ‹_›)))) hlb3 ((hs3.keep F36).keep (by repeat (first | with_reducible (first | refine .alloc ?_ _ | refine .drewN ?_ _ | refine .drew ?_) | ((with_reducible refine .setCell ?_ ?_ _); rotate_left; focus (first | (left; simp; done) | (right; simp; (first | done | omega)))) | with_reducible (first | assumption | exact .refl _ _ | refine .trans0 ?_ ‹_›)))) (krow2 (alloc_heap_new _ _) (fun h => by have := hs3.lt _ h; have := F36.size; omega) (var_v _ _ (by unfold I64; omega)) (hv6.keep (by repeat (first | with_reducible (first | refine .alloc ?_ _ | refine .drewN ?_ _ | refine .drew ?_) | ((with_reducible refine .setCell ?_ ?_ _); rotate_left; focus (first | (left; simp; done) | (right; simp; (first | done | omega)))) | with_reducible (first | assumption | exact .refl _ _ | refine .trans0 ?_ ‹_›))))) (by decide) (by decide)).mono ?_; rw [shown_is]; rintro e w7 ⟨rfl, TO⟩; dsimp only; obtain ⟨G7, F7', hs7, F7, m3, m4, m5⟩ := TO; have hl7 := ((hl3.frm0 F36).frm0 (by repeat (first | with_reducible (first | refine .alloc ?_ _ | refine .drewN ?_ _ | refine .drew ?_) | ((with_reducible refine .setCell ?_ ?_ _); rotate_left; focus (first | (left; simp; done) | (right; simp; (first | done | omega)))) | with_reducible (first | assumption | exact .refl _ _ | refine .trans0 ?_ ‹_›)))).frm F7 hlb3; have F17 : Frm [] w w7 := ((F13.trans0 F36).alloc _).trans F7 (fun b hb => by rcases k5 b hb with h | h; (rw [List.mem_singleton.1 h]; exact .inr F1.size); exact .inr (by have := F1.size; have := F2.size; omega)); have hlb7 : lb ∉ G7 := (fun h => by rcases m5 _ h with h | h; exact hlb3 h; (have := F36.size; have := hl3.lt; simp at h; omega)))
    | (go_at_call 28; refine (term_atom _ _ (by decide)).mono ?_; rintro e w8 ⟨rfl, F8⟩)
    | (go_at_call 23; refine (seal_put F7' (atom ⟨#[97]⟩) _ 1 _ (atom_v _ _ (by decide)) (by unfold I64; omega) (fun b hb => by have := hs7.lt _ hb; have := F8.size; omega)).mono ?_; rintro e w9 ⟨⟨v9, rfl, hv9⟩, F9⟩; obtain ⟨A9, cap9, rfl⟩ := hv9.form; have F79 : Frm [] w7 w9 := F8.trans0 F9)
    | (go_at_call 19; refine (built_Call G7 F7' _ lb Lat.nine st1' ⟨#[61, 61]⟩ [(atom ⟨#[97]⟩).put 1, atom ⟨#[97]⟩] _ 2 _ ((hl7.frm0 F79).frm0 (by repeat (first | with_reducible (first | refine .alloc ?_ _ | refine .drewN ?_ _ | refine .drew ?_) | ((with_reducible refine .setCell ?_ ?_ _); rotate_left; focus (first | (left; simp; done) | (right; simp; (first | done | omega)))) | with_reducible (first | assumption | exact .refl _ _ | refine .trans0 ?_ ‹_›)))) hlb7 ((hs7.keep F79).keep (by repeat (first | with_reducible (first | refine .alloc ?_ _ | refine .drewN ?_ _ | refine .drew ?_) | ((with_reducible refine .setCell ?_ ?_ _); rotate_left; focus (first | (left; simp; done) | (right; simp; (first | done | omega)))) | with_reducible (first | assumption | exact .refl _ _ | refine .trans0 ?_ ‹_›)))) (krow2 (alloc_heap_new _ _) (fun h => by have := hs7.lt _ h; have := F79.size; have := F8.size; omega) (hv9.keep (by repeat (first | with_reducible (first | refine .alloc ?_ _ | refine .drewN ?_ _ | refine .drew ?_) | ((with_reducible refine .setCell ?_ ?_ _); rotate_left; focus (first | (left; simp; done) | (right; simp; (first | done | omega)))) | with_reducible (first | assumption | exact .refl _ _ | refine .trans0 ?_ ‹_›)))) (atom_v _ _ (by decide))) (by decide) (by decide)).mono ?_; rw [shown_same]; rintro e w11 ⟨rfl, TO2⟩; dsimp only; obtain ⟨G11, F11', hs11, F11, n3, n4, n5⟩ := TO2; have F1b : Frm [] w w11 := ((F17.trans0 F79).trans0 (by repeat (first | with_reducible (first | refine .alloc ?_ _ | refine .drewN ?_ _ | refine .drew ?_) | ((with_reducible refine .setCell ?_ ?_ _); rotate_left; focus (first | (left; simp; done) | (right; simp; (first | done | omega)))) | with_reducible (first | assumption | exact .refl _ _ | refine .trans0 ?_ ‹_›)))).trans F11 (fun b hb => by rcases m5 b hb with h | h; (rcases k5 b h with h | h; (rw [List.mem_singleton.1 h]; exact .inr F1.size); exact .inr (by have := F1.size; have := F2.size; omega)); exact .inr (by have := F13.size; have := F36.size; simp at h; omega)))
    | (go_at_call 30; refine (store_walk G11 F11' _ st1' (Term.var 0) _ _ (hs11.keep (by repeat (first | with_reducible (first | refine .alloc ?_ _ | refine .drewN ?_ _ | refine .drew ?_) | ((with_reducible refine .setCell ?_ ?_ _); rotate_left; focus (first | (left; simp; done) | (right; simp; (first | done | omega)))) | with_reducible (first | assumption | exact .refl _ _ | refine .trans0 ?_ ‹_›)))) (var_v _ _ (by unfold I64; omega))).mono ?_; rintro e w12 ⟨⟨v12, rfl, hv12⟩, F12⟩; obtain ⟨A12, cap12, rfl⟩ := hv12.form)
    | (go_at_call 29; refine (term_Same _ (Term.num 3) F11' _ _ _ (hv12.keep (by repeat (first | with_reducible (first | refine .alloc ?_ _ | refine .drewN ?_ _ | refine .drew ?_) | ((with_reducible refine .setCell ?_ ?_ _); rotate_left; focus (first | (left; simp; done) | (right; simp; (first | done | omega)))) | with_reducible (first | assumption | exact .refl _ _ | refine .trans0 ?_ ‹_›)))) (num_v _ _ (by unfold I64; omega))).mono ?_; rintro e w13 ⟨rfl, F13b⟩))
  go_ret
  exact ⟨ret_bool (by kernel_rfl), (by repeat (first | with_reducible (first | refine .alloc ?_ _ | refine .drewN ?_ _ | refine .drew ?_) | ((with_reducible refine .setCell ?_ ?_ _); rotate_left; focus (first | (left; simp; done) | (right; simp; (first | done | omega)))) | with_reducible (first | assumption | exact .refl _ _ | refine .trans0 ?_ ‹_›)))⟩
end Go.Proofs.YtkiofaojokofbaaGreat
namespace Go.Proofs.YtkiofaojokofbaaGreat
open Go.RowKit

theorem TermV.newer {W w' : World} {F : List Nat} {t : Term} {v : Value} (h : TermV [] W t v) (b : Below W.heap.size W w') (hF : ∀ b ∈ F, W.heap.size ≤ b) : TermV F w' t v :=
  TermV.same [] F W w' (fun x _ hx hm => by have := hF x hm; omega) (fun x _ hx => b.block x hx) t v h
theorem KidsV.newer {W w' : World} {F : List Nat} {ts : List Term} {A : Option Addr} {i : Nat} (h : KidsV [] W ts A i) (b : Below W.heap.size W w') (hF : ∀ b ∈ F, W.heap.size ≤ b) : KidsV F w' ts A i :=
  KidsV.same [] F W w' (fun x _ hx hm => by have := hF x hm; omega) (fun x _ hx => b.block x hx) ts A i h
theorem KidsV.over {G F F' : List Nat} {w w' : World} {ts : List Term} {A : Option Addr} {i : Nat} (h : KidsV F w ts A i) (hG : ∀ b, b ∈ G → b ∈ F) (f : Frm G w w') (h2 : ∀ b, b ∈ F' → b ∈ F ∨ w.heap.size ≤ b) : KidsV F' w' ts A i :=
  KidsV.same F F' w w' (fun b hb hlt hx => (h2 b hx).elim hb (fun h => by omega)) (fun b hb hlt => f.block b hlt (fun hx => hb (hG b hx))) ts A i h
/-- What stands, away from F, stands behind whatever writes in F's blocks alone. -/
def Stable (P : List Nat → World → Prop) : Prop := ∀ (G F F' : List Nat) (w w' : World), P F w → (∀ b ∈ F, b < w.heap.size) → (∀ b ∈ G, b ∈ F) → Frm G w w' → (∀ b ∈ F, b ∈ F') → (∀ b ∈ F', b ∈ F ∨ w.heap.size ≤ b) → P F' w'
def KeepP : Type := { P : List Nat → World → Prop // Stable P }
namespace KeepP
def none : KeepP := ⟨fun _ _ => True, fun _ _ _ _ _ _ _ _ _ _ _ => trivial⟩
def term (t : Term) (v : Value) (P : KeepP) : KeepP := ⟨fun F w => TermV F w t v ∧ P.1 F w, fun _ _ _ _ _ h hl hG f h1 h2 => ⟨h.1.over hG f h1 h2, P.2 _ _ _ _ _ h.2 hl hG f h1 h2⟩⟩
def row (ts : List Term) (A : Option Addr) (P : KeepP) : KeepP := ⟨fun F w => KidsV F w ts A 0 ∧ P.1 F w, fun _ _ _ _ _ h hl hG f h1 h2 => ⟨h.1.over hG f h2, P.2 _ _ _ _ _ h.2 hl hG f h1 h2⟩⟩
def box (b : Nat) (o : Obj) (P : KeepP) : KeepP := ⟨fun F w => (b ∉ F ∧ w.heap[b]? = some o) ∧ P.1 F w, fun _ _ _ _ _ h hl hG f h1 h2 =>
  ⟨⟨fun hb => (h2 b hb).elim h.1.1 (fun hs => by have := (Array.getElem?_eq_some_iff.1 h.1.2).1; omega), f.at_ h.1.2 (fun hg => h.1.1 (hG b hg))⟩, P.2 _ _ _ _ _ h.2 hl hG f h1 h2⟩⟩
end KeepP
def Ready (B : Nat) (w : World) (sb : Nat) (st : PStore) (P : KeepP) : Prop := ∃ G F, StoreAt G F w sb st ∧ P.1 F w ∧ (∀ b ∈ F, B ≤ b)
section
variable {B : Nat} {w w' : World} {sb : Nat} {st : PStore} {P : KeepP}
theorem Ready.keep (h : Ready B w sb st P) (f : Frm [] w w') : Ready B w' sb st P := by
  obtain ⟨G, F, h1, h2, h3⟩ := h
  exact ⟨G, F, h1.keep f, P.2 _ _ _ _ _ h2 h1.lt (by simp) f (fun _ h => h) (fun _ h => .inl h), h3⟩
theorem Ready.imp {Q : Prop} (h : Ready B w sb st P) (f : ∀ F, P.1 F w → Q) : Q := by
  obtain ⟨G, F, h1, h2, h3⟩ := h; exact f F h2
theorem Ready.size (h : Ready B w sb st P) : B ≤ w.heap.size := by
  obtain ⟨G, F, h1, h2, h3⟩ := h
  have hsb : sb ∈ F := by
    obtain ⟨cv, tv, xs, _, _, _, _, _, h6, h7, _⟩ := h1
    exact h7 _ (by rw [h6]; simp)
  have := h3 _ hsb
  have := h1.lt _ hsb
  omega
theorem Ready.to {st' : PStore} {G F : List Nat} (hs : StoreAt G F w sb st) (h2 : P.1 F w) (h3 : ∀ b ∈ F, B ≤ b) (hB : B ≤ w.heap.size) (h : StoreTo G F w w' sb st') : Ready B w' sb st' P ∧ Below B w w' := by
  obtain ⟨G', F', k1, k2, k3, k4, k5⟩ := h
  exact ⟨⟨G', F', k1, P.2 _ _ _ _ _ h2 hs.lt hs.sub k2 k3 k4, fun b hb => (k4 b hb).elim (h3 b) (fun h => by omega)⟩, ⟨k2.os, k2.tape, k2.output, by have := k2.size; omega, fun b hb => k2.block b (by omega) (fun hg => by have := h3 b (hs.sub b hg); omega)⟩⟩
theorem Ready.addTerm {t : Term} {v : Value} (h : Ready B w sb st P) (ht : ∀ F, P.1 F w → (∀ b ∈ F, B ≤ b ∧ b < w.heap.size) → TermV F w t v) : Ready B w sb st (P.term t v) := by
  obtain ⟨G, F, h1, h2, h3⟩ := h
  exact ⟨G, F, h1, ⟨ht F h2 (fun b hb => ⟨h3 b hb, h1.lt b hb⟩), h2⟩, h3⟩
theorem Ready.addBox (h : Ready B w sb st P) (cs : Array Value) (ty : TypeId) : Ready B (w.alloc (.cells cs ty)) sb st (P.box w.heap.size (.cells cs ty (0, 0))) := by
  have hk := h.keep ((Frm.refl [] w).alloc (.cells cs ty))
  obtain ⟨G, F, h1, h2, h3⟩ := h
  have f : Frm [] w (w.alloc (.cells cs ty)) := (Frm.refl [] w).alloc _
  exact ⟨G, F, h1.keep f, ⟨⟨fun hb => by have := h1.lt _ hb; omega, alloc_heap_new _ _⟩, P.2 _ _ _ _ _ h2 h1.lt (by simp) f (fun _ h => h) (fun _ h => .inl h)⟩, h3⟩
theorem Ready.dropRow {ts : List Term} {A : Option Addr} (h : Ready B w sb st (P.row ts A)) : Ready B w sb st P := by
  obtain ⟨G, F, h1, h2, h3⟩ := h; exact ⟨G, F, h1, h2.2, h3⟩
theorem Ready.dropTerm {t : Term} {v : Value} (h : Ready B w sb st (P.term t v)) : Ready B w sb st P := by
  obtain ⟨G, F, h1, h2, h3⟩ := h; exact ⟨G, F, h1, h2.2, h3⟩
/-- A row of two terms, or one, that was just made. -/
theorem Ready.addTwo {t u : Term} {c0 c1 c2 c3 d0 d1 d2 d3 : Value} {ty : TypeId} (h : Ready B w sb st P)
    (ht : ∀ F, P.1 F w → (∀ b ∈ F, B ≤ b) → TermV F w t (.agg #[c0, c1, c2, c3])) (hu : ∀ F, P.1 F w → (∀ b ∈ F, B ≤ b) → TermV F w u (.agg #[d0, d1, d2, d3])) :
    Ready B (w.alloc (.cells #[c0, c1, c2, c3, d0, d1, d2, d3] ty)) sb st (P.row [t, u] (some ⟨w.heap.size, 0, none⟩)) := by
  obtain ⟨G, F, h1, h2, h3⟩ := h
  have f : Frm [] w (w.alloc (.cells #[c0, c1, c2, c3, d0, d1, d2, d3] ty)) := (Frm.refl [] w).alloc _
  exact ⟨G, F, h1.keep f, ⟨krow2 (alloc_heap_new _ _) (fun hb => by have := h1.lt _ hb; omega) ((ht F h2 h3).keep f) ((hu F h2 h3).keep f), P.2 _ _ _ _ _ h2 h1.lt (by simp) f (fun _ h => h) (fun _ h => .inl h)⟩, h3⟩
theorem Ready.addOne {t : Term} {c0 c1 c2 c3 : Value} {ty : TypeId} (h : Ready B w sb st P) (ht : ∀ F, P.1 F w → (∀ b ∈ F, B ≤ b) → TermV F w t (.agg #[c0, c1, c2, c3])) :
    Ready B (w.alloc (.cells #[c0, c1, c2, c3] ty)) sb st (P.row [t] (some ⟨w.heap.size, 0, none⟩)) := by
  obtain ⟨G, F, h1, h2, h3⟩ := h
  have f : Frm [] w (w.alloc (.cells #[c0, c1, c2, c3] ty)) := (Frm.refl [] w).alloc _
  exact ⟨G, F, h1.keep f, ⟨krow1 (alloc_heap_new _ _) (fun hb => by have := h1.lt _ hb; omega) ((ht F h2 h3).keep f), P.2 _ _ _ _ _ h2 h1.lt (by simp) f (fun _ h => h) (fun _ h => .inl h)⟩, h3⟩
end
theorem BoundTo.ready {w : World} {st : PStore} {e : Ending} {w' : World} (h : BoundTo w st e w') : ∃ sb, e = .returned (.pointer (some ⟨sb, 0, none⟩)) ∧ Ready w.heap.size w' sb st .none ∧ Frm [] w w' := by
  obtain ⟨sb, G, F, he, h1, h2, h3⟩ := h
  exact ⟨sb, he, ⟨G, F, h1, trivial, h3⟩, h2⟩
theorem ready_asked {B : Nat} {w : World} {sb : Nat} {st : PStore} {P : KeepP} (h : Ready B w sb st P) (name : ByteArray) (ts : List Term) (A : Option Addr) (cap : Nat) (hm : ∀ F, P.1 F w → KidsV F w ts A 0) (hn : name.size ≤ 1048576) (ht : ts.length ≤ 1048576) {x : Bool} {c : Int} {st' : PStore} (hr : askR st name ts = (x, c, st')) :
    Calls Tryz.prog 13 #[.pointer (some ⟨sb, 0, none⟩), .string name, .slice A ts.length cap] w fun e w' =>
      e = .returned (.tuple #[.bool x, .int .i64 c]) ∧ Ready B w' sb st' P ∧ Below B w w' := by
  have hB := h.size
  obtain ⟨G, F, h1, h2, h3⟩ := h
  refine (law_asked G F sb st name ts A cap w h1 (hm F h2) hn ht).mono ?_
  rw [hr]
  rintro e w' ⟨rfl, TO⟩
  exact ⟨rfl, Ready.to h1 h2 h3 hB TO⟩
theorem ready_mark {B : Nat} {w : World} {sb : Nat} {st : PStore} {P : KeepP} (h : Ready B w sb st P) :
    Calls Tryz.prog 12 #[.pointer (some ⟨sb, 0, none⟩)] w fun e w' => e = .returned (.int .i64 st.trail.length) ∧ Ready B w' sb st P ∧ Frm [] w w' := by
  have hk := h
  obtain ⟨G, F, h1, h2, h3⟩ := h
  refine (store_mark G F sb st w h1).mono ?_
  rintro e w' ⟨rfl, f⟩
  exact ⟨rfl, hk.keep f, f⟩
theorem ready_make2 {B : Nat} {w : World} {sb : Nat} {st : PStore} {P : KeepP} (h : Ready B w sb st P) (s : ByteArray) (t u : Term) (b off : Nat) (cap : Nat) (hm : ∀ F, P.1 F w → KidsV F w [t, u] (some ⟨b, off, none⟩) 0) (hs : s.size ≤ 1048576) :
    Calls Tryz.prog 15 #[.string s, .slice (some ⟨b, off, none⟩) 2 cap] w fun e w' => (∃ A' cap', e = .returned (.agg #[.int .i64 3, .int .i64 0, .string s, .slice A' 2 cap']) ∧ Ready B w' sb st (P.term (Term.fn s [t, u]) (.agg #[.int .i64 3, .int .i64 0, .string s, .slice A' 2 cap']))) ∧ Frm [] w w' := by
  obtain ⟨G, F, h1, h2, h3⟩ := h
  refine (term_make F s _ [t, u] cap w (hm F h2) (.inr ⟨b, off, rfl⟩) h1.lt (by simp) hs).mono ?_
  rintro e w' ⟨⟨v, rfl, hv⟩, f⟩
  obtain ⟨A', cap', rfl⟩ := hv.form
  exact ⟨⟨A', cap', rfl, G, F, h1.keep f, ⟨hv, P.2 _ _ _ _ _ h2 h1.lt (by simp) f (fun _ h => h) (fun _ h => .inl h)⟩, h3⟩, f⟩
end Go.Proofs.YtkiofaojokofbaaGreat
