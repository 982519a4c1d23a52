/- Histories: events, ops that have their place, the map's keys, and the state of a value of hist.Hist: plain theorems, without a condition of their own. -/
import Derived.Maps.Own
import Derived.Maps.OwnOps
import Derived.Maps.OwnIn
import Derived.Maps.Views
import Derived.DeepKeys4
import Derived.Deep.RegionHeld3
import Derived.StillTailTactics
import Derived.Test.YtkdfdcppeolbjaaMem
import Derived.Test.YtkdfdcppeolbjaaSplit
import Derived.Test.YtkdfdcppeolbjaaProg
import Derived.Test.YtkdfdcppeolbjaaChecked
namespace Go.Proofs.Ytkdfdcppeolbjaa.HistBase
open Go Go.RowKit Go.Maps Go.Proofs.YtkdfdcppeolbjaaKit Go.Proofs.Ytkdfdcppeolbjaa.Mem
set_option linter.unusedVariables false
set_option linter.unusedSimpArgs false
/-- An event: who, which, its kind, and the window of its reply. -/
abbrev Ev := Int × Int × Int × Int
def evC (e : Ev) : List Value := [.int .i64 e.1, .int .i64 e.2.1, .int .i64 e.2.2.1, .int .i64 0, .int .i64 e.2.2.2, .int .i64 0, .int .i64 0, .int .i64 0, .slice none 0 0, .int .i64 0, .int .i64 0, .bool false]
def spC (s : Int × Int) : List Value := [.int .i64 s.1, .int .i64 s.2]
def flatE (l : List Ev) : List Value := l.flatMap evC
def flatS (l : List (Int × Int)) : List Value := l.flatMap spC
theorem flat_len {α : Type} (f : α → List Value) (k : Nat) (hf : ∀ x, (f x).length = k) (l : List α) : (l.flatMap f).length = l.length * k := by
  induction l with
  | nil => simp
  | cons x l ih => rw [List.flatMap_cons, List.length_append, ih, hf, List.length_cons, Nat.succ_mul, Nat.add_comm]
theorem flat_get {α : Type} (f : α → List Value) (k : Nat) (hf : ∀ x, (f x).length = k) (l : List α) (i : Nat) (x : α) (hx : l[i]? = some x) (j : Nat) (hj : j < k) : (l.flatMap f)[i * k + j]? = (f x)[j]? := by
  induction l generalizing i with
  | nil => simp at hx
  | cons y l ih =>
    rw [List.flatMap_cons]
    cases i with
    | zero => simp at hx; subst hx; rw [List.getElem?_append_left (by rw [hf]; omega)]; simp
    | succ i =>
      simp at hx
      rw [List.getElem?_append_right (by rw [hf, Nat.succ_mul]; omega), hf, show (i + 1) * k + j - k = i * k + j by rw [Nat.succ_mul]; omega]
      exact ih i hx
theorem flatE_get (l : List Ev) (i : Nat) (e : Ev) (h : l[i]? = some e) (j : Nat) (hj : j < 12) : (flatE l)[i * 12 + j]? = (evC e)[j]? := flat_get evC 12 (fun _ => rfl) l i e h j hj
theorem flatS_get (l : List (Int × Int)) (i : Nat) (e : Int × Int) (h : l[i]? = some e) (j : Nat) (hj : j < 2) : (flatS l)[i * 2 + j]? = (spC e)[j]? := flat_get spC 2 (fun _ => rfl) l i e h j hj
theorem flatE_append (a b : List Ev) : flatE (a ++ b) = flatE a ++ flatE b := List.flatMap_append
theorem flatS_append (a b : List (Int × Int)) : flatS (a ++ b) = flatS a ++ flatS b := List.flatMap_append
theorem flatE_one (e : Ev) : flatE [e] = evC e := by simp [flatE]
theorem flatS_one (e : Int × Int) : flatS [e] = spC e := by simp [flatS]
/-! ### The map's keys -/
abbrev Dw := DataW Unit
theorem laidOut : laidOutB Try.prog = true := by kernel_rfl
theorem rowS : (28 : TypeId) < Try.prog.types.size := of_decide_eq_true (by kernel_rfl)
theorem wideS : (match Try.prog.underlying 28 with | some (.array _ _) | some (.struct _) => true | _ => false) = true := by kernel_rfl
theorem lawS : Keyed Try.prog 28 := Keyed.of_law (deep_law_laid laidOut (m := 2) (by omega) rowS (by kernel_rfl) wideS)
theorem keyS : Try.prog.keyType 28 = true := by kernel_rfl
theorem cellsS : Try.prog.cellsOf 28 = 2 := by kernel_rfl
theorem zero3 (w : World) : (zeroValue 3).run Try.prog w = .ok (.int .i64 0) w := by kernel_rfl
def wfI (x : Int) : Prop := (Lit.int .i64 x).wf = true
abbrev Kv (s : Int × Int) : Value := .agg #[.int .i64 s.1, .int .i64 s.2]
theorem size_pos : ∃ k, Try.prog.types.size = k + 1 := ⟨Try.prog.types.size - 1, (Nat.sub_add_cancel (Nat.lt_of_le_of_lt (Nat.zero_le _) rowS)).symm⟩
theorem cells3 : Try.prog.cellsOf 3 = 1 := by kernel_rfl
theorem lits_int (k : Nat) (x : Int) (h : wfI x) : Try.prog.keyLits (k + 1) 3 [.int .i64 x] = some [.int .i64 x] := by
  unfold wfI at h
  unfold Program.keyLits
  rw [Try.underlying3]
  simp only [h, and_self, if_true]
theorem key_some (s : Int × Int) (h1 : wfI s.1) (h2 : wfI s.2) : ∃ l, keyOf Try.prog 28 (Kv s) = some l := by
  have hf : (Kv s).formed Try.prog 28 = true := by
    simp [Value.formed, Try.underlying28, cellsS]
  obtain ⟨k, hk⟩ := size_pos
  have e1 := lits_int k s.1 h1
  have e2 := lits_int k s.2 h2
  have hl : Try.prog.keyLits (Try.prog.types.size + 1) 28 [.int .i64 s.1, .int .i64 s.2] = some [.int .i64 s.1, .int .i64 s.2] := by
    rw [hk]
    unfold Program.keyLits
    rw [Try.underlying28]
    simp [cellsS, cells3, e1, e2]
  unfold keyOf
  rw [Try.underlying28]
  simp only [keyS, hf, Bool.and_self, if_true]
  have hc : (Kv s).cells.toList = [.int .i64 s.1, .int .i64 s.2] := by simp [Kv, Value.cells]
  rw [hc, hl]
  exact ⟨_, rfl⟩
noncomputable def kl (s : Int × Int) : Lit := (keyOf Try.prog 28 (Kv s)).getD .nil
theorem key_of {s : Int × Int} (h1 : wfI s.1) (h2 : wfI s.2) : keyOf Try.prog 28 (Kv s) = some (kl s) := by
  obtain ⟨l, hl⟩ := key_some s h1 h2
  unfold kl
  rw [hl]; rfl
theorem kl_inj {s s' : Int × Int} (h1 : wfI s.1) (h2 : wfI s.2) (h1' : wfI s'.1) (h2' : wfI s'.2) (e : kl s = kl s') : s = s' := by
  have a := key_of h1 h2
  have b := key_of h1' h2'
  rw [e] at a
  have := lawS.inj a b
  obtain ⟨x, y⟩ := s
  obtain ⟨x', y'⟩ := s'
  simp at this
  rw [this.1, this.2]
theorem kl_key {s : Int × Int} (h1 : wfI s.1) (h2 : wfI s.2) : WideAt.IsKeyLit (kl s) := lawS.key (key_of h1 h2)
/-- Where an op has its place. -/
def place (od : List (Int × Int)) (s : Int × Int) : Option Nat := od.findIdx? (· == s)
/-- The map holds each op's place. -/
structure Ix (od : List (Int × Int)) (D : Dw) : Prop where
  map : IsMap D
  wf : ∀ s ∈ od, wfI s.1 ∧ wfI s.2
  no : ∀ s, wfI s.1 → wfI s.2 → place od s = none → has D (kl s) = false
  yes : ∀ s k, wfI s.1 → wfI s.2 → place od s = some k → has D (kl s) = true ∧ D.atKey (kl s) (.lit (.int .i64 0)) = .lit (.int .i64 (k : Int))
theorem Ix.nil : Ix [] (.map []) := ⟨isMap_empty, fun s h => by simp at h, fun s _ _ _ => rfl, fun s k _ _ h => by simp [place] at h⟩
theorem place_append_self {od : List (Int × Int)} {s : Int × Int} (h : place od s = none) : place (od ++ [s]) s = some od.length := by
  unfold place at *
  rw [List.findIdx?_append, h]
  simp
theorem place_append_old {od : List (Int × Int)} {s s' : Int × Int} {k : Nat} (h : place od s' = some k) : place (od ++ [s]) s' = some k := by
  unfold place at *
  rw [List.findIdx?_append, h]
  simp
theorem place_append_other {od : List (Int × Int)} {s s' : Int × Int} (hne : s ≠ s') (h : place od s' = none) : place (od ++ [s]) s' = none := by
  unfold place at *
  rw [List.findIdx?_append, h]
  simp [hne]
theorem Ix.push {od : List (Int × Int)} {D : Dw} {s : Int × Int} (h : Ix od D) (h1 : wfI s.1) (h2 : wfI s.2) (hn : place od s = none) : Ix (od ++ [s]) (D.put (kl s) (.lit (.int .i64 (od.length : Int)))) := by
  refine ⟨h.map.put _ _, fun s' hs => ?_, fun s' h1' h2' hp => ?_, fun s' k h1' h2' hp => ?_⟩
  · rcases List.mem_append.1 hs with hs | hs
    · exact h.wf s' hs
    · obtain rfl := List.mem_singleton.1 hs
      exact ⟨h1, h2⟩
  · have hne : s ≠ s' := fun e => by
      subst e
      rw [place_append_self hn] at hp; cases hp
    have hp' : place od s' = none := by
      cases hq : place od s' with
      | none => rfl
      | some k => rw [place_append_old hq] at hp; cases hp
    rw [has_put_other (fun e => hne (kl_inj h1 h2 h1' h2' e.symm))]
    exact h.no s' h1' h2' hp'
  · by_cases e : s = s'
    · subst e
      rw [place_append_self hn] at hp
      cases hp
      exact ⟨has_put_same h.map (kl_key h1 h2) _, atKey_put_same h.map (kl_key h1 h2) _ _⟩
    · have hne : kl s' ≠ kl s := fun e2 => e (kl_inj h1 h2 h1' h2' e2.symm)
      rw [has_put_other hne, atKey_put_other hne]
      cases hq : place od s' with
      | none => rw [place_append_other e hq] at hp; cases hp
      | some k' =>
        rw [place_append_old hq] at hp
        cases hp
        exact h.yes s' _ h1' h2' hq
/-! ### The state -/
/-- The history at block g: what was called and replied at lb, the order at ob, the map at B. w: the world that the law began in. -/
structure Hi (w W : World) (g : Nat) (lb : Option Nat) (cap : Nat) (ob : Option Nat) (oc B m : Nat) (evs : List Ev) (od : List (Int × Int)) (D : Dw) : Prop where
  obj : W.heap[g]? = some (.cells #[sl lb evs.length cap, sl ob od.length oc, .map (some B)] 53 (0, 0))
  ev : Own W (g + 1) 49 12 lb evs.length cap (flatE evs)
  ord : Own W (g + 1) 28 2 ob od.length oc (flatS od)
  map : W.ownsMap Try.prog 28 (plainElem Try.prog 3) B m D
  lt : B < g
  ge : w.heap.size ≤ B
  below : Below w.heap.size w W
  ix : Ix od D
  m : m ≤ od.length
theorem ownsMap_of {W W' : World} {B m : Nat} {D : Dw} (h : W.ownsMap Try.prog 28 (plainElem Try.prog 3) B m D) (e : W'.heap[B]? = W.heap[B]?) : W'.ownsMap Try.prog 28 (plainElem Try.prog 3) B m D := by
  obtain ⟨es, clock, hb, r⟩ := h
  exact ⟨es, clock, e.trans hb, r⟩
theorem own_ge {W : World} {base : Nat} {e : TypeId} {k n cap : Nat} {lb : Option Nat} {xs : List Value} (o : Own W base e k lb n cap xs) : ∀ b, lb = some b → base ≤ b ∧ b < W.heap.size := fun b e => by subst e; exact own_base o
section
variable {w W W' : World} {g : Nat} {lb : Option Nat} {cap : Nat} {ob : Option Nat} {oc B m : Nat} {evs : List Ev} {od : List (Int × Int)} {D : Dw}
theorem Hi.then_ (h : Hi w W g lb cap ob oc B m evs od D) (hb : Below W.heap.size W W') : Hi w W' g lb cap ob oc B m evs od D :=
  ⟨bs_below hb (bs_lt h.obj) h.obj, h.ev.below hb, h.ord.below hb, ownsMap_of h.map (hb.block B h.map.lt), h.lt, h.ge, be_call hb h.below.size h.below, h.ix, h.m⟩
theorem Hi.c (h : Hi w W g lb cap ob oc B m evs od D) : W.cell? ⟨g, 0, none⟩ = some (sl lb evs.length cap) ∧ W.cell? ⟨g, 1, none⟩ = some (sl ob od.length oc) ∧ W.cell? ⟨g, 2, none⟩ = some (.map (some B)) :=
  ⟨(bs_cell h.obj 0).trans rfl, (bs_cell h.obj 1).trans rfl, (bs_cell h.obj 2).trans rfl⟩
theorem Hi.ne (h : Hi w W g lb cap ob oc B m evs od D) : ∀ b, lb = some b → ob ≠ some b := fun b e e2 => by
  subst e e2
  have := own_apart h.ev h.ord
  revert this
  decide
/-- An event more. -/
theorem Hi.push (h : Hi w W g lb cap ob oc B m evs od D) {W0 w1 : World} (h0 : Below W.heap.size W W0) {g' cap' n : Nat} {e : Ev} (hg : W0.grownBy w1 lb)
    (hown : w1.ownsRow (g + 1) 49 12 (.slice (some ⟨g', 0, none⟩) (n + 1) cap') (n + 1) (flatE evs ++ evC e)) (hn : evs.length = n) :
    Hi w (w1.setCell ⟨g, 0, none⟩ (.slice (some ⟨g', 0, none⟩) (n + 1) cap')) g (some g') cap' ob oc B m (evs ++ [e]) od D := by
  subst hn
  have hlt := h.lt
  have hge := h.ge
  have hs := bs_lt h.obj
  have hs0 := h0.size
  have hlb := own_ge h.ev
  have hob := own_ge h.ord
  have hg1 : w1.heap[g]? = W.heap[g]? := (hg.block g (by omega) (fun e => by have := hlb g e.symm; omega)).trans (h0.block g hs)
  have hB1 : w1.heap[B]? = W.heap[B]? := (hg.block B (by omega) (fun e => by have := hlb B e.symm; omega)).trans (h0.block B h.map.lt)
  have hxl : (evs ++ [e]).length = evs.length + 1 := by simp
  have hO : Own w1 (g + 1) 49 12 (some g') (evs.length + 1) cap' (flatE (evs ++ [e])) := ⟨by rw [flatE_append, flatE_one]; exact hown⟩
  have hg2 := own_base hO
  have hOd : Own w1 (g + 1) 28 2 ob od.length oc (flatS od) := h.ord.keep fun b e hlt => (hg.block b (by omega) (fun e2 => h.ne b e2.symm e)).trans (h0.block b hlt)
  have hB : Below w.heap.size w w1 := below_grown (h.below.trans (h0.mono h.below.size)) (by have := h.below.size; omega) hg (fun b hb => by have := hlb b hb; omega)
  refine ⟨?_, ?_, hOd.far (fun b e => by have := hob b e; dsimp only; omega) _, ownsMap_of h.map ((Below.heap_setCell w1 _ _ B (by dsimp only; omega)).trans hB1), h.lt, h.ge, be_set hB (by dsimp only; omega), h.ix, h.m⟩
  · have := bs_same (i := 0) (v := .slice (some ⟨g', 0, none⟩) (evs.length + 1) cap') (hg1.trans h.obj)
    rw [hxl]
    simpa [sl] using this
  · rw [hxl]
    exact hO.far (fun b hb => by cases hb; dsimp only; omega) _
/-- An op more that has its place. -/
theorem Hi.put (h : Hi w W g lb cap ob oc B m evs od D) {w1 w2 : World} {s : Int × Int} (h1 : wfI s.1) (h2 : wfI s.2) (hp : place od s = none) (ho : w1.ownsMap Try.prog 28 (plainElem Try.prog 3) B (m + 1) (D.put (kl s) (.lit (.int .i64 (od.length : Int))))) (hgm : W.grownBy w1 (some B))
    {W0 : World} (h0 : Below w1.heap.size w1 W0) {g' cap' n : Nat} (hg : W0.grownBy w2 ob)
    (hown : w2.ownsRow (g + 1) 28 2 (.slice (some ⟨g', 0, none⟩) (n + 1) cap') (n + 1) (flatS od ++ spC s)) (hn : od.length = n) :
    Hi w (w2.setCell ⟨g, 1, none⟩ (.slice (some ⟨g', 0, none⟩) (n + 1) cap')) g lb cap (some g') cap' B (m + 1) evs (od ++ [s]) (D.put (kl s) (.lit (.int .i64 (od.length : Int)))) := by
  subst hn
  have hlt := h.lt
  have hge := h.ge
  have hs := bs_lt h.obj
  have hs1 := hgm.size
  have hs0 := h0.size
  have hlb := own_ge h.ev
  have hob := own_ge h.ord
  have key : ∀ k, k < W.heap.size → k ≠ B → some k ≠ ob → w2.heap[k]? = W.heap[k]? := fun k hk hB ho => (hg.block k (by omega) ho).trans ((h0.block k (by omega)).trans (hgm.block k hk (fun e => hB (by cases e; rfl))))
  have hg1 : w2.heap[g]? = W.heap[g]? := key g hs (by omega) (fun e => by have := hob g e.symm; omega)
  have hBm : w2.heap[B]? = w1.heap[B]? := (hg.block B (by have := h.map.lt; omega) (fun e => by have := hob B e.symm; omega)).trans (h0.block B (by have := h.map.lt; omega))
  have hxl : (od ++ [s]).length = od.length + 1 := by simp
  have hO : Own w2 (g + 1) 28 2 (some g') (od.length + 1) cap' (flatS (od ++ [s])) := ⟨by rw [flatS_append, flatS_one]; exact hown⟩
  have hg2 := own_base hO
  have hEv : Own w2 (g + 1) 49 12 lb evs.length cap (flatE evs) := h.ev.keep fun b e hlt => key b hlt (by have := hlb b e; omega) (fun e2 => h.ne b e e2.symm)
  have hb1 : Below w.heap.size w w1 := below_grown h.below h.below.size hgm (fun b hb => by cases hb; omega)
  have hB : Below w.heap.size w w2 := below_grown (hb1.trans (h0.mono hb1.size)) (by have := h.below.size; omega) hg (fun b hb => by have := hob b hb; omega)
  refine ⟨?_, hEv.far (fun b e => by have := hlb b e; dsimp only; omega) _, ?_, ownsMap_of ho ((Below.heap_setCell w2 _ _ B (by dsimp only; omega)).trans hBm), h.lt, h.ge, be_set hB (by dsimp only; omega), h.ix.push h1 h2 hp, by rw [hxl]; have := h.m; omega⟩
  · have := bs_same (i := 1) (v := .slice (some ⟨g', 0, none⟩) (od.length + 1) cap') (hg1.trans h.obj)
    rw [hxl]
    simpa [sl] using this
  · rw [hxl]
    exact hO.far (fun b hb => by cases hb; dsimp only; omega) _
end
/-- What stays: every block that was there, but the history's own; what becomes its own was its own, or is new. -/
structure Fh (g B : Nat) (W : World) (lb ob : Option Nat) (W' : World) (lb' ob' : Option Nat) : Prop where
  block : ∀ k, k < W.heap.size → k ≠ g → k ≠ B → some k ≠ lb → some k ≠ ob → W'.heap[k]? = W.heap[k]?
  own : ∀ k, k < W.heap.size → some k ≠ lb → some k ≠ ob → some k ≠ lb' ∧ some k ≠ ob'
  size : W.heap.size ≤ W'.heap.size
section
variable {g B : Nat} {W W' W2 : World} {lb ob lb' ob' lb2 ob2 : Option Nat}
theorem Fh.of_below (hb : Below W.heap.size W W') : Fh g B W lb ob W' lb ob := ⟨fun k hk _ _ _ _ => hb.block k hk, fun k _ a b => ⟨a, b⟩, hb.size⟩
theorem Fh.trans (a : Fh g B W lb ob W' lb' ob') (b : Fh g B W' lb' ob' W2 lb2 ob2) : Fh g B W lb ob W2 lb2 ob2 :=
  ⟨fun k hk h1 h2 h3 h4 => by
    obtain ⟨a1, a2⟩ := a.own k hk h3 h4
    exact (b.block k (Nat.lt_of_lt_of_le hk a.size) h1 h2 a1 a2).trans (a.block k hk h1 h2 h3 h4), fun k hk h3 h4 => by
    obtain ⟨a1, a2⟩ := a.own k hk h3 h4
    exact b.own k (Nat.lt_of_lt_of_le hk a.size) a1 a2, Nat.le_trans a.size b.size⟩
theorem Fh.push {W0 w1 : World} (h0 : Below W.heap.size W W0) (hg : W0.grownBy w1 lb) {g' : Nat} (hat : lb = some g' ∨ W.heap.size ≤ g') (i : Nat) (v : Value) : Fh g B W lb ob (w1.setCell ⟨g, i, none⟩ v) (some g') ob := by
  have hs0 := h0.size
  refine ⟨fun k hk h1 _ h3 _ => (Below.heap_setCell w1 _ _ k h1).trans ((hg.block k (by omega) h3).trans (h0.block k hk)), fun k hk h3 h4 => ⟨fun e => ?_, h4⟩, by rw [World.size_setCell]; exact Nat.le_trans hs0 hg.size⟩
  cases e
  rcases hat with h | h
  · exact h3 h.symm
  · omega
theorem Fh.put {W0 w1 w2 : World} (hgm : W.grownBy w1 (some B)) (h0 : Below w1.heap.size w1 W0) (hg : W0.grownBy w2 ob) {g' : Nat} (hat : ob = some g' ∨ W.heap.size ≤ g') (i : Nat) (v : Value) : Fh g B W lb ob (w2.setCell ⟨g, i, none⟩ v) lb (some g') := by
  have hs1 := hgm.size
  have hs0 := h0.size
  refine ⟨fun k hk h1 h2 _ h4 => (Below.heap_setCell w2 _ _ k h1).trans ((hg.block k (by omega) h4).trans ((h0.block k (by omega)).trans (hgm.block k hk (fun e => h2 (by cases e; rfl))))), fun k hk h3 h4 => ⟨h3, fun e => ?_⟩, by rw [World.size_setCell]; exact Nat.le_trans hs1 (Nat.le_trans hs0 hg.size)⟩
  cases e
  rcases hat with h | h
  · exact h4 h.symm
  · omega
end
/-- The history stays while another row is turned. -/
theorem Hi.grown {w W W' : World} {g : Nat} {lb : Option Nat} {cap : Nat} {ob : Option Nat} {oc B m : Nat} {evs : List Ev} {od : List (Int × Int)} {D : Dw} {row : Option Nat} (h : Hi w W g lb cap ob oc B m evs od D) (hg : W.grownBy W' row)
    (hr : ∀ b, row = some b → w.heap.size ≤ b ∧ b ≠ g ∧ b ≠ B ∧ lb ≠ some b ∧ ob ≠ some b) : Hi w W' g lb cap ob oc B m evs od D :=
  ⟨(hg.block g (bs_lt h.obj) (fun e => (hr g e.symm).2.1 rfl)).trans h.obj, h.ev.grown hg (fun b e e2 => (hr b e2.symm).2.2.2.1 e), h.ord.grown hg (fun b e e2 => (hr b e2.symm).2.2.2.2 e), ownsMap_of h.map (hg.block B h.map.lt (fun e => (hr B e.symm).2.2.1 rfl)), h.lt, h.ge, below_grown h.below h.below.size hg (fun b e => (hr b e).1), h.ix, h.m⟩
end Go.Proofs.Ytkdfdcppeolbjaa.HistBase


