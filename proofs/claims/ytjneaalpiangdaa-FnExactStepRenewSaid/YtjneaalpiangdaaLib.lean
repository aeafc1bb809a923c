/- Readings of Go data in memory as Lean data, with the blocks that a reading meets; frames; fresh memory. Program independent. -/
import Derived.WalkKit
import Derived.WalkLawsBesides
import Derived.WalkSpells
import Derived.Lib.Hide
import Derived.Deep.Quiet
namespace Go.Proofs.Ytjneaalpiangdaa
open Go.RowKit

/-- One way in which memory goes on: blocks outside S that were there are as they were. -/
structure Mod (S : List Nat) (w w' : World) : Prop where
  os : w'.os = w.os
  tape : w'.tape = w.tape
  output : w'.output = w.output
  size : w.heap.size ≤ w'.heap.size
  block : ∀ k, k < w.heap.size → k ∉ S → w'.heap[k]? = w.heap[k]?

theorem Mod.of_below {B : Nat} {w w' : World} (h : Below B w w') (hB : w.heap.size ≤ B) : Mod [] w w' :=
  ⟨h.os, h.tape, h.output, h.size, fun k hk _ => h.block k (by omega)⟩
theorem Mod.below {w w' : World} (h : Mod [] w w') : Below w.heap.size w w' :=
  ⟨h.os, h.tape, h.output, h.size, fun k hk => h.block k hk (by simp)⟩
theorem Mod.belowS {S : List Nat} {B : Nat} {w w' : World} (h : Mod S w w') (hB : B ≤ w.heap.size) (hS : ∀ k ∈ S, B ≤ k) : Below B w w' :=
  ⟨h.os, h.tape, h.output, h.size, fun k hk => h.block k (by omega) (fun hm => by have := hS k hm; omega)⟩
theorem Mod.refl (S : List Nat) (w : World) : Mod S w w := ⟨rfl, rfl, rfl, Nat.le_refl _, fun _ _ _ => rfl⟩
theorem Mod.trans {S S' : List Nat} {a b c : World} (h : Mod S a b) (k : Mod S' b c) (hs : ∀ x ∈ S', x ∈ S ∨ a.heap.size ≤ x) : Mod S a c :=
  ⟨k.os.trans h.os, k.tape.trans h.tape, k.output.trans h.output, Nat.le_trans h.size k.size, fun i hi hn =>
    (k.block i (Nat.lt_of_lt_of_le hi h.size) (fun hm => by rcases hs i hm with h1 | h1; exact hn h1; omega)).trans (h.block i hi hn)⟩
theorem Mod.weaken {S S' : List Nat} {a b : World} (h : Mod S a b) (hs : ∀ x ∈ S, x ∈ S' ∨ a.heap.size ≤ x) : Mod S' a b :=
  ⟨h.os, h.tape, h.output, h.size, fun i hi hn => h.block i hi (fun hm => by rcases hs i hm with h1 | h1; exact hn h1; omega)⟩
theorem Mod.drew {S : List Nat} {a w : World} (h : Mod S a w) : Mod S a w.drew := ⟨h.os, h.tape, h.output, h.size, h.block⟩
theorem Mod.alloc {S : List Nat} {a w : World} (h : Mod S a w) (o : Obj) : Mod S a (w.alloc o) :=
  h.trans (S' := []) ⟨rfl, rfl, rfl, by simp, fun k hk _ => Below.heap_alloc _ _ _ hk⟩ (by simp)
theorem Mod.setCell {S : List Nat} {a w : World} (h : Mod S a w) {p : Addr} (hp : p.block ∈ S ∨ a.heap.size ≤ p.block) (u : Value) : Mod S a (w.setCell p u) :=
  h.trans (S' := [p.block]) ⟨rfl, rfl, rfl, by simp [World.setCell], fun k _ hk => Below.heap_setCell _ _ _ _ (by simpa using hk)⟩ (by simpa using hp)
theorem Mod.cell {S : List Nat} {w w' : World} (h : Mod S w w') {p : Addr} (hp : p.block < w.heap.size) (hn : p.block ∉ S) : w'.cell? p = w.cell? p := World.cell?_of_block (w := w) (h.block p.block hp hn)
theorem Mod.frozen {S : List Nat} {w w' : World} (h : Mod S w w') {p : Addr} (hp : p.block < w.heap.size) (hn : p.block ∉ S) : w'.frozen? p = w.frozen? p := World.frozen?_of_block (w := w) (h.block p.block hp hn)

/-- How a Go type's cells read as a Lean value, and which blocks the reading meets. -/
structure GT (α : Type) where
  size : Nat
  rd : World → List Value → α → List Nat → Prop
  len : ∀ {w cs x fp}, rd w cs x fp → cs.length = size
  frame : ∀ {w w' cs x fp}, (∀ b ∈ fp, w'.heap[b]? = w.heap[b]?) → rd w cs x fp → rd w' cs x fp
  inb : ∀ {w cs x fp}, rd w cs x fp → ∀ b ∈ fp, b < w.heap.size
  one : ∀ {w cs x fp}, rd w cs x fp → ∀ u ∈ cs, u.oneCell' = true

def I64 (n : Int) : Prop := -9223372036854775808 ≤ n ∧ n ≤ 9223372036854775807

theorem I64_of {n : Int} (h1 : -1125899906842624 ≤ n) (h2 : n ≤ 1125899906842624) : I64 n := ⟨by omega, by omega⟩

def gInt : GT Int where
  size := 1
  rd := fun _ cs n fp => cs = [.int .i64 n] ∧ fp = [] ∧ I64 n
  len := fun h => by simp [h.1]
  frame := fun _ h => h
  inb := fun h => by simp [h.2.1]
  one := fun h => by simp [h.1, Value.oneCell']
def gByte : GT Int where
  size := 1
  rd := fun _ cs n fp => cs = [.int .u8 n] ∧ fp = [] ∧ 0 ≤ n ∧ n ≤ 255
  len := fun h => by simp [h.1]
  frame := fun _ h => h
  inb := fun h => by simp [h.2.1]
  one := fun h => by simp [h.1, Value.oneCell']
def gBool : GT Bool where
  size := 1
  rd := fun _ cs n fp => cs = [.bool n] ∧ fp = []
  len := fun h => by simp [h.1]
  frame := fun _ h => h
  inb := fun h => by simp [h.2]
  one := fun h => by simp [h.1, Value.oneCell']
def gStr : GT ByteArray where
  size := 1
  rd := fun _ cs s fp => cs = [.string s] ∧ fp = [] ∧ s.size ≤ maxLen
  len := fun h => by simp [h.1]
  frame := fun _ h => h
  inb := fun h => by simp [h.2.1]
  one := fun h => by simp [h.1, Value.oneCell']

/-- Elements in a row: element i lies from cell o + i * size on. -/
def RdE {α : Type} (T : GT α) (w : World) (b o : Nat) (xs : List α) (fps : List (List Nat)) : Prop :=
  fps.length = xs.length ∧ ∀ i x fp, xs[i]? = some x → fps[i]? = some fp → ∃ cs, T.rd w cs x fp ∧ ∀ j v, cs[j]? = some v → w.cell? ⟨b, o + i * T.size + j, none⟩ = some v
/-- A slice that reads as a list. -/
def RdS {α : Type} (T : GT α) (w : World) (a : Option Addr) (n : Nat) (xs : List α) (fp : List Nat) : Prop :=
  xs.length = n ∧ ((xs = [] ∧ fp = []) ∨ ∃ b o fps, a = some ⟨b, o, none⟩ ∧ fp = b :: fps.flatten ∧ b < w.heap.size ∧ RdE T w b o xs fps)

theorem RdE.frame {α : Type} {T : GT α} {w w' : World} {b o : Nat} {xs : List α} {fps : List (List Nat)} (hb : w'.heap[b]? = w.heap[b]?) (hf : ∀ k ∈ fps.flatten, w'.heap[k]? = w.heap[k]?) (h : RdE T w b o xs fps) : RdE T w' b o xs fps := by
  refine ⟨h.1, fun i x fp hx hfp => ?_⟩
  obtain ⟨cs, h1, h2⟩ := h.2 i x fp hx hfp
  refine ⟨cs, T.frame (fun k hk => hf k (List.mem_flatten.2 ⟨fp, List.mem_of_getElem? hfp, hk⟩)) h1, fun j v hv => ?_⟩
  rw [World.cell?_of_block (w := w) hb]
  exact h2 j v hv
theorem RdE.inb {α : Type} {T : GT α} {w : World} {b o : Nat} {xs : List α} {fps : List (List Nat)} (h : RdE T w b o xs fps) : ∀ k ∈ fps.flatten, k < w.heap.size := by
  intro k hk
  obtain ⟨fp, hfp, hk⟩ := List.mem_flatten.1 hk
  obtain ⟨i, hi, rfl⟩ := List.mem_iff_getElem.1 hfp
  obtain ⟨cs, h1, _⟩ := h.2 i (xs[i]'(by rw [← h.1]; exact hi)) fps[i] (by simp) (by simp)
  exact T.inb h1 k hk
theorem RdS.frame {α : Type} {T : GT α} {w w' : World} {a : Option Addr} {n : Nat} {xs : List α} {fp : List Nat} (hf : ∀ k ∈ fp, w'.heap[k]? = w.heap[k]?) (h : RdS T w a n xs fp) : RdS T w' a n xs fp := by
  refine ⟨h.1, ?_⟩
  rcases h.2 with h | ⟨b, o, fps, ha, rfl, hb, h⟩
  · exact Or.inl h
  · have e := hf b (by simp)
    refine Or.inr ⟨b, o, fps, ha, rfl, ?_, h.frame e (fun k hk => hf k (by simp [hk]))⟩
    rcases Nat.lt_or_ge b w'.heap.size with h' | h'
    · exact h'
    · rw [Array.getElem?_eq_none h', Array.getElem?_eq_getElem hb] at e; cases e
theorem RdS.inb {α : Type} {T : GT α} {w : World} {a : Option Addr} {n : Nat} {xs : List α} {fp : List Nat} (h : RdS T w a n xs fp) : ∀ k ∈ fp, k < w.heap.size := by
  rcases h.2 with h | ⟨b, o, fps, ha, rfl, hb, h⟩
  · simp [h.2]
  · intro k hk
    rcases List.mem_cons.1 hk with rfl | hk
    · exact hb
    · exact h.inb k hk
/-- Element k of a slice that reads as a list. -/
theorem RdS.at {α : Type} {T : GT α} {w : World} {a : Option Addr} {n : Nat} {xs : List α} {fp : List Nat} (h : RdS T w a n xs fp) {k : Nat} {x : α} (hx : xs[k]? = some x) :
    ∃ b o cs f, a = some ⟨b, o, none⟩ ∧ b < w.heap.size ∧ b ∈ fp ∧ T.rd w cs x f ∧ (∀ q ∈ f, q ∈ fp) ∧ ∀ j v, cs[j]? = some v → w.cell? ⟨b, o + k * T.size + j, none⟩ = some v := by
  have hk : k < xs.length := by
    rcases Nat.lt_or_ge k xs.length with h | h
    · exact h
    · simp [List.getElem?_eq_none h] at hx
  rcases h.2 with ⟨rfl, _⟩ | ⟨b, o, fps, rfl, rfl, hb, he⟩
  · simp at hk
  have hk' : k < fps.length := by rw [he.1]; exact hk
  obtain ⟨cs, h1, h2⟩ := he.2 k x fps[k] hx (by simp)
  exact ⟨b, o, cs, fps[k], rfl, hb, by simp, h1, fun q hq => List.mem_cons_of_mem _ (List.mem_flatten.2 ⟨_, List.getElem_mem hk', hq⟩), h2⟩
theorem RdS.some_of_lt {α : Type} {T : GT α} {w : World} {a : Option Addr} {n : Nat} {xs : List α} {fp : List Nat} (h : RdS T w a n xs fp) {k : Nat} (hk : k < n) : ∃ x, xs[k]? = some x :=
  ⟨xs[k]'(by rw [h.1]; exact hk), by simp⟩
theorem RdS.len {α : Type} {T : GT α} {w : World} {a : Option Addr} {n : Nat} {xs : List α} {fp : List Nat} (h : RdS T w a n xs fp) : xs.length = n := h.1

def gS {α : Type} (T : GT α) : GT (List α) where
  size := 1
  rd := fun w cs xs fp => ∃ a n c, cs = [.slice a n c] ∧ n ≤ c ∧ n ≤ 140737488351232 ∧ RdS T w a n xs fp
  len := fun ⟨_, _, _, h, _⟩ => by simp [h]
  frame := fun hf ⟨a, n, c, h, h1, h2, h3⟩ => ⟨a, n, c, h, h1, h2, h3.frame hf⟩
  inb := fun ⟨a, n, c, h, h1, h2, h3⟩ => h3.inb
  one := fun ⟨a, n, c, h, _⟩ => by simp [h, Value.oneCell']
def gPair {α β : Type} (A : GT α) (B : GT β) : GT (α × β) where
  size := A.size + B.size
  rd := fun w cs x fp => ∃ c1 c2 f1 f2, cs = c1 ++ c2 ∧ fp = f1 ++ f2 ∧ A.rd w c1 x.1 f1 ∧ B.rd w c2 x.2 f2
  len := fun ⟨c1, c2, f1, f2, h, _, h1, h2⟩ => by simp [h, A.len h1, B.len h2]
  frame := fun hf ⟨c1, c2, f1, f2, h, e, h1, h2⟩ => ⟨c1, c2, f1, f2, h, e, A.frame (fun b hb => hf b (by simp [e, hb])) h1, B.frame (fun b hb => hf b (by simp [e, hb])) h2⟩
  inb := fun ⟨c1, c2, f1, f2, h, e, h1, h2⟩ => by
    intro b hb
    rw [e] at hb
    rcases List.mem_append.1 hb with h | h
    · exact A.inb h1 b h
    · exact B.inb h2 b h
  one := fun ⟨c1, c2, f1, f2, h, e, h1, h2⟩ => by
    intro u hu
    rw [h] at hu
    rcases List.mem_append.1 hu with h | h
    · exact A.one h1 u h
    · exact B.one h2 u h
def GT.via {α β : Type} (T : GT β) (f : α → β) : GT α where
  size := T.size
  rd := fun w cs x fp => T.rd w cs (f x) fp
  len := fun h => T.len h
  frame := fun hf h => T.frame hf h
  inb := fun h => T.inb h
  one := fun h => T.one h

/-- Blocks of the call's own: from B on, each met once, none frozen. -/
def Own (B : Nat) (w : World) (fp : List Nat) : Prop := fp.Nodup ∧ ∀ b ∈ fp, B ≤ b ∧ ∃ c t, w.heap[b]? = some (.cells c t (0, 0))
theorem Own.nil (B : Nat) (w : World) : Own B w [] := ⟨by simp, by simp⟩
theorem Own.frame {B : Nat} {w w' : World} {fp : List Nat} (hf : ∀ k ∈ fp, w'.heap[k]? = w.heap[k]?) (h : Own B w fp) : Own B w' fp :=
  ⟨h.1, fun b hb => ⟨(h.2 b hb).1, by rw [hf b hb]; exact (h.2 b hb).2⟩⟩
theorem Own.mono {B B' : Nat} {w : World} {fp : List Nat} (h : Own B w fp) (hB : B' ≤ B) : Own B' w fp := ⟨h.1, fun b hb => ⟨Nat.le_trans hB (h.2 b hb).1, (h.2 b hb).2⟩⟩
theorem Own.lt {B : Nat} {w : World} {fp : List Nat} (h : Own B w fp) : ∀ b ∈ fp, b < w.heap.size := by
  intro b hb
  obtain ⟨_, c, t, e⟩ := h.2 b hb
  rcases Nat.lt_or_ge b w.heap.size with h' | h'
  · exact h'
  · simp [Array.getElem?_eq_none h'] at e

/-- Cells stored one behind the other. -/
def putCells (w : World) (b i : Nat) : List Value → World
  | [] => w
  | v :: vs => putCells (w.setCell ⟨b, i, none⟩ v) b (i + 1) vs
theorem putCells_spec : ∀ (cs : List Value) (w : World) (b i : Nat) (C : Array Value) (t : TypeId), w.heap[b]? = some (.cells C t (0, 0)) → i + cs.length ≤ C.size →
    Mod [b] w (putCells w b i cs) ∧ ∃ C', (putCells w b i cs).heap[b]? = some (.cells C' t (0, 0)) ∧ C'.size = C.size ∧ (∀ j v, cs[j]? = some v → C'[i + j]? = some v) ∧ ∀ q, q < i ∨ i + cs.length ≤ q → C'[q]? = C[q]? := by
  intro cs
  induction cs with
  | nil => intro w b i C t h hs; exact ⟨Mod.refl _ _, C, h, rfl, by simp, fun _ _ => rfl⟩
  | cons v vs ih =>
    intro w b i C t h hs
    simp only [List.length_cons] at hs
    have h1 := heap_setCell_same w b i C t v h
    obtain ⟨hm, C', e1, e2, e3, e4⟩ := ih (w.setCell ⟨b, i, none⟩ v) b (i + 1) _ t h1 (by simp; omega)
    refine ⟨((Mod.refl [b] w).setCell (by simp) v).trans hm (by simp), C', e1, by simpa using e2, fun j u hj => ?_, fun q hq => ?_⟩
    · cases j with
      | zero =>
        simp at hj; subst hj
        rw [Nat.add_zero, e4 i (by omega)]
        rw [Array.getElem?_setIfInBounds]; simp; omega
      | succ j =>
        have := e3 j u (by simpa using hj)
        rw [show i + (j + 1) = i + 1 + j from by omega]; exact this
    · simp only [List.length_cons] at hq
      rw [e4 q (by omega), Array.getElem?_setIfInBounds]
      rw [if_neg (by omega)]
theorem cell_of_block {w : World} {b i : Nat} {C : Array Value} {t : TypeId} {f : Nat × Nat} (h : w.heap[b]? = some (.cells C t f)) : w.cell? ⟨b, i, none⟩ = C[i]? := by simp [World.cell?, h]
theorem free_of_block {w : World} {b i : Nat} {C : Array Value} {t : TypeId} (h : w.heap[b]? = some (.cells C t (0, 0))) : w.frozen? ⟨b, i, none⟩ = false := by simp [World.frozen?, h]
theorem lt_of_heap {w : World} {b : Nat} {o : Obj} (h : w.heap[b]? = some o) : b < w.heap.size := lt_of_block h

theorem RdE.nil {α : Type} (T : GT α) (w : World) (b o : Nat) : RdE T w b o [] [] := ⟨rfl, by simp⟩
theorem RdE.snoc {α : Type} {T : GT α} {w w' : World} {b o : Nat} {xs : List α} {fps : List (List Nat)} {x : α} {fp : List Nat} {cs : List Value} (h : RdE T w b o xs fps)
    (hc : ∀ i, i < xs.length * T.size → w'.cell? ⟨b, o + i, none⟩ = w.cell? ⟨b, o + i, none⟩) (hf : ∀ k ∈ fps.flatten, w'.heap[k]? = w.heap[k]?)
    (hx : T.rd w' cs x fp) (hn : ∀ j v, cs[j]? = some v → w'.cell? ⟨b, o + xs.length * T.size + j, none⟩ = some v) : RdE T w' b o (xs ++ [x]) (fps ++ [fp]) := by
  refine ⟨by simp [h.1], fun i y f hy hfp => ?_⟩
  rcases Nat.lt_trichotomy i xs.length with hi | hi | hi
  · have hy' : xs[i]? = some y := by rwa [List.getElem?_append_left hi] at hy
    have hf' : fps[i]? = some f := by rwa [List.getElem?_append_left (by rw [h.1]; exact hi)] at hfp
    obtain ⟨c, h1, h2⟩ := h.2 i y f hy' hf'
    refine ⟨c, T.frame (fun k hk => hf k (List.mem_flatten.2 ⟨f, List.mem_of_getElem? hf', hk⟩)) h1, fun j v hv => ?_⟩
    have hj : j < T.size := by
      rw [← T.len h1]
      rcases Nat.lt_or_ge j c.length with h | h
      · exact h
      · simp [List.getElem?_eq_none h] at hv
    have := hc (i * T.size + j) (by
      have : (i + 1) * T.size ≤ xs.length * T.size := Nat.mul_le_mul_right _ hi
      rw [Nat.add_mul] at this; omega)
    rw [show o + i * T.size + j = o + (i * T.size + j) from by omega, this, ← Nat.add_assoc]
    exact h2 j v hv
  · subst hi
    simp at hy; subst hy
    rw [List.getElem?_append_right (by rw [h.1]; exact Nat.le_refl _), h.1] at hfp
    simp at hfp; subst hfp
    exact ⟨cs, hx, hn⟩
  · rw [List.getElem?_eq_none (by simp; omega)] at hy
    cases hy

/-- A slice of the call's own that is being filled from the front: block b, of tot cells of type t. -/
structure Bld {α : Type} (T : GT α) (B : Nat) (w : World) (b : Nat) (t : TypeId) (tot : Nat) (xs : List α) (fps : List (List Nat)) : Prop where
  blk : ∃ C, w.heap[b]? = some (.cells C t (0, 0)) ∧ C.size = tot
  rd : RdE T w b 0 xs fps
  own : Own B w (b :: fps.flatten)
theorem Bld.step {α : Type} {T : GT α} {B : Nat} {w w1 : World} {b : Nat} {t : TypeId} {tot : Nat} {xs : List α} {fps : List (List Nat)} {x : α} {cs : List Value} {fp : List Nat}
    (h : Bld T B w b t tot xs fps) (hm : Mod [] w w1) (hx : T.rd w1 cs x fp) (ho : Own w.heap.size w1 fp) (hB : B ≤ w.heap.size) (hs : (xs.length + 1) * T.size ≤ tot) :
    Bld T B (putCells w1 b (xs.length * T.size) cs) b t tot (xs ++ [x]) (fps ++ [fp]) ∧ Mod [b] w (putCells w1 b (xs.length * T.size) cs) := by
  obtain ⟨C, hC, hCs⟩ := h.blk
  have hb := lt_of_heap hC
  have hC1 : w1.heap[b]? = some (.cells C t (0, 0)) := by rw [hm.block b hb (by simp)]; exact hC
  rw [Nat.add_mul, Nat.one_mul] at hs
  have hlen := T.len hx
  obtain ⟨m1, C', e1, e2, e3, e4⟩ := putCells_spec cs w1 b (xs.length * T.size) C t hC1 (by omega)
  have hin := h.own.lt
  have old : ∀ k ∈ fps.flatten, (putCells w1 b (xs.length * T.size) cs).heap[k]? = w.heap[k]? := fun k hk => by
    have hkb : k ≠ b := fun e => by
      have := h.own.1; rw [List.nodup_cons] at this; exact this.1 (e ▸ hk)
    have hkl := hin k (by simp [hk])
    rw [m1.block k (Nat.lt_of_lt_of_le hkl hm.size) (by simpa using hkb), hm.block k hkl (by simp)]
  have new : ∀ k ∈ fp, (putCells w1 b (xs.length * T.size) cs).heap[k]? = w1.heap[k]? := fun k hk => by
    have := (ho.2 k hk).1
    exact m1.block k (ho.lt k hk) (by simp; omega)
  refine ⟨⟨⟨C', e1, by omega⟩, ?_, ?_⟩, (hm.weaken (S' := [b]) (by simp)).trans m1 (fun x hx => Or.inl hx)⟩
  · refine h.rd.snoc (fun i hi => ?_) old (T.frame new hx) (fun j v hv => ?_)
    · rw [cell_of_block e1, cell_of_block hC, Nat.zero_add, e4 i (by omega)]
    · rw [cell_of_block e1, Nat.zero_add]; exact e3 j v hv
  · refine ⟨?_, fun q hq => ?_⟩
    · have h1 := h.own.1
      rw [List.nodup_cons] at h1 ⊢
      refine ⟨?_, ?_⟩
      · simp only [List.flatten_append, List.flatten_singleton, List.mem_append, not_or]
        exact ⟨h1.1, fun hk => by have := (ho.2 b hk).1; omega⟩
      · simp only [List.flatten_append, List.flatten_singleton]
        exact List.nodup_append.2 ⟨h1.2, ho.1, fun a ha c hc e => by
          have := (ho.2 c hc).1
          have := hin a (by simp [ha])
          omega⟩
    · rcases List.mem_cons.1 hq with rfl | hq
      · exact ⟨(h.own.2 q (by simp)).1, C', t, e1⟩
      · simp only [List.flatten_append, List.flatten_singleton, List.mem_append] at hq
        rcases hq with hq | hq
        · rw [old q hq]; exact h.own.2 q (by simp [hq])
        · rw [new q hq]; exact ⟨Nat.le_trans hB (ho.2 q hq).1, (ho.2 q hq).2⟩
theorem Bld.done {α : Type} {T : GT α} {B : Nat} {w : World} {b : Nat} {t : TypeId} {tot n : Nat} {xs : List α} {fps : List (List Nat)} (h : Bld T B w b t tot xs fps) (hn : xs.length = n) :
    RdS T w (some ⟨b, 0, none⟩) n xs (b :: fps.flatten) := by
  obtain ⟨C, hC, _⟩ := h.blk
  exact ⟨hn, Or.inr ⟨b, 0, fps, rfl, rfl, lt_of_heap hC, h.rd⟩⟩

/-- Element k of a slice may be written anew: what must hold of the world behind. -/
theorem RdS.upd {α : Type} {T : GT α} {w : World} {a : Option Addr} {n : Nat} {xs : List α} {fp : List Nat} (h : RdS T w a n xs fp) (hnd : fp.Nodup) {k : Nat} {x : α} (hx : xs[k]? = some x) :
    ∃ b o cs f, a = some ⟨b, o, none⟩ ∧ b < w.heap.size ∧ b ∈ fp ∧ b ∉ f ∧ T.rd w cs x f ∧ (∀ q ∈ f, q ∈ fp) ∧ (∀ j v, cs[j]? = some v → w.cell? ⟨b, o + k * T.size + j, none⟩ = some v) ∧
      ∀ w' cs' x', b < w'.heap.size → T.rd w' cs' x' f → (∀ q ∈ fp, q ∉ f → q ≠ b → w'.heap[q]? = w.heap[q]?) → (∀ j v, cs'[j]? = some v → w'.cell? ⟨b, o + k * T.size + j, none⟩ = some v) →
        (∀ i, i < o + k * T.size ∨ o + k * T.size + T.size ≤ i → w'.cell? ⟨b, i, none⟩ = w.cell? ⟨b, i, none⟩) → RdS T w' a n (xs.set k x') fp := by
  have hk : k < xs.length := by
    rcases Nat.lt_or_ge k xs.length with h | h
    · exact h
    · simp [List.getElem?_eq_none h] at hx
  rcases h.2 with ⟨rfl, _⟩ | ⟨b, o, fps, rfl, rfl, hb, he⟩
  · simp at hk
  have hk' : k < fps.length := by rw [he.1]; exact hk
  obtain ⟨cs, h1, h2⟩ := he.2 k x fps[k] hx (by simp)
  have hbf : b ∉ fps.flatten := (List.nodup_cons.1 hnd).1
  have hin : ∀ q ∈ fps[k], q ∈ fps.flatten := fun q hq => List.mem_flatten.2 ⟨_, List.getElem_mem hk', hq⟩
  refine ⟨b, o, cs, fps[k], rfl, hb, by simp, fun hm => hbf (hin b hm), h1, fun q hq => List.mem_cons_of_mem _ (hin q hq), h2, fun w' cs' x' hb' hrd hfr hnew hold => ⟨by simp [h.1], Or.inr ⟨b, o, fps, rfl, rfl, hb', by simp [he.1], fun i y f hy hf => ?_⟩⟩⟩
  by_cases hi : i = k
  · subst hi
    rw [List.getElem?_set_self hk] at hy
    simp at hy; subst hy
    have : f = fps[i] := by simpa [hk'] using hf.symm
    subst this
    exact ⟨cs', hrd, hnew⟩
  · rw [List.getElem?_set_ne (Ne.symm hi)] at hy
    obtain ⟨c, g1, g2⟩ := he.2 i y f hy hf
    have hfi : f ∈ fps := List.mem_of_getElem? hf
    refine ⟨c, T.frame (fun q hq => hfr q (List.mem_cons_of_mem _ (List.mem_flatten.2 ⟨f, hfi, hq⟩)) (fun hqk => ?_) (fun e => hbf (e ▸ List.mem_flatten.2 ⟨f, hfi, hq⟩))) g1, fun j v hv => ?_⟩
    · -- two parts of one Nodup flatten do not meet
      have hp := List.pairwise_flatten.1 (List.nodup_cons.1 hnd).2 |>.2
      have hil : i < fps.length := by
        rcases Nat.lt_or_ge i fps.length with h | h
        · exact h
        · simp [List.getElem?_eq_none h] at hf
      have hfe : fps[i] = f := by simpa [hil] using hf
      rcases Nat.lt_or_gt_of_ne hi with hlt | hlt
      · exact (List.pairwise_iff_getElem.1 hp i k hil hk' hlt) q (hfe ▸ hq) q hqk rfl
      · exact (List.pairwise_iff_getElem.1 hp k i hk' hil hlt) q hqk q (hfe ▸ hq) rfl
    · have hj : j < T.size := by
        rw [← T.len g1]
        rcases Nat.lt_or_ge j c.length with h | h
        · exact h
        · simp [List.getElem?_eq_none h] at hv
      rw [hold (o + i * T.size + j) ?_]
      · exact g2 j v hv
      · rcases Nat.lt_or_gt_of_ne hi with hlt | hlt
        · have : (i + 1) * T.size ≤ k * T.size := Nat.mul_le_mul_right _ hlt
          rw [Nat.add_mul] at this; omega
        · have : (k + 1) * T.size ≤ i * T.size := Nat.mul_le_mul_right _ hlt
          rw [Nat.add_mul] at this; omega

/-! Marks: a pass that writes running numbers. -/
def mkL {α : Type} (mk : Int → α → α × Int) : Int → List α → List α × Int
  | k, [] => ([], k)
  | k, x :: xs => ((mk k x).1 :: (mkL mk (mk k x).2 xs).1, (mkL mk (mk k x).2 xs).2)
theorem mkL_length {α : Type} (mk : Int → α → α × Int) : ∀ (xs : List α) (k : Int), (mkL mk k xs).1.length = xs.length
  | [], _ => rfl
  | x :: xs, k => by simp [mkL, mkL_length mk xs]
theorem mkL_snoc {α : Type} (mk : Int → α → α × Int) (x : α) : ∀ (xs : List α) (k : Int), mkL mk k (xs ++ [x]) = ((mkL mk k xs).1 ++ [(mk (mkL mk k xs).2 x).1], (mk (mkL mk k xs).2 x).2)
  | [], _ => rfl
  | y :: xs, k => by simp [mkL, mkL_snoc mk x xs]
def mkAt {α : Type} (mk : Int → α → α × Int) (k : Int) (xs : List α) (i : Nat) : List α × Int := ((mkL mk k (xs.take i)).1 ++ xs.drop i, (mkL mk k (xs.take i)).2)
theorem mkAt_zero {α : Type} (mk : Int → α → α × Int) (k : Int) (xs : List α) : mkAt mk k xs 0 = (xs, k) := by simp [mkAt, mkL]
theorem mkAt_all {α : Type} (mk : Int → α → α × Int) (k : Int) (xs : List α) (i : Nat) (h : xs.length = i) : mkAt mk k xs i = mkL mk k xs := by
  subst h; simp [mkAt]
theorem take_snoc_of {α : Type} {xs : List α} {i : Nat} {x : α} (hx : xs[i]? = some x) : xs.take (i + 1) = xs.take i ++ [x] := by
  rw [List.take_add_one, hx]; rfl
theorem lt_of_get {α : Type} {xs : List α} {i : Nat} {x : α} (hx : xs[i]? = some x) : i < xs.length := by
  rcases Nat.lt_or_ge i xs.length with h | h
  · exact h
  · simp [List.getElem?_eq_none h] at hx
theorem mkAt_get {α : Type} (mk : Int → α → α × Int) (k : Int) {xs : List α} {i : Nat} {x : α} (hx : xs[i]? = some x) : (mkAt mk k xs i).1[i]? = some x := by
  have hi := lt_of_get hx
  have hl : (mkL mk k (xs.take i)).1.length = i := by rw [mkL_length]; simp; omega
  show ((mkL mk k (xs.take i)).1 ++ xs.drop i)[i]? = _
  rw [List.getElem?_append_right (by omega), hl, Nat.sub_self, List.getElem?_drop]
  simpa using hx
theorem mkAt_succ {α : Type} (mk : Int → α → α × Int) (k : Int) {xs : List α} {i : Nat} {x : α} (hx : xs[i]? = some x) :
    mkAt mk k xs (i + 1) = ((mkAt mk k xs i).1.set i (mk (mkAt mk k xs i).2 x).1, (mk (mkAt mk k xs i).2 x).2) := by
  have hi := lt_of_get hx
  have hl : (mkL mk k (xs.take i)).1.length = i := by rw [mkL_length]; simp; omega
  have hd : xs.drop i = x :: xs.drop (i + 1) := by
    rw [List.drop_eq_getElem_cons hi]
    congr 1
    simpa [hi] using hx
  unfold mkAt
  rw [take_snoc_of hx, mkL_snoc]
  refine Prod.ext ?_ rfl
  show (mkL mk k (xs.take i)).1 ++ [(mk (mkL mk k (xs.take i)).2 x).1] ++ xs.drop (i + 1) = ((mkL mk k (xs.take i)).1 ++ xs.drop i).set i _
  rw [hd, List.set_append_right _ _ (by omega), hl, Nat.sub_self]
  simp
theorem mkL_get {α : Type} (mk : Int → α → α × Int) {x : α} : ∀ (xs : List α) (k : Int) (i : Nat), xs[i]? = some x → (mkL mk k xs).1[i]? = some (mk (mkAt mk k xs i).2 x).1
  | [], _, i, h => by simp at h
  | y :: xs, k, 0, h => by simp at h; subst h; simp [mkL, mkAt]
  | y :: xs, k, i + 1, h => by
    have := mkL_get mk xs (mk k y).2 i (by simpa using h)
    simpa [mkL, mkAt] using this
def cntL {α : Type} (c : α → Nat) (xs : List α) : Nat := (xs.map c).sum
theorem mkL_cnt {α : Type} {mk : Int → α → α × Int} {c : α → Nat} (h : ∀ k x, (mk k x).2 = k + c x) : ∀ (xs : List α) (k : Int), (mkL mk k xs).2 = k + cntL c xs
  | [], k => by simp [mkL, cntL]
  | x :: xs, k => by simp [mkL, cntL, mkL_cnt h xs, h]; omega
theorem cntL_take_le {α : Type} (c : α → Nat) : ∀ (xs : List α) (i : Nat), cntL c (xs.take i) ≤ cntL c xs
  | [], i => by simp [cntL]
  | x :: xs, 0 => by simp [cntL]
  | x :: xs, i + 1 => by have := cntL_take_le c xs i; simp [cntL] at this ⊢; omega
theorem mkAt_cnt {α : Type} {mk : Int → α → α × Int} {c : α → Nat} (h : ∀ k x, (mk k x).2 = k + c x) (xs : List α) (k : Int) (i : Nat) : (mkAt mk k xs i).2 = k + cntL c (xs.take i) := mkL_cnt h _ _
theorem cntL_take_succ {α : Type} (c : α → Nat) {xs : List α} {i : Nat} {x : α} (hx : xs[i]? = some x) : cntL c (xs.take (i + 1)) = cntL c (xs.take i) + c x := by
  rw [take_snoc_of hx]; simp [cntL]

/-- An element whose reading meets no block is written anew, whole. -/
theorem RdS.put {α : Type} {T : GT α} {w : World} {n : Nat} {xs : List α} {fp : List Nat} {b o k : Nat} {x x' : α} {cs' : List Value} (h : RdS T w (some ⟨b, o, none⟩) n xs fp) (ho : Own 0 w fp)
    (hx : xs[k]? = some x) (hflat : ∀ w cs x f, T.rd w cs x f → f = []) (hs : 0 < T.size) (hrd : ∀ w', T.rd w' cs' x' []) :
    RdS T (putCells w b (o + k * T.size) cs') (some ⟨b, o, none⟩) n (xs.set k x') fp ∧ Own 0 (putCells w b (o + k * T.size) cs') fp ∧ Mod fp w (putCells w b (o + k * T.size) cs') := by
  obtain ⟨b', o', cs, f, ha, hb, hbf, hnf, hr, _, hc, hu⟩ := h.upd ho.1 hx
  simp at ha
  obtain ⟨rfl, rfl⟩ := ha
  obtain rfl := hflat _ _ _ _ hr
  obtain ⟨_, C, t, hC⟩ := ho.2 b hbf
  have hl := T.len hr
  have hl' := T.len (hrd w)
  have hin : o + k * T.size + cs'.length ≤ C.size := by
    have hlt : T.size - 1 < cs.length := by omega
    have := hc (T.size - 1) cs[T.size - 1] (by simp)
    rw [cell_of_block hC] at this
    have := lt_of_get (xs := C.toList) (i := o + k * T.size + (T.size - 1)) (x := cs[T.size - 1]) (by simpa using this)
    simp at this
    omega
  obtain ⟨m, C', e1, e2, e3, e4⟩ := putCells_spec cs' w b (o + k * T.size) C t hC hin
  have old : ∀ q ∈ fp, q ≠ b → (putCells w b (o + k * T.size) cs').heap[q]? = w.heap[q]? := fun q hq hqb => m.block q (ho.lt q hq) (by simpa using hqb)
  refine ⟨hu _ cs' x' (lt_of_heap e1) (hrd _) (fun q hq _ hqb => old q hq hqb) (fun j v hv => ?_) (fun i hi => ?_), ⟨ho.1, fun q hq => ⟨Nat.zero_le _, ?_⟩⟩, m.weaken (by simp [hbf])⟩
  · rw [cell_of_block e1]; exact e3 j v hv
  · rw [cell_of_block e1, cell_of_block hC]; exact e4 i (by omega)
  · by_cases hqb : q = b
    · subst hqb; exact ⟨C', t, e1⟩
    · rw [old q hq hqb]; exact (ho.2 q hq).2

/-- 'make([]T, n)': a row of the call's own, of whatever zero cells. -/
theorem make_any {P : Program} (t e : TypeId) (i : TypeInfo) (z : Value) (ht : P.underlying t = some (.slice e)) (hi : P.info? e = some i) (hz : i.zero = some z) (n : Nat)
    (hb : i.bytes * n ≤ 281474976710656) (hn : n ≤ 140737488351232) : ∃ M : Array Value, M.size = n * i.size ∧
      ∀ w : World, (Instr.makeSlice t (.int .i64 n) (.int .i64 n)).run P w = .ok (.slice (some ⟨w.heap.size, 0, none⟩) n n) (w.alloc (.cells M e)) := by
  refine ⟨madeCells z.cells (n * i.size), size_madeCells _ _, fun w => ?_⟩
  have := run_make (P := P) w t e i z ht hi hz .i64 .i64 n n (by omega) (Int.le_refl _) (by rw [← Int.natCast_mul]; omega) (by omega)
  simpa using this

theorem Bld.cell {α : Type} {T : GT α} {B : Nat} {w w1 : World} {b : Nat} {t : TypeId} {tot : Nat} {xs : List α} {fps : List (List Nat)} (h : Bld T B w b t tot xs fps) (hm : Mod [] w w1) {i : Nat} (hi : i < tot) :
    (∃ u, w1.cell? ⟨b, i, none⟩ = some u) ∧ w1.frozen? ⟨b, i, none⟩ = false := by
  obtain ⟨C, hC, hCs⟩ := h.blk
  have hC1 : w1.heap[b]? = some (.cells C t (0, 0)) := by rw [hm.block b (lt_of_heap hC) (by simp)]; exact hC
  exact ⟨⟨C[i], by rw [cell_of_block hC1]; simp⟩, free_of_block hC1⟩

theorem mcell {S : List Nat} {w w1 : World} (h : Mod S w w1) : (∀ b o, b < w.heap.size → b ∉ S → w1.cell? ⟨b, o, none⟩ = w.cell? ⟨b, o, none⟩) ∧ (∀ b o, b < w.heap.size → b ∉ S → w1.frozen? ⟨b, o, none⟩ = w.frozen? ⟨b, o, none⟩) :=
  ⟨fun b o h1 h2 => h.cell (p := ⟨b, o, none⟩) h1 h2, fun b o h1 h2 => h.frozen (p := ⟨b, o, none⟩) h1 h2⟩
theorem mcell0 {w w1 : World} (h : Mod [] w w1) : (∀ b o, b < w.heap.size → w1.cell? ⟨b, o, none⟩ = w.cell? ⟨b, o, none⟩) ∧ (∀ b o, b < w.heap.size → w1.frozen? ⟨b, o, none⟩ = w.frozen? ⟨b, o, none⟩) :=
  ⟨fun b o h1 => h.cell (p := ⟨b, o, none⟩) h1 (by simp), fun b o h1 => h.frozen (p := ⟨b, o, none⟩) h1 (by simp)⟩
theorem RdS.mod {α : Type} {T : GT α} {S : List Nat} {w w' : World} {a : Option Addr} {n : Nat} {xs : List α} {fp : List Nat} (h : RdS T w a n xs fp) (hm : Mod S w w') (hS : ∀ q ∈ fp, q ∉ S) : RdS T w' a n xs fp :=
  h.frame fun k hk => hm.block k (h.inb k hk) (hS k hk)
theorem RdS.mod0 {α : Type} {T : GT α} {w w' : World} {a : Option Addr} {n : Nat} {xs : List α} {fp : List Nat} (h : RdS T w a n xs fp) (hm : Mod [] w w') : RdS T w' a n xs fp := h.mod hm (by simp)
theorem Own.mod {B : Nat} {S : List Nat} {w w' : World} {fp : List Nat} (h : Own B w fp) (hm : Mod S w w') (hS : ∀ q ∈ fp, q ∉ S) : Own B w' fp :=
  h.frame fun k hk => hm.block k (h.lt k hk) (hS k hk)
theorem Own.app {B : Nat} {w : World} {f g : List Nat} (h1 : Own B w f) (h2 : Own B w g) (hd : ∀ q ∈ f, q ∉ g) : Own B w (f ++ g) :=
  ⟨List.nodup_append.2 ⟨h1.1, h2.1, fun a ha b hb e => hd a ha (e ▸ hb)⟩, fun b hb => by
    rcases List.mem_append.1 hb with h | h
    · exact h1.2 b h
    · exact h2.2 b h⟩
theorem Own.left {B : Nat} {w : World} {f g : List Nat} (h : Own B w (f ++ g)) : Own B w f := ⟨(List.nodup_append.1 h.1).1, fun b hb => h.2 b (by simp [hb])⟩
theorem Own.right {B : Nat} {w : World} {f g : List Nat} (h : Own B w (f ++ g)) : Own B w g := ⟨(List.nodup_append.1 h.1).2.1, fun b hb => h.2 b (by simp [hb])⟩
theorem Own.apart {B : Nat} {w : World} {f g : List Nat} (h : Own B w (f ++ g)) : ∀ q ∈ f, q ∉ g := fun q hq hg => (List.nodup_append.1 h.1).2.2 q hq q hg rfl

theorem mod_drewN (w : World) : ∀ n : Nat, Mod [] w (w.drewN n) := fun _ => ⟨rfl, rfl, rfl, Nat.le_refl _, fun _ _ _ => rfl⟩

/-! Rows as one list of cells. -/
theorem flatten_get {α : Type} {s : Nat} (hs : 0 < s) : ∀ (Ls : List (List α)) (j : Nat), (∀ l ∈ Ls, l.length = s) → Ls.flatten[j]? = (Ls[j / s]?).bind (·[j % s]?)
  | [], j, _ => by simp
  | l :: Ls, j, h => by
    have hl : l.length = s := h l (by simp)
    rw [List.flatten_cons]
    by_cases hj : j < s
    · rw [List.getElem?_append_left (by omega), Nat.div_eq_of_lt hj, Nat.mod_eq_of_lt hj]; simp
    · rw [List.getElem?_append_right (by omega), hl, flatten_get hs Ls (j - s) (fun l hl => h l (by simp [hl]))]
      have e1 : j / s = (j - s) / s + 1 := by rw [Nat.div_eq_sub_div hs (by omega)]
      have e2 : (j - s) % s = j % s := (Nat.mod_eq_sub_mod (by omega)).symm
      rw [e1, e2]; simp
theorem flatten_len {α : Type} {s : Nat} : ∀ (Ls : List (List α)), (∀ l ∈ Ls, l.length = s) → Ls.flatten.length = Ls.length * s
  | [], _ => by simp
  | l :: Ls, h => by
    have := flatten_len Ls (fun l hl => h l (by simp [hl]))
    have hl := h l (by simp)
    simp [Nat.add_mul]; rw [← hl] at this ⊢; simp at this; omega
/-- Element i of Ls reads as element i of xs. -/
def RdL {α : Type} (T : GT α) (w : World) (Ls : List (List Value)) (xs : List α) (fps : List (List Nat)) : Prop :=
  Ls.length = xs.length ∧ fps.length = xs.length ∧ ∀ (i : Nat) (cs : List Value) (x : α) (fp : List Nat), Ls[i]? = some cs → xs[i]? = some x → fps[i]? = some fp → T.rd w cs x fp
theorem RdL.lens {α : Type} {T : GT α} {w : World} {Ls : List (List Value)} {xs : List α} {fps : List (List Nat)} (h : RdL T w Ls xs fps) : ∀ l ∈ Ls, l.length = T.size := by
  intro l hl
  obtain ⟨i, hi, rfl⟩ := List.mem_iff_getElem.1 hl
  have h1 := h.1
  have h2 := h.2.1
  exact T.len (h.2.2 i _ (xs[i]'(by omega)) (fps[i]'(by omega)) (by simp) (by simp) (by simp))
theorem RdL.one {α : Type} {T : GT α} {w : World} {Ls : List (List Value)} {xs : List α} {fps : List (List Nat)} (h : RdL T w Ls xs fps) : ∀ u ∈ Ls.flatten, u.oneCell' = true := by
  intro u hu
  obtain ⟨l, hl, hu⟩ := List.mem_flatten.1 hu
  obtain ⟨i, hi, rfl⟩ := List.mem_iff_getElem.1 hl
  have h1 := h.1
  have h2 := h.2.1
  exact T.one (h.2.2 i _ (xs[i]'(by omega)) (fps[i]'(by omega)) (by simp) (by simp) (by simp)) u hu
theorem RdL.frame {α : Type} {T : GT α} {w w' : World} {Ls : List (List Value)} {xs : List α} {fps : List (List Nat)} (h : RdL T w Ls xs fps) (hf : ∀ k ∈ fps.flatten, w'.heap[k]? = w.heap[k]?) : RdL T w' Ls xs fps :=
  ⟨h.1, h.2.1, fun i cs x fp a b c => T.frame (fun k hk => hf k (List.mem_flatten.2 ⟨fp, List.mem_of_getElem? c, hk⟩)) (h.2.2 i cs x fp a b c)⟩
theorem RdL.inb {α : Type} {T : GT α} {w : World} {Ls : List (List Value)} {xs : List α} {fps : List (List Nat)} (h : RdL T w Ls xs fps) : ∀ k ∈ fps.flatten, k < w.heap.size := by
  intro k hk
  obtain ⟨f, hf, hk⟩ := List.mem_flatten.1 hk
  obtain ⟨i, hi, rfl⟩ := List.mem_iff_getElem.1 hf
  have h1 := h.1
  have h2 := h.2.1
  exact T.inb (h.2.2 i (Ls[i]'(by omega)) (xs[i]'(by omega)) _ (by simp) (by simp) (by simp)) k hk
theorem RdL.snoc {α : Type} {T : GT α} {w : World} {Ls : List (List Value)} {xs : List α} {fps : List (List Nat)} {cs : List Value} {x : α} {fp : List Nat} (h : RdL T w Ls xs fps) (hx : T.rd w cs x fp) : RdL T w (Ls ++ [cs]) (xs ++ [x]) (fps ++ [fp]) := by
  refine ⟨by simp [h.1], by simp [h.2.1], fun i c y f hc hy hf => ?_⟩
  rcases Nat.lt_trichotomy i xs.length with hi | hi | hi
  · exact h.2.2 i c y f (by rwa [List.getElem?_append_left (by rw [h.1]; exact hi)] at hc) (by rwa [List.getElem?_append_left hi] at hy) (by rwa [List.getElem?_append_left (by rw [h.2.1]; exact hi)] at hf)
  · subst hi
    rw [List.getElem?_append_right (by rw [h.1]; exact Nat.le_refl _), h.1] at hc
    rw [List.getElem?_append_right (Nat.le_refl _)] at hy
    rw [List.getElem?_append_right (by rw [h.2.1]; exact Nat.le_refl _), h.2.1] at hf
    simp at hc hy hf; subst hc hy hf; exact hx
  · rw [List.getElem?_eq_none (by simp; omega)] at hy; cases hy
theorem choose_list {β : Type} (P : Nat → β → Prop) : ∀ n : Nat, (∀ i, i < n → ∃ y, P i y) → ∃ L : List β, L.length = n ∧ ∀ (i : Nat) (y : β), L[i]? = some y → P i y
  | 0, _ => ⟨[], rfl, by simp⟩
  | n + 1, h => by
    obtain ⟨L, hl, hL⟩ := choose_list P n (fun i hi => h i (by omega))
    obtain ⟨y, hy⟩ := h n (by omega)
    refine ⟨L ++ [y], by simp [hl], fun i z hz => ?_⟩
    rcases Nat.lt_trichotomy i n with hi | hi | hi
    · exact hL i z (by rwa [List.getElem?_append_left (by omega)] at hz)
    · subst hi
      rw [List.getElem?_append_right (by omega), hl] at hz
      simp at hz; subst hz; exact hy
    · rw [List.getElem?_eq_none (by simp; omega)] at hz; cases hz
theorem RdE.cells {α : Type} {T : GT α} {w : World} {b o : Nat} {xs : List α} {fps : List (List Nat)} (h : RdE T w b o xs fps) (hs : 0 < T.size) :
    ∃ Ls, RdL T w Ls xs fps ∧ ∀ j u, Ls.flatten[j]? = some u → w.cell? ⟨b, o + j, none⟩ = some u := by
  obtain ⟨Ls, hn, hL⟩ := choose_list (fun i cs => ∃ x fp, xs[i]? = some x ∧ fps[i]? = some fp ∧ T.rd w cs x fp ∧ ∀ j v, cs[j]? = some v → w.cell? ⟨b, o + i * T.size + j, none⟩ = some v) xs.length (fun i hi => by
    obtain ⟨cs, h1, h2⟩ := h.2 i xs[i] (fps[i]'(by rw [h.1]; exact hi)) (by simp) (by simp)
    exact ⟨cs, _, _, by simp, by simp, h1, h2⟩)
  have hRL : RdL T w Ls xs fps := by
    refine ⟨hn, h.1, fun i cs x fp hc hx hf => ?_⟩
    obtain ⟨x', fp', e1, e2, e3, _⟩ := hL i cs hc
    rw [e1] at hx; rw [e2] at hf
    simp at hx hf; subst hx hf; exact e3
  refine ⟨Ls, hRL, fun j u hu => ?_⟩
  rw [flatten_get hs _ _ hRL.lens] at hu
  cases hd : Ls[j / T.size]? with
  | none => rw [hd] at hu; cases hu
  | some cs =>
    rw [hd] at hu
    obtain ⟨_, _, _, _, _, e4⟩ := hL _ cs hd
    have := e4 _ u hu
    rw [Nat.add_assoc, Nat.mul_comm, Nat.div_add_mod] at this
    exact this
theorem RdL.toE {α : Type} {T : GT α} {w : World} {Ls : List (List Value)} {xs : List α} {fps : List (List Nat)} {b o : Nat} (h : RdL T w Ls xs fps) (hs : 0 < T.size) (hc : ∀ j u, Ls.flatten[j]? = some u → w.cell? ⟨b, o + j, none⟩ = some u) : RdE T w b o xs fps := by
  refine ⟨h.2.1, fun i x fp hx hf => ?_⟩
  have hi := lt_of_get hx
  have h1 := h.1
  refine ⟨Ls[i]'(by omega), h.2.2 i _ x fp (by simp) hx hf, fun j v hv => ?_⟩
  rw [Nat.add_assoc]
  refine hc _ _ ?_
  have hj : j < T.size := by rw [← h.lens _ (List.getElem_mem (by omega : i < Ls.length))]; exact lt_of_get hv
  rw [flatten_get hs _ _ h.lens, Nat.mul_comm, Nat.mul_add_div hs, Nat.div_eq_of_lt hj, Nat.add_zero, Nat.mul_add_mod, Nat.mod_eq_of_lt hj]
  simpa [show i < Ls.length by omega] using hv
/-- A slice of the call's own that grows by append. -/
def Gr {α : Type} (T : GT α) (E : TypeId) (B : Nat) (w : World) (v : Value) (xs : List α) (fps : List (List Nat)) : Prop :=
  ∃ Ls, RdL T w Ls xs fps ∧ w.ownsRow B E T.size v xs.length Ls.flatten ∧ ∀ g, v.ownBlock = some g → g ∉ fps.flatten
theorem Gr.nil {α : Type} (T : GT α) (E : TypeId) (B : Nat) (w : World) : Gr T E B w (.slice none 0 0) [] [] :=
  ⟨[], ⟨rfl, rfl, by simp⟩, World.ownsRow_nil _ _ _ _, by simp⟩
theorem Gr.done {α : Type} {T : GT α} {E : TypeId} {B : Nat} {w : World} {v : Value} {xs : List α} {fps : List (List Nat)} (hs : 0 < T.size) (h : Gr T E B w v xs fps) (hf : Own B w fps.flatten) :
    ∃ a c fp, v = .slice a xs.length c ∧ xs.length ≤ c ∧ c ≤ maxLen ∧ RdS T w a xs.length xs fp ∧ Own B w fp ∧ (∀ q ∈ fp, q ∈ fps.flatten ∨ v.ownBlock = some q) := by
  obtain ⟨Ls, hL, ho, hg⟩ := h
  rcases ho.2 with ⟨rfl, hn⟩ | ⟨g, cap, cur, rfl, hB, hh, hnc, hcm, hcs, ht⟩
  · have : xs = [] := List.eq_nil_of_length_eq_zero hn
    subst this
    exact ⟨none, 0, [], rfl, Nat.le_refl _, by simp [maxLen], ⟨rfl, Or.inl ⟨rfl, rfl⟩⟩, Own.nil _ _, by simp⟩
  · refine ⟨some ⟨g, 0, none⟩, cap, g :: fps.flatten, rfl, hnc, hcm, ⟨rfl, Or.inr ⟨g, 0, fps, rfl, rfl, lt_of_heap hh, hL.toE hs (fun j u hu => ?_)⟩⟩, ⟨List.nodup_cons.2 ⟨hg g rfl, hf.1⟩, fun b hb => ?_⟩, fun q hq => ?_⟩
    · rw [Nat.zero_add, cell_of_block hh]
      rw [← ht] at hu
      have := lt_of_get hu
      rw [List.getElem?_take] at hu
      split at hu
      · simpa using hu
      · cases hu
    · rcases List.mem_cons.1 hb with rfl | hb
      · exact ⟨hB, cur, E, hh⟩
      · exact hf.2 b hb
    · rcases List.mem_cons.1 hq with rfl | hq
      · exact Or.inr rfl
      · exact Or.inl hq
theorem RdS.cells {α : Type} {T : GT α} {w : World} {ad : Addr} {n : Nat} {xs : List α} {fp : List Nat} (hs : 0 < T.size) (h : RdS T w (some ad) n xs fp) :
    ∃ Ls fps, RdL T w Ls xs fps ∧ (∀ j u, Ls.flatten[j]? = some u → w.cell? (ad.add j) = some u) ∧ (∀ q ∈ fps.flatten, q ∈ fp) ∧ Ls.flatten.length = n * T.size := by
  rcases h.2 with ⟨rfl, rfl⟩ | ⟨b, o, fps, ha, rfl, hb, he⟩
  · have := h.1
    simp at this; subst this
    exact ⟨[], [], ⟨rfl, rfl, by simp⟩, by simp, by simp, by simp⟩
  · simp at ha; subst ha
    obtain ⟨Ls, h1, h2⟩ := he.cells hs
    refine ⟨Ls, fps, h1, fun j u hu => ?_, fun q hq => by simp [hq], by rw [flatten_len Ls h1.lens, h1.1, h.1]⟩
    have := h2 j u hu
    simpa [Addr.add_lit] using this

theorem Mod.grown {S : List Nat} {a w w' : World} {row : Option Nat} (h : Mod S a w) (hg : w.grownBy w' row) (hr : ∀ k, row = some k → k ∈ S ∨ a.heap.size ≤ k) : Mod S a w' :=
  h.trans (S' := row.toList) ⟨hg.os, hg.tape, hg.output, hg.size, fun k hk hn => hg.block k hk (fun e => hn (by rw [← e]; simp))⟩ (fun x hx => hr x (by cases row <;> simp at hx; subst hx; rfl))
theorem RdL.flat {α : Type} {T : GT α} {w : World} {Ls : List (List Value)} {xs : List α} {fps : List (List Nat)} (hflat : ∀ w cs x f, T.rd w cs x f → f = []) (h : RdL T w Ls xs fps) : fps.flatten = [] := by
  rw [List.flatten_eq_nil_iff]
  intro f hf
  obtain ⟨i, hi, rfl⟩ := List.mem_iff_getElem.1 hf
  have h1 := h.1
  have h2 := h.2.1
  exact hflat _ _ _ _ (h.2.2 i (Ls[i]'(by omega)) (xs[i]'(by omega)) _ (by simp) (by simp) (by simp))
/-- What an append onto a slice of the call's own leaves, the elements flat. -/
theorem own_flat {α : Type} {T : GT α} {E : TypeId} {B : Nat} {w w1 : World} {v : Value} {Ls : List (List Value)} {xs : List α} {fps : List (List Nat)} (hs : 0 < T.size) (hflat : ∀ w cs x f, T.rd w cs x f → f = [])
    (hL : RdL T w Ls xs fps) (ho : w1.ownsRow B E T.size v xs.length Ls.flatten) :
    ∃ a c fp, v = .slice a xs.length c ∧ xs.length ≤ c ∧ RdS T w1 a xs.length xs fp ∧ Own B w1 fp ∧ (∀ q ∈ fp, v.ownBlock = some q) := by
  have e := hL.flat hflat
  have h : Gr T E B w1 v xs fps := ⟨Ls, hL.frame (by simp [e]), ho, by simp [e]⟩
  obtain ⟨a, c, fp, h1, h2, _, h3, h4, h5⟩ := h.done hs (by rw [e]; exact Own.nil _ _)
  exact ⟨a, c, fp, h1, h2, h3, h4, fun q hq => by have := h5 q hq; simpa [e] using this⟩

/-! Predicates handed on as function values. -/
def idxOf {α : Type} (p : α → Bool) (xs : List α) : Int := if xs.any p then (xs.findIdx p : Int) else -1
theorem any_take_succ {α : Type} (p : α → Bool) {xs : List α} {k : Nat} {x : α} (hx : xs[k]? = some x) : (xs.take (k + 1)).any p = ((xs.take k).any p || p x) := by
  rw [take_snoc_of hx]; simp
theorem idxOf_hit {α : Type} (p : α → Bool) {xs : List α} {k : Nat} {x : α} (hx : xs[k]? = some x) (h0 : (xs.take k).any p = false) (h1 : p x = true) : idxOf p xs = k := by
  have hk := lt_of_get hx
  have ha : xs.any p = true := List.any_eq_true.2 ⟨x, List.mem_of_getElem? hx, h1⟩
  have e : xs[k] = x := by simpa [hk] using hx
  unfold idxOf
  rw [if_pos ha]
  congr 1
  rw [List.findIdx_eq hk]
  refine ⟨by rw [e]; exact h1, fun j hj => ?_⟩
  rw [List.any_eq_false] at h0
  have := h0 xs[j] (List.mem_take_iff_getElem.2 ⟨j, by omega, rfl⟩)
  simpa using this
theorem idxOf_miss {α : Type} (p : α → Bool) {xs : List α} (h : xs.any p = false) : idxOf p xs = -1 := by simp [idxOf, h]
theorem idxOf_nonneg {α : Type} (p : α → Bool) (xs : List α) : decide (0 ≤ idxOf p xs) = xs.any p := by
  unfold idxOf
  cases xs.any p <;> simp <;> omega
/-- Called at any element, in whatever later world, it hands back p and writes nothing that was there. -/
def PredT (P : Program) {α : Type} (T : GT α) (val : List Value → Value) (g : Nat) (lb : Array Value) (p : α → Bool) (xs : List α) (w : World) : Prop :=
  ∀ (W : World) (cs : List Value) (x : α) (fp : List Nat), x ∈ xs → Mod [] w W → T.rd W cs x fp → Calls P g (#[val cs] ++ lb) W fun e w' => e = .returned (.bool (p x)) ∧ Mod [] W w'
theorem PredT.later {P : Program} {α : Type} {T : GT α} {val : List Value → Value} {g : Nat} {lb : Array Value} {p : α → Bool} {xs : List α} {w w1 : World} (h : PredT P T val g lb p xs w) (hm : Mod [] w w1) : PredT P T val g lb p xs w1 :=
  fun W cs x fp hx hW hr => h W cs x fp hx (hm.trans hW (by simp)) hr

/-! Blocks of the call's own, whole. -/
theorem heap_alloc_get (w : World) (o : Obj) (k : Nat) : (w.alloc o).heap[k]? = if k = w.heap.size then some o else w.heap[k]? := by
  show (w.heap.push o)[k]? = _
  rw [Array.getElem?_push]
theorem Mod.blk {S : List Nat} {w w1 : World} (hm : Mod S w w1) {b : Nat} {C : Array Value} {t : TypeId} (h : w.heap[b]? = some (.cells C t (0, 0))) (hb : b ∉ S) : w1.heap[b]? = some (.cells C t (0, 0)) := by
  rw [hm.block b (lt_of_heap h) hb]; exact h
theorem blk_cell {w : World} {b : Nat} {C : Array Value} {t : TypeId} (h : w.heap[b]? = some (.cells C t (0, 0))) : ∀ o, w.cell? ⟨b, o, none⟩ = C[o]? := fun _ => cell_of_block h
theorem blk_free {w : World} {b : Nat} {C : Array Value} {t : TypeId} (h : w.heap[b]? = some (.cells C t (0, 0))) : ∀ o, w.frozen? ⟨b, o, none⟩ = false := fun _ => free_of_block h

theorem heap1_0 (w : World) (A : Obj) : (w.alloc A).heap[w.heap.size]? = some A := heap_alloc_new w A
theorem heap_allocs : ∀ (l : List Obj) (w : World), (l.foldl World.alloc w).heap.toList = w.heap.toList ++ l
  | [], w => by simp
  | o :: l, w => by
    rw [List.foldl_cons, heap_allocs l (w.alloc o)]
    show (w.heap.push o).toList ++ l = _
    simp
theorem heapn (w : World) (l : List Obj) (k : Nat) : (l.foldl World.alloc w).heap[w.heap.size + k]? = l[k]? := by
  rw [← Array.getElem?_toList, heap_allocs, List.getElem?_append_right (by simp)]
  simp
theorem heap2_0 (w : World) (A0 A1 : Obj) : ((w.alloc A0).alloc A1).heap[w.heap.size]? = some A0 := heapn w [A0, A1] 0
theorem heap2_1 (w : World) (A0 A1 : Obj) : ((w.alloc A0).alloc A1).heap[w.heap.size + 1]? = some A1 := heapn w [A0, A1] 1
theorem heap3_0 (w : World) (A0 A1 A2 : Obj) : (((w.alloc A0).alloc A1).alloc A2).heap[w.heap.size]? = some A0 := heapn w [A0, A1, A2] 0
theorem heap3_1 (w : World) (A0 A1 A2 : Obj) : (((w.alloc A0).alloc A1).alloc A2).heap[w.heap.size + 1]? = some A1 := heapn w [A0, A1, A2] 1
theorem heap3_2 (w : World) (A0 A1 A2 : Obj) : (((w.alloc A0).alloc A1).alloc A2).heap[w.heap.size + 2]? = some A2 := heapn w [A0, A1, A2] 2
theorem heap4_0 (w : World) (A0 A1 A2 A3 : Obj) : ((((w.alloc A0).alloc A1).alloc A2).alloc A3).heap[w.heap.size]? = some A0 := heapn w [A0, A1, A2, A3] 0
theorem heap4_1 (w : World) (A0 A1 A2 A3 : Obj) : ((((w.alloc A0).alloc A1).alloc A2).alloc A3).heap[w.heap.size + 1]? = some A1 := heapn w [A0, A1, A2, A3] 1
theorem heap4_2 (w : World) (A0 A1 A2 A3 : Obj) : ((((w.alloc A0).alloc A1).alloc A2).alloc A3).heap[w.heap.size + 2]? = some A2 := heapn w [A0, A1, A2, A3] 2
theorem heap4_3 (w : World) (A0 A1 A2 A3 : Obj) : ((((w.alloc A0).alloc A1).alloc A2).alloc A3).heap[w.heap.size + 3]? = some A3 := heapn w [A0, A1, A2, A3] 3
theorem heap5_0 (w : World) (A0 A1 A2 A3 A4 : Obj) : (((((w.alloc A0).alloc A1).alloc A2).alloc A3).alloc A4).heap[w.heap.size]? = some A0 := heapn w [A0, A1, A2, A3, A4] 0
theorem heap5_1 (w : World) (A0 A1 A2 A3 A4 : Obj) : (((((w.alloc A0).alloc A1).alloc A2).alloc A3).alloc A4).heap[w.heap.size + 1]? = some A1 := heapn w [A0, A1, A2, A3, A4] 1
theorem heap5_2 (w : World) (A0 A1 A2 A3 A4 : Obj) : (((((w.alloc A0).alloc A1).alloc A2).alloc A3).alloc A4).heap[w.heap.size + 2]? = some A2 := heapn w [A0, A1, A2, A3, A4] 2
theorem heap5_3 (w : World) (A0 A1 A2 A3 A4 : Obj) : (((((w.alloc A0).alloc A1).alloc A2).alloc A3).alloc A4).heap[w.heap.size + 3]? = some A3 := heapn w [A0, A1, A2, A3, A4] 3
theorem heap5_4 (w : World) (A0 A1 A2 A3 A4 : Obj) : (((((w.alloc A0).alloc A1).alloc A2).alloc A3).alloc A4).heap[w.heap.size + 4]? = some A4 := heapn w [A0, A1, A2, A3, A4] 4

end Go.Proofs.Ytjneaalpiangdaa
