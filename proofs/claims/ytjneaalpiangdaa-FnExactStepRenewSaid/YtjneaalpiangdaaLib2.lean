/- append onto a slice of the call's own, from any source. -/
import Derived.Test.YtjneaalpiangdaaLib
namespace Go.Proofs.Ytjneaalpiangdaa
open Go.RowKit
/-- What is appended: the cells of a slice that reads as news, nil let in. -/
def Src (w : World) (size : Nat) (a : Option Addr) (m : Nat) (news : List Value) : Prop :=
  (a = none ∧ m = 0 ∧ news = []) ∨ ∃ ad, a = some ad ∧ news.length = m * size ∧ (∀ j u, news[j]? = some u → w.cell? (ad.add j) = some u) ∧ ∀ u ∈ news, u.oneCell' = true
theorem Src.mod {w w' : World} {size : Nat} {a : Option Addr} {m : Nat} {news : List Value} (h : Src w size a m news) (hm : Mod [] w w') : Src w' size a m news := by
  rcases h with h | ⟨ad, h1, h2, h3, h4⟩
  · exact Or.inl h
  · exact Or.inr ⟨ad, h1, h2, fun j u hu => by
      have := h3 j u hu
      rw [hm.cell (World.block_lt_of_cell? w _ this) (by simp)]; exact this, h4⟩
section
variable {P : Program}
theorem run_append_src (w : World) (base : Nat) (t ty e : TypeId) (i : TypeInfo) (z : Value) (size bytes : Nat) (ht : P.underlying t = some (.slice e)) (hi : P.info? e = some i) (hz : i.zero = some z)
    (hsize : i.size = size) (hby : i.bytes = bytes) (hzs : z.cells.size = size) (hsz : 0 < size)
    (v : Value) (n : Nat) (xs : List Value) (hown : w.ownsRow base e size v n xs) (a : Option Addr) (m c : Nat) (news : List Value) (hsrc : Src w size a m news)
    (h63 : n + m ≤ maxLen) (hbytes : (n + m) * bytes ≤ 140737488355328) (hbase : base ≤ w.heap.size) :
    ∃ v' w', (Builtin.append_ #[t, t] ty #[v, .slice a m c]).run P w = .ok v' w' ∧ w'.ownsRow base e size v' (n + m) (xs ++ news) ∧ w.grownBy w' v.ownBlock := by
  rcases hsrc with ⟨rfl, rfl, rfl⟩ | ⟨ad, rfl, h1, h2, h3⟩
  · refine ⟨v, w, ?_, by simpa using hown, ⟨rfl, rfl, rfl, Nat.le_refl _, fun _ _ _ => rfl⟩⟩
    rcases hown.2 with ⟨rfl, rfl⟩ | ⟨g, cap, cur, rfl, _, _, hnc, _⟩
    · simp [Builtin.append_, run_underlying ht, sizeOf, typeInfo, hi, Builtin.lenOf, Builtin.firstCells]
    · simp [Builtin.append_, run_underlying ht, sizeOf, typeInfo, hi, Builtin.lenOf, Builtin.firstCells, hnc, storeCells]
  · obtain ⟨v', w', g1, g2, g3, _⟩ := run_append_own (P := P) w base t ty e i z size bytes ht hi hz hsize hby hzs hsz v n xs hown ad m c news h1 h2 h3 h63 hbytes hbase
    exact ⟨v', w', g1, g2, g3⟩
theorem wpList_append_src (w : World) {ops : Array Oper} {rest : List Oper} {o : Oper} {a : Act} {Q : Exit → Act → World → Prop} (hgd : o.guard = none) (s x : Operand) (t : TypeId)
    (ho : o.op = .call { callee := .builtin .append, args := #[s, x], argTypes := #[t, t] })
    (base : Nat) (e : TypeId) (i : TypeInfo) (z : Value) (size bytes : Nat) (ht : P.underlying t = some (.slice e)) (hi : P.info? e = some i) (hz : i.zero = some z)
    (hsize : i.size = size) (hby : i.bytes = bytes) (hzs : z.cells.size = size) (hsz : 0 < size)
    (v : Value) (n : Nat) (xs : List Value) (hs : a.eval s = v) (hown : w.ownsRow base e size v n xs)
    (ad : Option Addr) (m c : Nat) (news : List Value) (hx : a.eval x = .slice ad m c) (hsrc : Src w size ad m news)
    (h63 : n + m ≤ maxLen) (hbytes : (n + m) * bytes ≤ 140737488355328) (hbase : base ≤ w.heap.size)
    (h : ∀ v' w', w'.ownsRow base e size v' (n + m) (xs ++ news) → w.grownBy w' v.ownBlock → wpList P ops Q rest (a.put o.dst v') w') : wpList P ops Q (o :: rest) a w :=
  wpList_plain hgd fun _ hK => by
    obtain ⟨v', w', hr, h2, h3⟩ := run_append_src (P := P) w base t o.type e i z size bytes ht hi hz hsize hby hzs hsz v n xs hown ad m c news hsrc h63 hbytes hbase
    unfold Oper.wp execOp
    simp only [ho, resolve, invoke, builtin, Sem.run_bind, Sem.run_pure, Result.andThen_ok, List.map_toArray, List.map_cons, List.map_nil, hs, hx, hr]
    exact hK _ _ (h v' w' h2 h3)
end
theorem RdS.src {α : Type} {T : GT α} {w : World} {a : Option Addr} {n : Nat} {xs : List α} {fp : List Nat} (hs : 0 < T.size) (h : RdS T w a n xs fp) :
    ∃ Ls fps, RdL T w Ls xs fps ∧ Src w T.size a n Ls.flatten ∧ (∀ q ∈ fps.flatten, q ∈ fp) := by
  cases a with
  | none =>
    rcases h.2 with ⟨rfl, _⟩ | ⟨b, o, fps, ha, _⟩
    · have := h.1
      simp at this; subst this
      exact ⟨[], [], ⟨rfl, rfl, by simp⟩, Or.inl ⟨rfl, rfl, rfl⟩, by simp⟩
    · cases ha
  | some ad =>
    obtain ⟨Ls, fps, h1, h2, h3, h4⟩ := h.cells hs
    exact ⟨Ls, fps, h1, Or.inr ⟨ad, rfl, h4, h2, h1.one⟩, h3⟩
theorem made_at (w : World) (k base : Nat) (e : TypeId) (size : Nat) (hk : k = w.heap.size) (hb : base ≤ k) : (w.alloc (.cells #[] e)).ownsRow base e size (.slice (some ⟨k, 0, none⟩) 0 0) 0 [] := by
  subst hk
  exact World.ownsRow_made w #[] 0 hb (Nat.zero_le _) (by simp)
end Go.Proofs.Ytjneaalpiangdaa
