/- append([]T{}, xs...): a copy in memory of its own, xs nil or not. -/
import Derived.Test.YtgpdggjpbmgegaaDoorAppend
import Derived.Deep.AppendSrc
namespace Go.Proofs.YtgpdggjpbmgegaaDoor
open Go.RowKit
set_option linter.unusedVariables false

section
variable {P : Program} (w : World)
theorem run_append_copy (t ty e : TypeId) (i : TypeInfo) (z : Value) (size bytes : Nat) (ht : P.underlying t = some (.slice e)) (hi : P.info? e = some i) (hz : i.zero = some z)
    (hsize : i.size = size) (hby : i.bytes = bytes) (hzs : z.cells.size = size) (hsz : 0 < size)
    (g : Nat) (hown : w.ownsRow 0 e size (.slice (some ⟨g, 0, none⟩) 0 0) 0 [])
    (ta : Option Addr) (n c : Nat) (news : List Value) (hl : news.length = n * size) (hsrc : 0 < n → ∃ b o, ta = some ⟨b, o, none⟩ ∧ ∀ j u, news[j]? = some u → w.cell? ⟨b, o + j, none⟩ = some u) (h1 : ∀ u ∈ news, u.oneCell' = true)
    (h63 : n ≤ maxLen) (hbytes : n * bytes ≤ 140737488355328) :
    ∃ v' w', (Builtin.append_ #[t, t] ty #[.slice (some ⟨g, 0, none⟩) 0 0, .slice ta n c]).run P w = .ok v' w' ∧ w'.ownsRow 0 e size v' n news ∧ Below w.heap.size w w' ∧ ∃ b cap, v' = .slice (some ⟨b, 0, none⟩) n cap ∧ (b = g ∨ b = w.heap.size) := by
  by_cases hn : n = 0
  · subst hn
    have hnil : news = [] := List.eq_nil_of_length_eq_zero (by simpa using hl)
    subst hnil
    have hs : Src P i.size t (.slice ta 0 c) 0 [] w := by
      cases ta with
      | none => exact Src.ofNil w ht c
      | some a => exact Src.ofSlice w ht a 0 c [] (by simp) (fun j u h => by simp at h) (fun u h => by cases h)
    have hr := run_append_room_src (P := P) w t t ty e i ht hi g 0 0 0 (.slice ta 0 c) 0 [] hs (Nat.le_refl _) (fun j h => absurd h (Nat.not_lt_zero j)) (fun j h => absurd h (Nat.not_lt_zero j))
    have hw : w.setCells g (0 + 0 * i.size) [] = w := by simp [World.setCells]
    rw [hw] at hr
    exact ⟨_, _, hr, hown, Below.refl _ _, g, 0, rfl, .inl rfl⟩
  · obtain ⟨b, o, rfl, hc⟩ := hsrc (by omega)
    have hnews : ∀ j u, news[j]? = some u → w.cell? ((⟨b, o, none⟩ : Addr).add j) = some u := fun j u h => by
      have := hc j u h
      unfold Addr.add
      split
      · rename_i e; subst e; simpa using this
      · exact this
    obtain ⟨v', w', hr, h2, _, _⟩ := run_append2 (P := P) w t ty e i z size bytes ht hi hz hsize hby hzs hsz _ 0 [] hown ⟨b, o, none⟩ n c news hl hnews h1 (by omega) (by simpa using hbytes)
    have hr2 := run_append_grow (P := P) w t ty e i z ht hi hz ⟨g, 0, none⟩ 0 0 [] (by simp) (fun j u h => by simp at h) ⟨b, o, none⟩ n c news (by rw [hl, hsize]) hnews (by omega) (by unfold maxLen at h63; omega) (growslice_fits (by omega) (by rw [hby]; simpa using hbytes))
    rw [hr2] at hr
    cases hr
    simp only [Nat.zero_add, List.nil_append] at h2 hr2
    exact ⟨_, _, by rw [hr2], h2, (Below.drew (Below.refl _ _)).alloc (Nat.le_refl _) _, _, _, rfl, .inr rfl⟩

theorem wpList_append_copy {ops : Array Oper} {rest : List Oper} {o : Oper} {a : Act} {Q : Exit → Act → World → Prop} (hgd : o.guard = none) (s x : Operand) (t : TypeId)
    (ho : o.op = .call { callee := .builtin .append, args := #[s, x], argTypes := #[t, t] })
    (e : TypeId) (i : TypeInfo) (z : Value) (size bytes : Nat) (ht : P.underlying t = some (.slice e)) (hi : P.info? e = some i) (hz : i.zero = some z)
    (hsize : i.size = size) (hby : i.bytes = bytes) (hzs : z.cells.size = size) (hsz : 0 < size)
    (g : Nat) (hs : a.eval s = .slice (some ⟨g, 0, none⟩) 0 0) (hown : w.ownsRow 0 e size (.slice (some ⟨g, 0, none⟩) 0 0) 0 [])
    (ta : Option Addr) (n c : Nat) (news : List Value) (hx : a.eval x = .slice ta n c) (hl : news.length = n * size) (hsrc : 0 < n → ∃ b o, ta = some ⟨b, o, none⟩ ∧ ∀ j u, news[j]? = some u → w.cell? ⟨b, o + j, none⟩ = some u) (h1 : ∀ u ∈ news, u.oneCell' = true)
    (h63 : n ≤ maxLen) (hbytes : n * bytes ≤ 140737488355328)
    (h : ∀ b cap w', w'.ownsRow 0 e size (.slice (some ⟨b, 0, none⟩) n cap) n news → Below w.heap.size w w' → (b = g ∨ b = w.heap.size) → wpList P ops Q rest (a.put o.dst (.slice (some ⟨b, 0, none⟩) n cap)) w') : wpList P ops Q (o :: rest) a w :=
  wpList_plain hgd fun _ hK => by
    obtain ⟨v', w', hr, h2, h3, b, cap, rfl, h4⟩ := run_append_copy (P := P) w t o.type e i z size bytes ht hi hz hsize hby hzs hsz g hown ta n c news hl hsrc h1 h63 hbytes
    unfold Oper.wp execOp
    simp only [ho, resolve, invoke, builtin, Sem.run_bind, Sem.run_pure, Result.andThen_ok, List.map_toArray, List.map_cons, List.map_nil, hs, hx, hr]
    exact hK _ _ (h b cap w' h2 h3 h4)
end
end Go.Proofs.YtgpdggjpbmgegaaDoor
