/- Package pack: the bytes of numbers; number, which lays a number's bytes. -/
import Derived.Laws.Shifts
import Derived.Laws.BitsLemmas
import Derived.Lib.AppendStr
import Derived.Deep.RegionHeld3
import Derived.Deep.AppendLies
import Derived.Test.YtgpdggjpbmgegaaDoorMrC
import Derived.Test.YtgpdggjpbmgegaaDoorFresh
namespace Go.Proofs.YtgpdggjpbmgegaaDoor
open Go.RowKit
set_option linter.unusedVariables false
set_option linter.unusedSimpArgs false


theorem Tryd.infoU8 : (Tryd.prog.info? 5).map (fun i => (i.zero, i.size, i.bytes)) = some (some (.int .u8 0), 1, 1) := by kernel_rfl

def Bys (l : List Int) : List Value := l.map (Value.int .u8)
theorem Bys_some {l : List Int} {i : Nat} {v : Int} (h : l[i]? = some v) : (Bys l)[i]? = some (.int .u8 v) := by simp [Bys, h]
/-- byte i of a number -/
def byteZ (n : Int) (i : Nat) : Int := n / 2 ^ (8 * i) % 256
def numB (n : Int) (k : Nat) : List Int := (List.range k).map (byteZ n)
theorem numB_len (n : Int) (k : Nat) : (numB n k).length = k := by simp [numB]
theorem numB_succ (n : Int) (k : Nat) : numB n (k + 1) = numB n k ++ [byteZ n k] := by simp [numB, List.range_succ]
theorem byteZ_bd (n : Int) (i : Nat) : 0 ≤ byteZ n i ∧ byteZ n i < 256 := by unfold byteZ; omega

/-- an own row of bytes -/
def BufAt (w : World) (g cap : Nat) (l : List Int) : Prop := w.ownsRow 0 5 1 (.slice (some ⟨g, 0, none⟩) l.length cap) l.length (Bys l)
/-- what appends leave -/
def BufPost (g : Nat) (l : List Int) (w : World) (e : Ending) (w' : World) : Prop :=
  ∃ g' cap', e = .returned (.slice (some ⟨g', 0, none⟩) l.length cap') ∧ Chg (· = g) w w' ∧ (g' = g ∨ w.heap.size ≤ g') ∧ BufAt w' g' cap' l

theorem BufAt.chg {S : Nat → Prop} {w w' : World} {g cap : Nat} {l : List Int} (h : BufAt w g cap l) (c : Chg S w w') (hg : ¬ S g) : BufAt w' g cap l := ownsRow_chg c h hg
theorem BufAt.lt {w : World} {g cap : Nat} {l : List Int} (h : BufAt w g cap l) : g < w.heap.size := (World.ownsRow.lt h g rfl).2
theorem BufAt.below {w w' : World} {g cap : Nat} {l : List Int} (h : BufAt w g cap l) (c : Below w.heap.size w w') : BufAt w' g cap l := h.chg (S := fun _ => False) (Chg.of c) (fun h => h)

theorem buf_form {w w' : World} {v' : Value} {g cap : Nat} {l new : List Int} (hpos : 0 < (l ++ new).length) (h2 : w'.ownsRow 0 5 1 v' (l.length + new.length) (Bys l ++ Bys new)) (h3 : w.grownBy w' (Value.slice (some ⟨g, 0, none⟩) l.length cap).ownBlock)
    (h4 : v'.ownBlock = (Value.slice (some ⟨g, 0, none⟩) l.length cap).ownBlock ∨ (v'.ownBlock = some w.heap.size ∧ Below w.heap.size w w')) :
    ∃ g' cap', v' = .slice (some ⟨g', 0, none⟩) (l ++ new).length cap' ∧ BufAt w' g' cap' (l ++ new) ∧ Chg (· = g) w w' ∧ (g' = g ∨ w.heap.size ≤ g') := by
  have hlen : (l ++ new).length = l.length + new.length := by simp
  obtain ⟨g', cap', rfl⟩ : ∃ sb cap, v' = .slice (some ⟨sb, 0, none⟩) (l ++ new).length cap := by
    rcases h2.2 with ⟨_, h0⟩ | ⟨g', cap', cur, hv, _⟩
    · omega
    · exact ⟨g', cap', by rw [hlen]; exact hv⟩
  refine ⟨g', cap', rfl, ?_, (chg_grown h3).mono (fun x _ e => by simpa [Value.ownBlock, eq_comm] using e), ?_⟩
  · unfold BufAt
    have e : Bys (l ++ new) = Bys l ++ Bys new := by simp [Bys]
    rw [e]
    rw [hlen] at h2 ⊢
    exact h2
  · rcases h4 with e | ⟨e, _⟩
    · left; simpa [Value.ownBlock] using e
    · right; simp [Value.ownBlock] at e; omega

theorem Bys_one (l : List Int) : ∀ u ∈ Bys l, u.oneCell' = true := by
  intro u hu; obtain ⟨n, _, rfl⟩ := List.mem_map.1 hu; rfl

/-- append of bytes to an own row of bytes -/
theorem wpList_appB {w : World} {ops : Array Oper} {rest : List Oper} {o : Oper} {a : Act} {Q : Exit → Act → World → Prop} (hgd : o.guard = none) (s x : Operand)
    (ho : o.op = .call { callee := .builtin .append, args := #[s, x], argTypes := #[41, 41] }) (g cap : Nat) (l : List Int) (n : Nat) (hn : n = l.length) (hs : a.eval s = .slice (some ⟨g, 0, none⟩) n cap) (hown : BufAt w g cap l)
    (ad : Addr) (m c : Nat) (new : List Int) (hm : m = new.length) (hx : a.eval x = .slice (some ad) m c) (hnews : ∀ j u, (Bys new)[j]? = some u → w.cell? (ad.add j) = some u) (hpos : 0 < (l ++ new).length) (hlen : l.length + new.length ≤ 4398046511104)
    (h : ∀ g' cap' w', BufAt w' g' cap' (l ++ new) → Chg (· = g) w w' → (g' = g ∨ w.heap.size ≤ g') → wpList Tryd.prog ops Q rest (a.put o.dst (.slice (some ⟨g', 0, none⟩) (l ++ new).length cap')) w') : wpList Tryd.prog ops Q (o :: rest) a w := by
  obtain ⟨i0, hi, iz0, iz1, iz2⟩ := info_parts Tryd.infoU8
  subst hn hm
  refine wpList_append2 w hgd s x 41 ho 5 i0 (.int .u8 0) 1 1 Tryd.underlying41 hi iz0 iz1 iz2 rfl (by decide) (.slice (some ⟨g, 0, none⟩) l.length cap) l.length (Bys l) hs hown ad new.length c (Bys new) hx (by simp [Bys]) hnews (Bys_one _) (by unfold maxLen; omega) (by omega) ?_
  intro v' w' h2 h3 h4
  obtain ⟨g', cap', rfl, h5, h6, h7⟩ := buf_form hpos h2 h3 h4
  exact h g' cap' w' h5 h6 h7

/-- the source of an append: a literal, made just before -/
theorem lit_src {w : World} (new : List Int) (k : Nat) (hk : k = w.heap.size) : ∀ j u, (Bys new)[j]? = some u → (w.alloc (.cells (Bys new).toArray 5)).cell? ((⟨k, 0, none⟩ : Addr).add j) = some u := by
  intro j u hu
  subst hk
  rw [show (⟨w.heap.size, 0, none⟩ : Addr).add j = ⟨w.heap.size, j, none⟩ from by unfold Addr.add; split <;> simp_all]
  exact (Own.new w (Bys new) 5).2.1 j u hu

set_option maxRecDepth 100000 in
set_option maxHeartbeats 2000000 in
theorem pnumber_any (g cap : Nat) (l : List Int) (n : Int) (k : Nat) (w : World) (h : BufAt w g cap l) (hk : k ≤ 8) (hl : l.length ≤ 1099511627776) :
    Calls Tryd.prog 27 #[.slice (some ⟨g, 0, none⟩) l.length cap, .int .i64 n, .int .i64 k] w (BufPost g (l ++ numB n k) w) := by
  obtain ⟨i0, hi, iz0, iz1, iz2⟩ := info_parts Tryd.infoU8
  have HB := Lib.hid h; clear h
  go_enter Tryd.func27, Tryd.ntmps27
  go_wp2
  go_loopw [0, 9] (fun v i wr => ∃ (j g' cap' : Nat), j ≤ k ∧ i = .int .i64 j ∧ v = .slice (some ⟨g', 0, none⟩) (l.length + j) cap' ∧ Chg (· = g) w wr ∧ (g' = g ∨ w.heap.size ≤ g') ∧ Hid (BufAt wr g' cap' (l ++ numB n j))) (fun v i _ => k - (intOf i).toNat)
  case atStart => exact ⟨0, g, cap, Nat.zero_le _, rfl, rfl, Chg.refl _ _, .inl rfl, Lib.hid (by simpa [numB] using HB.out)⟩
  case round =>
    obtain ⟨j, g', cap', hj, rfl, rfl, hc, hg, hbf⟩ := hrel
    have hz := hc.size
    by_cases hlt : j < k
    · have d2 : (j : Int) < (k : Int) := by omega
      have hw1 : IntKind.i64.wrap ((j : Int) + 1) = (j : Int) + 1 := IntWalk.i64_in _ (by omega)
      have hw2 : IntKind.i64.wrap (8 * (j : Int)) = 8 * (j : Int) := IntWalk.i64_in _ (by omega)
      have hw3 : (0 : Int) ≤ 8 * (j : Int) := by omega
      have hlen : (l ++ numB n j).length = l.length + j := by simp [numB_len]
      go_wp2_with (at_builtin; refine wpList_appB rfl (.tmp 12) (.tmp 18) rfl g' cap' (l ++ numB n j) (l.length + j) hlen.symm rfl (hbf.out.below (by repeat (first | with_reducible exact Below.refl _ _ | with_reducible assumption | with_reducible refine Below.drew ?_ | with_reducible refine Below.drewN ?_ _ | with_reducible refine Below.alloc ?_ (by first | omega | (simp <;> omega) | (simp at * <;> omega)) _ | with_reducible refine Below.setCell ?_ (by first | omega | (simp <;> omega) | (simp at * <;> omega)) _ | (with_reducible refine Below.trans ?_ (Below.mono (by first | with_reducible assumption | exact hF _) (by first | omega | (simp <;> omega) | (simp at * <;> omega))))))) ⟨wr.heap.size, 0, none⟩ 1 1 [n / 2 ^ (8 * j) % 256] rfl rfl (lit_src [n / 2 ^ (8 * j) % 256] _ rfl) (by simp only [List.length_append, List.length_cons, List.length_nil]; omega) (by rw [hlen]; simp only [List.length_cons, List.length_nil]; omega) ?_; intro g2 cap2 w2 hb2 hc2 hg2)
      have hnl : (numB n j).length = j := numB_len n j
      rw [hnl]
      go_roundw
      case rel =>
        have hc3 : Chg (· = g') wr w2 := ((Chg.refl _ _).alloc _).trans hc2
        refine ⟨j + 1, g2, cap2, by omega, by simp, rfl, hc.trans2 hc3 (fun y hy e => by rcases hg with h | h <;> omega), ?_, Lib.hid ?_⟩
        · rcases hg2 with h | h
          · rw [h]; exact hg
          · right; simp at h; omega
        · rw [numB_succ, ← List.append_assoc]; exact hb2
      case measure => go_light; first | omega | (simp only [intOf]; omega)
    · have hjk : j = k := by omega
      subst hjk
      have d2 : ¬ (j : Int) < (j : Int) := by omega
      go_wp2
      go_ret
      go_light
      have hlen : (l ++ numB n j).length = l.length + j := by simp [numB_len]
      exact ⟨g', cap', by rw [hlen]; rfl, hc, hg, hbf.out⟩
end Go.Proofs.YtgpdggjpbmgegaaDoor
