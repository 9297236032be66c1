/- Each operation does to the run in memory what the plain machine's step does to its state. -/
import Derived.Test.YtgpdggjpbmgegaaDoorEngH
import Derived.Test.YtgpdggjpbmgegaaDoorFuel
namespace Go.Proofs.YtgpdggjpbmgegaaDoor
open Go.RowKit
set_option linter.unusedVariables false
set_option linter.unusedSimpArgs false


/-- what a step has done: s: the state in which the instruction's number has been passed -/
def StepPost (B : Nat) (w : World) (g : ModImg) (m : PMod) (i : Img) (ex : List Value) (lim steps : Int) (s : PSt) (x : PIns) (e : Ending) (w' : World) : Prop :=
  Below B w w' ∧ match doP m lim s x with
  | .next s' => e = .returned (.tuple #[]) ∧ ∃ i', i'.eb = i.eb ∧ EngAt B w' g m i' ex lim steps s'
  | .done v _ mf mw => e = .returned (.tuple #[]) ∧ KeptAt w' g.kept i.blocks ∧ ∃ fv use, Own w' i.eb (engC 0 v steps mf mw lim (ptrV g.mb) fv use true (.slice (some ⟨i.db, 0, none⟩) 20 20) ++ ex)
  | .trap t => e = .panicked (trapV t) ∧ EngAt B w' g m i ex lim steps s

section
variable {B : Nat} {g : ModImg} {m : PMod} {i : Img} {ex : List Value} {lim steps : Int} {s : PSt} {w w' : World} {x : PIns} {e : Ending}
theorem top_below (h : EngAt B w g m i ex lim steps s) {S : Nat → Prop} (c : Chg S w w') (hS : ∀ k, S k → k ∈ i.ht.blocks) : Below B w w' :=
  c.below B h.low (fun k hk hs => by
    have := h.own k (by unfold Img.blocks; simp only [List.mem_cons, List.mem_flatMap]; exact .inr (.inr (.inr ⟨i.ht, by simp, hS k hs⟩)))
    omega)
theorem keep_regs (h : EngAt B w g m i ex lim steps s) {v : Int} {a : Nat} (hp : e = .returned (.tuple #[]) ∧ Chg (· = i.ht.rb) w w' ∧ Own w' i.ht.rb (Nums (s.top.regs.set a v))) (hd : doP m lim s x = .next { s with top := s.top.put a v }) :
    StepPost B w g m i ex lim steps s x e w' := by
  obtain ⟨rfl, c, o⟩ := hp
  have hap := h.apart
  have hS : ∀ k, k = i.ht.rb → k ∈ i.ht.blocks := fun k e => by rw [e]; simp [HFr.blocks]
  refine ⟨top_below h c hS, ?_⟩
  rw [hd]
  refine ⟨rfl, i, rfl, h.top_chg c hS ⟨?_, ?_, ?_⟩⟩
  · have := c.own h.top.1 hap.1
    simpa [frL, PFr.put] using this
  · simpa [PFr.put] using o
  · exact c.own h.top.2.2 (fun e => hap.2.1 e.symm)
theorem keep_words (h : EngAt B w g m i ex lim steps s) {v : Int} {a : Nat} (hp : e = .returned (.tuple #[]) ∧ Chg (· = i.ht.wb) w w' ∧ Own w' i.ht.wb (Nums (s.top.words.set a v))) (hd : doP m lim s x = .next { s with top := { s.top with words := s.top.words.set a v } }) :
    StepPost B w g m i ex lim steps s x e w' := by
  obtain ⟨rfl, c, o⟩ := hp
  have hap := h.apart
  have hS : ∀ k, k = i.ht.wb → k ∈ i.ht.blocks := fun k e => by rw [e]; simp [HFr.blocks]
  refine ⟨top_below h c hS, ?_⟩
  rw [hd]
  refine ⟨rfl, i, rfl, h.top_chg c hS ⟨?_, ?_, ?_⟩⟩
  · have := c.own h.top.1 hap.2.2
    simpa [frL] using this
  · exact c.own h.top.2.1 hap.2.1
  · exact o
theorem keep_goto (h : EngAt B w g m i ex lim steps s) {n : Int} (hp : e = .returned (.tuple #[]) ∧ Chg (· = i.ht.fb) w w' ∧ Own w' i.ht.fb [.pointer (some ⟨g.fsb, g.fso + s.top.fn * 5, none⟩), .int .i64 n, .int .i64 s.top.into, .slice (some ⟨i.ht.rb, 0, none⟩) s.top.regs.length s.top.regs.length, .slice (some ⟨i.ht.wb, 0, none⟩) s.top.words.length s.top.words.length])
    (hd : doP m lim s x = .next { s with top := s.top.goto n }) : StepPost B w g m i ex lim steps s x e w' := by
  obtain ⟨rfl, c, o⟩ := hp
  have hap := h.apart
  have hS : ∀ k, k = i.ht.fb → k ∈ i.ht.blocks := fun k e => by rw [e]; simp [HFr.blocks]
  refine ⟨top_below h c hS, ?_⟩
  rw [hd]
  exact ⟨rfl, i, rfl, h.top_chg c hS ⟨o, c.own h.top.2.1 (fun e => hap.1 e.symm), c.own h.top.2.2 (fun e => hap.2.2 e.symm)⟩⟩
theorem keep_step (h : EngAt B w g m i ex lim steps s) {v n : Int} {a : Nat} (hp : e = .returned (.tuple #[]) ∧ Chg (fun k => k = i.ht.rb ∨ k = i.ht.fb) w w' ∧ Own w' i.ht.rb (Nums (s.top.regs.set a v)) ∧ Own w' i.ht.fb [.pointer (some ⟨g.fsb, g.fso + s.top.fn * 5, none⟩), .int .i64 n, .int .i64 s.top.into, .slice (some ⟨i.ht.rb, 0, none⟩) s.top.regs.length s.top.regs.length, .slice (some ⟨i.ht.wb, 0, none⟩) s.top.words.length s.top.words.length])
    (hd : doP m lim s x = .next { s with top := (s.top.put a v).goto n }) : StepPost B w g m i ex lim steps s x e w' := by
  obtain ⟨rfl, c, o, o2⟩ := hp
  have hap := h.apart
  have hS : ∀ k, (k = i.ht.rb ∨ k = i.ht.fb) → k ∈ i.ht.blocks := fun k e => by rcases e with e | e <;> rw [e] <;> simp [HFr.blocks]
  refine ⟨top_below h c hS, ?_⟩
  rw [hd]
  refine ⟨rfl, i, rfl, h.top_chg c hS ⟨?_, ?_, c.own h.top.2.2 (fun e => ?_)⟩⟩
  · simpa [frL, PFr.put, PFr.goto] using o2
  · simpa [PFr.put, PFr.goto] using o
  · rcases e with e | e
    · exact hap.2.1 e.symm
    · exact hap.2.2 e.symm
theorem keep_none (h : EngAt B w g m i ex lim steps s) (hp : e = .returned (.tuple #[]) ∧ Below w.heap.size w w') (hd : doP m lim s x = .next { s with top := s.top }) : StepPost B w g m i ex lim steps s x e w' := by
  obtain ⟨rfl, b⟩ := hp
  refine ⟨Below.mono b h.low, ?_⟩
  rw [hd]
  exact ⟨rfl, i, rfl, h.below b⟩
theorem trap_none (h : EngAt B w g m i ex lim steps s) {t : Int} (hp : e = .panicked (trapV t) ∧ Below w.heap.size w w') (hd : doP m lim s x = .trap t) : StepPost B w g m i ex lim steps s x e w' := by
  obtain ⟨rfl, b⟩ := hp
  refine ⟨Below.mono b h.low, ?_⟩
  rw [hd]
  exact ⟨rfl, h.below b⟩
end

theorem getD_some {l : List Int} {i : Nat} (h : i < l.length) : l[i]? = some (l.getD i 0) := by
  simp [List.getD_eq_getElem?_getD, List.getElem?_eq_getElem h]

set_option maxHeartbeats 4000000 in
theorem op_any {B : Nat} {g : ModImg} {m : PMod} {i : Img} {ex : List Value} {lim steps : Int} {s : PSt} (w : World) (hm : Fine m) (h : EngAt B w g m i ex lim steps s) (x : PIns) (hx : InsFine m (fnAt m s.top.fn) x) (hx64 : InsOk x)
    (hfn : s.top.fn < m.funcs.length) (hrl : (s.top.regs.length : Int) = (fnAt m s.top.fn).regs) (hwl : (s.top.words.length : Int) = (fnAt m s.top.fn).words) (h64 : ∀ v ∈ s.top.regs, In64 v)
    (hlk : ∀ r c, s.rest = r ++ [c] → 0 ≤ s.top.into ∧ s.top.into < c.regs.length ∧ c.regs.length ≤ 64) (hlim : lim = 0 ∨ lim = 64) (hdep : s.rest.length ≤ 1000000) (hu : -1000000000000 ≤ s.use ∧ s.use ≤ 1000000000000) (F : Nat) (hF : doesL[x.op.toNat]? = some (fnV F)) :
    Calls Tryd.prog F #[ptrV i.eb, ptrV i.ht.fb, InsVal x] w fun e w' => StepPost B w g m i ex lim steps s x e w' := by
  have hff := hm.fn _ hfn
  have q1 := hff.r1; have q2 := hff.r2; have q3 := hff.w0; have q4 := hff.w1
  have hap := h.apart
  obtain ⟨a0, a1, b0, b1, c0, c1⟩ := And.intro hx.a0 (And.intro hx.a1 (And.intro hx.b0 (And.intro hx.b1 (And.intro hx.c0 hx.c1))))
  have o0 := hx.op0; have o1 := hx.op1
  have hcall := hx.call
  have n64 := hx64.2.2.2.2
  clear hx hx64
  obtain ⟨op, A, Bx, C, n⟩ := x
  dsimp only at *
  obtain ⟨a, rfl⟩ := Int.eq_ofNat_of_zero_le a0
  obtain ⟨b, rfl⟩ := Int.eq_ofNat_of_zero_le b0
  obtain ⟨c, rfl⟩ := Int.eq_ofNat_of_zero_le c0
  have ga := getD_some (show a < s.top.regs.length by omega)
  have gb := getD_some (show b < s.top.regs.length by omega)
  have gc := getD_some (show c < s.top.regs.length by omega)
  have hml : s.top.regs.length ≤ 64 := by omega
  have hnw : s.top.words.length ≤ 4096 := by omega
  have vb64 := getD64 h64 b
  have va64 := getD64 h64 a
  have vc64 := getD64 h64 c
  have hf := h.top.1
  have hr := h.top.2.1
  have hw := h.top.2.2
  unfold frL at hf
  have era : s.top.rg (a : Int) = s.top.regs.getD a 0 := rfl
  have erb : s.top.rg (b : Int) = s.top.regs.getD b 0 := rfl
  have erc : s.top.rg (c : Int) = s.top.regs.getD c 0 := rfl
  obtain ⟨o, rfl⟩ := Int.eq_ofNat_of_zero_le o0
  have ho : o < 20 := by omega
  clear o0 o1
  rcases (show o = 0 ∨ o = 1 ∨ o = 2 ∨ o = 3 ∨ o = 4 ∨ o = 5 ∨ o = 6 ∨ o = 7 ∨ o = 8 ∨ o = 9 ∨ o = 10 ∨ o = 11 ∨ o = 12 ∨ o = 13 ∨ o = 14 ∨ o = 15 ∨ o = 16 ∨ o = 17 ∨ o = 18 ∨ o = 19 by omega) with rfl | rfl | rfl | rfl | rfl | rfl | rfl | rfl | rfl | rfl | rfl | rfl | rfl | rfl | rfl | rfl | rfl | rfl | rfl | rfl
  all_goals
    simp only [doesL, fnV, Int.toNat_natCast, List.getElem?_cons_zero, List.getElem?_cons_succ, Option.some.injEq, Value.func.injEq, Fn.func.injEq, and_true] at hF
    subst hF
  · -- ret
    by_cases hr0 : s.rest = []
    · refine (ret_last w h hfn hr0 _ n _ a b c ga hml (by omega) ⟨by omega, by omega⟩ ⟨by omega, by omega⟩).mono ?_
      rintro e w' ⟨rfl, k, o⟩
      have heb := h.own i.eb (by simp [Img.blocks])
      refine ⟨k.below B h.low (fun x hx e => by omega), ?_⟩
      have hd : doP m lim s ⟨((0 : Nat) : Int), a, b, c, n⟩ = .done (s.top.rg (a : Int)) (s.use - sizeOfFn m s.top.fn) s.mf s.mw := by
        simp [doP, hr0]
      rw [hd]
      exact ⟨rfl, h.kept.chg k (fun x e => by rw [e]; simp [Img.blocks]) (fun x hx => .inl hx), _, _, o⟩
    · obtain ⟨r, cf, hs⟩ : ∃ r cf, s.rest = r ++ [cf] := ⟨_, _, (List.dropLast_concat_getLast hr0).symm⟩
      have hlen := h.frames.len
      obtain ⟨hrr, hc, hi⟩ : ∃ hrr hc, i.hr = hrr ++ [hc] := ⟨_, _, (List.dropLast_concat_getLast (show i.hr ≠ [] from fun e => by rw [e, hs] at hlen; simp at hlen)).symm⟩
      obtain ⟨k0, k1, k2⟩ := hlk r cf hs
      obtain ⟨k, hk⟩ := Int.eq_ofNat_of_zero_le k0
      have hrlen : r.length ≤ 1000000 := by rw [hs] at hdep; simp at hdep; omega
      refine (ret_more w h hfn hi hs _ n _ a b c k ga hk (by omega) hml k2 (by omega) (by omega) ⟨by omega, by omega⟩ ⟨by omega, by omega⟩).mono ?_
      rintro e w' ⟨rfl, kc, o⟩
      have heb := h.own i.eb (by simp [Img.blocks])
      have hcb := h.own hc.rb (by simp [Img.blocks, hi, HFr.blocks])
      refine ⟨kc.below B h.low (fun x hx e => by omega), ?_⟩
      have hd : doP m lim s ⟨((0 : Nat) : Int), a, b, c, n⟩ = .next { rest := r, top := cf.put s.top.into (s.top.rg (a : Int)), use := s.use - sizeOfFn m s.top.fn, mf := s.mf, mw := s.mw } := by
        simp [doP, hs]
      rw [hd]
      rw [hk]
      exact ⟨rfl, { i with hr := hrr, ht := hc }, rfl, o⟩
  · exact (set_any _ _ _ _ _ _ _ _ w hf hr hml _ n _ a b c ga).mono fun e w' hp => keep_regs h hp (by simp [doP])
  · exact (move_any _ _ _ _ _ _ _ _ w hf hr hml _ n _ _ a b c ga gb).mono fun e w' hp => keep_regs h hp (by simp [doP, erb])
  · exact (sum_any _ _ _ _ _ _ _ _ w hf hr hml _ n _ _ _ a b c ga gb gc (by simp)).mono fun e w' hp => keep_regs h hp (by simp [doP, erb, erc])
  · exact (sum_any _ _ _ _ _ _ _ _ w hf hr hml _ n _ _ _ a b c ga gb gc (by simp)).mono fun e w' hp => keep_regs h hp (by simp [doP, erb, erc])
  · exact (sum_any _ _ _ _ _ _ _ _ w hf hr hml _ n _ _ _ a b c ga gb gc (by simp)).mono fun e w' hp => keep_regs h hp (by simp [doP, erb, erc])
  · -- div
    by_cases hz : s.top.regs.getD c 0 = 0
    · exact (div_trap _ _ _ _ _ _ _ _ w hf hr hml _ n _ _ _ a b c ga gb gc hz).mono fun e w' hp => trap_none h hp (by simp only [doP, erb, erc]; simp [hz, -List.getD_eq_getElem?_getD])
    · by_cases h1 : s.top.regs.getD b 0 = -9223372036854775808
      · by_cases h2 : s.top.regs.getD c 0 = -1
        · exact (quo_both _ _ _ _ _ _ _ _ w hf hr hml n _ _ _ a b c ga gb gc h1 h2 hap.1).mono fun e w' hp => keep_regs h hp (by simp only [doP, erb, erc]; simp [hz, -List.getD_eq_getElem?_getD])
        · exact (quo_least _ _ _ _ _ _ _ _ w hf hr hml n _ _ _ a b c ga gb gc hz h1 h2).mono fun e w' hp => keep_regs h hp (by simp only [doP, erb, erc]; simp [hz, -List.getD_eq_getElem?_getD])
      · exact (quo_plain _ _ _ _ _ _ _ _ w hf hr hml n _ _ _ a b c ga gb gc hz h1).mono fun e w' hp => keep_regs h hp (by simp only [doP, erb, erc]; simp [hz, -List.getD_eq_getElem?_getD])
  · by_cases hz : s.top.regs.getD c 0 = 0
    · exact (div_trap _ _ _ _ _ _ _ _ w hf hr hml _ n _ _ _ a b c ga gb gc hz).mono fun e w' hp => trap_none h hp (by simp only [doP, erb, erc]; simp [hz, -List.getD_eq_getElem?_getD])
    · by_cases h1 : s.top.regs.getD b 0 = -9223372036854775808
      · by_cases h2 : s.top.regs.getD c 0 = -1
        · exact (rem_both _ _ _ _ _ _ _ _ w hf hr hml n _ _ _ a b c ga gb gc h1 h2).mono fun e w' hp => keep_regs h hp (by simp only [doP, erb, erc]; simp [hz, -List.getD_eq_getElem?_getD])
        · exact (rem_least _ _ _ _ _ _ _ _ w hf hr hml n _ _ _ a b c ga gb gc hz h1 h2).mono fun e w' hp => keep_regs h hp (by simp only [doP, erb, erc]; simp [hz, -List.getD_eq_getElem?_getD])
      · exact (rem_plain _ _ _ _ _ _ _ _ w hf hr hml n _ _ _ a b c ga gb gc hz h1).mono fun e w' hp => keep_regs h hp (by simp only [doP, erb, erc]; simp [hz, -List.getD_eq_getElem?_getD])
  · by_cases hv : s.top.regs.getD b 0 < s.top.regs.getD c 0
    · exact (less_yes _ _ _ _ _ _ _ _ w hf hr hml n _ _ _ a b c ga gb gc hv).mono fun e w' hp => keep_regs h hp (by simp only [doP, erb, erc]; simp [numV, truthZ, hv, -List.getD_eq_getElem?_getD])
    · exact (less_no _ _ _ _ _ _ _ _ w hf hr hml n _ _ _ a b c ga gb gc hv).mono fun e w' hp => keep_regs h hp (by simp only [doP, erb, erc]; simp [numV, truthZ, hv, -List.getD_eq_getElem?_getD])
  · exact (equal_any _ _ _ _ _ _ _ _ w hf hr hml n _ _ _ a b c ga gb gc).mono fun e w' hp => keep_regs h hp (by simp only [doP, erb, erc]; simp [numV, truthZ, -List.getD_eq_getElem?_getD])
  · exact (not_any _ _ _ _ _ _ _ _ w hf hr hml _ n _ _ a b c ga gb).mono fun e w' hp => keep_regs h hp (by simp only [doP, erb]; simp)
  · -- load
    by_cases hi : 0 ≤ s.top.regs.getD b 0 + n ∧ s.top.regs.getD b 0 + n < s.top.words.length
    · exact (load_ok _ _ _ _ _ _ _ _ s.top.words w hf hr hw _ n _ _ _ a b c ga gb hml hnw vb64 n64 hi.1 (getD_some (by omega))).mono fun e w' hp => keep_regs h hp (by simp only [doP, erb]; simp [hi, -List.getD_eq_getElem?_getD])
    · exact (load_trap _ _ _ _ _ _ _ _ s.top.words w hf hr hw _ n _ _ a b c ga gb hml hnw vb64 n64 hi).mono fun e w' hp => trap_none h hp (by simp only [doP, erb]; simp [hi, -List.getD_eq_getElem?_getD])
  · by_cases hi : 0 ≤ s.top.regs.getD b 0 + n ∧ s.top.regs.getD b 0 + n < s.top.words.length
    · exact (store_ok _ _ _ _ _ _ _ _ s.top.words w hf hr hw _ n _ _ a b c ga gb hml hnw vb64 n64 hi.1 hi.2).mono fun e w' hp => keep_words h hp (by simp only [doP, era, erb]; simp [hi, -List.getD_eq_getElem?_getD])
    · exact (store_trap _ _ _ _ _ _ _ _ s.top.words w hf hr hw _ n _ _ a b c ga gb hml hnw vb64 n64 hi).mono fun e w' hp => trap_none h hp (by simp only [doP, erb]; simp [hi, -List.getD_eq_getElem?_getD])
  · by_cases h0 : 0 ≤ s.top.regs.getD a 0
    · by_cases h1 : s.top.regs.getD a 0 < n
      · exact (check_ok _ _ _ _ _ _ _ _ w hf hr hml _ n _ a b c ga h0 h1).mono fun e w' hp => keep_none h hp (by simp only [doP, era]; simp [h0, h1, -List.getD_eq_getElem?_getD])
      · exact (check_high _ _ _ _ _ _ _ _ w hf hr hml _ n _ a b c ga h0 h1).mono fun e w' hp => trap_none h hp (by simp only [doP, era]; simp [h0, h1, -List.getD_eq_getElem?_getD])
    · exact (check_low _ _ _ _ _ _ _ _ w hf hr hml _ n _ a b c ga (by omega)).mono fun e w' hp => trap_none h hp (by simp only [doP, era]; simp [h0, -List.getD_eq_getElem?_getD])
  · exact (jump_14 _ _ _ _ _ _ _ _ w hf hr hml n 0 0 a b c).mono fun e w' hp => keep_goto h hp (by simp [doP])
  · by_cases hv : s.top.regs.getD a 0 = 0
    · exact (jump_if_no _ _ _ _ _ _ _ _ w hf hr hml n 0 0 a b c (by rw [ga, hv])).mono fun e w' hp => keep_none h hp (by simp only [doP, era]; simp [hv, -List.getD_eq_getElem?_getD])
    · exact (jump_if _ _ _ _ _ _ _ _ w hf hr hml n _ 0 a b c ga hv).mono fun e w' hp => keep_goto h hp (by simp only [doP, era]; simp [hv, -List.getD_eq_getElem?_getD])
  · by_cases hv : s.top.regs.getD a 0 = 0
    · exact (jump_unless _ _ _ _ _ _ _ _ w hf hr hml n 0 0 a b c (by rw [ga, hv])).mono fun e w' hp => keep_goto h hp (by simp only [doP, era]; simp [hv, -List.getD_eq_getElem?_getD])
    · exact (jump_unless_no _ _ _ _ _ _ _ _ w hf hr hml n _ 0 a b c ga hv).mono fun e w' hp => keep_none h hp (by simp only [doP, era]; simp [hv, -List.getD_eq_getElem?_getD])
  · by_cases hv : s.top.regs.getD b 0 ≤ s.top.regs.getD a 0
    · exact (jump_count _ _ _ _ _ _ _ _ w hf hr hml n _ _ a b c ga gb hv).mono fun e w' hp => keep_goto h hp (by simp only [doP, era, erb]; simp [hv, -List.getD_eq_getElem?_getD])
    · exact (jump_count_no _ _ _ _ _ _ _ _ w hf hr hml n _ _ a b c ga gb hv).mono fun e w' hp => keep_none h hp (by simp only [doP, era, erb]; simp [hv, -List.getD_eq_getElem?_getD])
  · exact (step_any _ _ _ _ _ _ _ _ w hf hr hml _ n _ a b c ga hap.1).mono fun e w' hp => keep_step h hp (by simp only [doP, era]; simp)
  · -- call
    obtain ⟨n0, n1, n2⟩ := hcall rfl
    obtain ⟨k, rfl⟩ := Int.eq_ofNat_of_zero_le n0
    have hkl : k < m.funcs.length := by omega
    rw [Int.toNat_natCast] at n2
    refine (call_any w h _ a b c k _ hkl rfl (by omega) (by omega) hml h64 hlim hdep hu (hm.fn _ hkl) hm.few).mono ?_
    intro e w' hp
    have hargs : argsOf m s.top ⟨((19 : Nat) : Int), a, b, c, k⟩ = (s.top.regs.drop b).take (fnAt m k).params.length := by simp [argsOf]
    by_cases hfit : fitsB (fnAt m k).params ((s.top.regs.drop b).take (fnAt m k).params.length) = false
    · rw [if_pos hfit] at hp
      exact trap_none h hp (by simp only [doP, hargs, Int.toNat_natCast]; simp [hfit, -List.getD_eq_getElem?_getD])
    · rw [if_neg hfit] at hp
      by_cases hfull : 0 < lim ∧ lim ≤ (s.rest.length : Int) + 1
      · rw [if_pos hfull] at hp
        exact trap_none h hp (by simp only [doP, hargs, Int.toNat_natCast]; rw [if_neg hfit]; unfold PSt.depth; rw [if_pos hfull]; simp)
      · rw [if_neg hfull] at hp
        obtain ⟨rfl, hb, i', hi', hE'⟩ := hp
        refine ⟨hb, ?_⟩
        have hd : doP m lim s ⟨((19 : Nat) : Int), a, b, c, k⟩ = .next (enterP m (s.rest ++ [s.top]) s.use s.mf s.mw k a ((s.top.regs.drop b).take (fnAt m k).params.length)) := by
          simp only [doP, hargs, Int.toNat_natCast]; rw [if_neg hfit]; unfold PSt.depth; rw [if_neg hfull]; simp
        rw [hd]
        exact ⟨rfl, i', hi', hE'⟩
end Go.Proofs.YtgpdggjpbmgegaaDoor
