/- Package pack: reading of numbers. -/
import Derived.Test.YtgpdggjpbmgegaaDoorPkB
import Derived.Deep.RegionLawGrows
namespace Go.Proofs.YtgpdggjpbmgegaaDoor
open Go.RowKit
set_option linter.unusedVariables false
set_option linter.unusedSimpArgs false


/-- what is read back of the first i bytes -/
def accZ (n : Int) (i : Nat) : Int := IntKind.i64.wrap (n % 2 ^ (8 * i))
theorem accZ_zero (n : Int) : accZ n 0 = 0 := by simp [accZ, IntKind.wrap_i64, Int.emod_one]
theorem i64_ofInt_wrap (v : Int) : BitVec.ofInt 64 (IntKind.i64.wrap v) = BitVec.ofInt 64 v := by
  apply BitVec.eq_of_toNat_eq
  simp only [BitVec.toNat_ofInt]
  rw [IntKind.wrap_i64]
  omega
theorem i64_wrap64 (x : Int) : IntKind.i64.wrap x = wrap64 x := IntWalk.i64_left x
theorem or_join (i : Nat) (x c : Int) (hi : i ≤ 7) (hx0 : 0 ≤ x) (hx : x < 2 ^ (8 * i)) (hc0 : 0 ≤ c) (hc : c < 256) : bits .or .i64 x (IntKind.i64.wrap (c * 2 ^ (8 * i))) = IntKind.i64.wrap (x + c * 2 ^ (8 * i)) := by
  obtain ⟨X, rfl⟩ := Int.eq_ofNat_of_zero_le hx0
  obtain ⟨C, rfl⟩ := Int.eq_ofNat_of_zero_le hc0
  have hX : X < 2 ^ (8 * i) := by exact_mod_cast hx
  have hC : C < 256 := by omega
  have hp : 2 ^ (8 * i) ≤ 2 ^ 56 := Nat.pow_le_pow_right (by decide) (by omega)
  have hX2 : X < 2 ^ 64 := by omega
  have hV : C * 2 ^ (8 * i) < 2 ^ 64 := by
    have h1 : C * 2 ^ (8 * i) ≤ 255 * 2 ^ 56 := Nat.mul_le_mul (by omega) hp
    omega
  have e1 : ((C : Int) * 2 ^ (8 * i)) = ((C * 2 ^ (8 * i) : Nat) : Int) := by simp
  have e2 : X ||| C * 2 ^ (8 * i) = X + C * 2 ^ (8 * i) := by
    rw [Nat.or_comm, Nat.mul_comm, ← Nat.two_pow_add_eq_or_of_lt hX C]; omega
  unfold bits
  show IntKind.i64.wrap (((BitVec.ofInt 64 (X : Int) ||| BitVec.ofInt 64 (IntKind.i64.wrap ((C : Int) * 2 ^ (8 * i)))).toNat : Nat) : Int) = _
  rw [i64_ofInt_wrap, e1, BitVec.ofInt_natCast, BitVec.ofInt_natCast, BitVec.toNat_or, BitVec.toNat_ofNat, BitVec.toNat_ofNat, Nat.mod_eq_of_lt hX2, Nat.mod_eq_of_lt hV, e2]
  simp
theorem acc_id (n : Int) (i : Nat) (hi : i ≤ 7) : accZ n i = n % 2 ^ (8 * i) := by
  unfold accZ
  have hp : (0 : Int) < 2 ^ (8 * i) := Int.pow_pos (by decide)
  have h1 := Int.emod_nonneg n (Int.ne_of_gt hp)
  have h2 := Int.emod_lt_of_pos n hp
  have h3 : (2 : Int) ^ (8 * i) ≤ 2 ^ 56 := by
    have : (2 ^ (8 * i) : Nat) ≤ 2 ^ 56 := Nat.pow_le_pow_right (by decide) (by omega)
    exact_mod_cast this
  rw [IntKind.wrap_i64]
  omega
theorem acc_step (n : Int) (i : Nat) (hi : i ≤ 7) : bits .or .i64 (accZ n i) (IntKind.i64.wrap (byteZ n i * 2 ^ (8 * i))) = accZ n (i + 1) := by
  have hp : (0 : Int) < 2 ^ (8 * i) := Int.pow_pos (by decide)
  have h1 := Int.emod_nonneg n (Int.ne_of_gt hp)
  have h2 := Int.emod_lt_of_pos n hp
  have hb := byteZ_bd n i
  rw [acc_id n i hi, or_join i _ _ hi h1 h2 hb.1 hb.2]
  unfold accZ byteZ
  congr 1
  have e : (2 : Int) ^ (8 * (i + 1)) = 2 ^ (8 * i) * 256 := by rw [Nat.mul_add, Int.pow_add]; rfl
  rw [e]
  generalize (2 : Int) ^ (8 * i) = p at *
  have hd := Int.emod_add_mul_ediv n p
  have hd2 := Int.emod_add_mul_ediv (n / p) 256
  have e3 : n % (p * 256) = n % p + p * (n / p % 256) := by
    have q : n = n % p + p * (n / p % 256) + p * 256 * (n / p / 256) := by
      have : p * (n / p) = p * (n / p % 256) + p * 256 * (n / p / 256) := by
        rw [Int.mul_assoc, ← Int.mul_add, hd2]
      omega
    have r0 : 0 ≤ n % p + p * (n / p % 256) := by
      have := Int.mul_nonneg (Int.le_of_lt hp) (Int.emod_nonneg (n / p) (by decide : (256 : Int) ≠ 0))
      omega
    have r1 : n % p + p * (n / p % 256) < p * 256 := by
      have h5 : n / p % 256 ≤ 255 := by omega
      have h6 : p * (n / p % 256) ≤ p * 255 := Int.mul_le_mul_of_nonneg_left h5 (Int.le_of_lt hp)
      omega
    conv => lhs; rw [q]
    rw [Int.add_mul_emod_self_left]
    exact Int.emod_eq_of_lt r0 r1
  rw [e3, Int.mul_comm p]
theorem acc_end (n : Int) (k : Nat) (h : (k = 8 ∧ In64 n) ∨ (k ≤ 7 ∧ 0 ≤ n ∧ n < 2 ^ (8 * k))) : accZ n k = n := by
  rcases h with ⟨rfl, h⟩ | ⟨h1, h2, h3⟩
  · unfold accZ
    unfold In64 at h
    rw [IntKind.wrap_i64]
    omega
  · rw [acc_id n k h1]; exact Int.emod_eq_of_lt h2 h3

/-- a reader of bytes in memory: where it lies, what it reads, where it stands -/
structure RdAt (w : World) (rk bb cap : Nat) (bs : List Int) (at_ : Nat) : Prop where
  own : Own w rk [.slice (some ⟨bb, 0, none⟩) bs.length cap, .int .i64 at_, .int .i64 0, .int .i64 0]
  byte : ∀ j, j < bs.length → w.cell? ⟨bb, j, none⟩ = some (.int .u8 (bs.getD j 0))
  bl : bb < w.heap.size
  ne : bb ≠ rk
  cap : bs.length ≤ cap
  len : bs.length ≤ 1048576
theorem RdAt.keep {w w' : World} {rk bb cap : Nat} {bs : List Int} {at_ : Nat} (h : RdAt w rk bb cap bs at_) (c : Below w.heap.size w w') : RdAt w' rk bb cap bs at_ :=
  ⟨h.own.below c, fun j hj => by rw [(bcell c).1 bb j h.bl]; exact h.byte j hj, Nat.lt_of_lt_of_le h.bl c.size, h.ne, h.cap, h.len⟩
theorem RdAt.chg {S : Nat → Prop} {w w' : World} {rk bb cap : Nat} {bs : List Int} {at_ : Nat} (h : RdAt w rk bb cap bs at_) (c : Chg S w w') (h1 : ¬ S rk) (h2 : ¬ S bb) : RdAt w' rk bb cap bs at_ :=
  ⟨c.own h.own h1, fun j hj => by rw [World.cell?_of_block (c.block bb h.bl h2)]; exact h.byte j hj, Nat.lt_of_lt_of_le h.bl c.size, h.ne, h.cap, h.len⟩
theorem RdAt.move {w w' : World} {rk bb cap : Nat} {bs : List Int} {a b : Nat} (h : RdAt w rk bb cap bs a) (c : Chg (· = rk) w w') (ho : Own w' rk [.slice (some ⟨bb, 0, none⟩) bs.length cap, .int .i64 b, .int .i64 0, .int .i64 0]) : RdAt w' rk bb cap bs b :=
  ⟨ho, fun j hj => by rw [World.cell?_of_block (c.block bb h.bl h.ne)]; exact h.byte j hj, Nat.lt_of_lt_of_le h.bl c.size, h.ne, h.cap, h.len⟩

theorem RdAt.set {w w1 : World} {rk bb cap : Nat} {bs : List Int} {a : Nat} (h : RdAt w rk bb cap bs a) (hb : Below w.heap.size w w1) (n : Nat) : RdAt (w1.setCell ⟨rk, 1, none⟩ (.int .i64 ((a : Int) + n))) rk bb cap bs (a + n) := by
  have h1 := h.keep hb
  refine h1.move (Chg.setCell (S := fun x => x = rk) (Chg.refl _ _) (p := ⟨rk, 1, none⟩) (.inl rfl) _) ?_
  have q := h1.own.set 1 (.int .i64 ((a : Int) + n)) (by simp)
  simpa using q
theorem own4 {w : World} {k : Nat} {a b c d : Value} (h : Own w k [a, b, c, d]) : k < w.heap.size ∧ w.cell? ⟨k, 0, none⟩ = some a ∧ w.cell? ⟨k, 1, none⟩ = some b ∧ w.cell? ⟨k, 2, none⟩ = some c ∧ w.cell? ⟨k, 3, none⟩ = some d ∧ w.frozen? ⟨k, 1, none⟩ = false :=
  ⟨h.1, h.2.1 0 _ rfl, h.2.1 1 _ rfl, h.2.1 2 _ rfl, h.2.1 3 _ rfl, h.2.2 1⟩

set_option maxRecDepth 100000 in
set_option maxHeartbeats 2000000 in
theorem take_any (w : World) (rk bb cap : Nat) (bs : List Int) (at_ n : Nat) (h : RdAt w rk bb cap bs at_) (hn : at_ + n ≤ bs.length) (hn0 : 0 < n) (nz : Int) (hnz : nz = n) :
    Calls Tryd.prog 28 #[.pointer (some ⟨rk, 0, none⟩), .int .i64 nz] w fun e w' => e = .returned (.slice (some ⟨bb, at_, none⟩) n (cap - at_)) ∧ Chg (· = rk) w w' ∧ RdAt w' rk bb cap bs (at_ + n) := by
  subst hnz
  have o := own4 h.own
  have hl := h.len
  have hcap := h.cap
  have H := Lib.hid h; clear h
  have w1 : IntKind.i64.wrap ((bs.length : Int) - at_) = (bs.length : Int) - at_ := IntWalk.i64_in _ (by omega)
  have w2 : IntKind.i64.wrap ((at_ : Int) + n) = (at_ : Int) + n := IntWalk.i64_in _ (by omega)
  have w3 : IntKind.i64.wrap ((at_ : Int) + n - n) = (at_ : Int) := by rw [IntWalk.i64_in _ (by omega)]; omega
  have w4 : IntKind.i64.wrap (at_ : Int) = (at_ : Int) := IntWalk.i64_in _ (by omega)
  have d1 : decide ((bs.length : Int) - at_ < n) = false := by simp; omega
  go_enter Tryd.func28, Tryd.ntmps28
  go_wp2
  go_quiet (fail)
  go_wp2
  have c1 : ((at_ : Int) + n).toNat = at_ + n := by omega
  have c2 : (at_ : Int) ≤ (at_ : Int) + n := by omega
  have c3 : 0 ≤ (at_ : Int) + n := by omega
  have c4 : (at_ : Int) + n ≤ cap := by omega
  have c5 : at_ + n - at_ = n := by omega
  refine wp_still 15 (by kernel_rfl) (by kernel_rfl) ?_; simp only [List.take_succ_cons, List.take_zero, List.drop_succ_cons, List.drop_zero]; repeat (refine WS_step (fun K hK => ?_); go_simp; refine hK _ ?_; clear hK K)
  refine WS_nil ?_; go_wp2
  all_goals first
    | (exfalso; omega)
    | (refine bodyPost_ret (v := .slice (some ⟨bb, at_, none⟩) n (cap - at_)) (by simp [results, Tryd.results28, go_sem]) rfl ⟨rfl, ?_, ?_⟩
       · exact (by repeat (first | with_reducible exact Chg.refl _ _ | with_reducible assumption | with_reducible refine Chg.drew ?_ | with_reducible refine Chg.drewN ?_ _ | with_reducible refine Chg.alloc ?_ _ | with_reducible refine Chg.setCell ?_ (by first | with_reducible exact .inl rfl | exact .inl (.inl rfl) | exact .inl (.inr rfl) | exact .inr (by simp)) _ | (with_reducible refine Chg.trans ?_ (Chg.of (by first | with_reducible assumption | exact hF _)))))
       · exact (H.out.set (Below.drewN (Below.refl _ _) _) _).keep (Below.refl _ _).drew)

set_option maxRecDepth 100000 in
set_option maxHeartbeats 2000000 in
theorem rnumber_any (w : World) (rk bb cap : Nat) (bs : List Int) (at_ k : Nat) (n kz : Int) (hkz : kz = k) (h : RdAt w rk bb cap bs at_) (hk0 : 0 < k) (hk8 : k ≤ 8) (hn : at_ + k ≤ bs.length) (hb : ∀ i, i < k → bs.getD (at_ + i) 0 = byteZ n i) (hv : (k = 8 ∧ In64 n) ∨ (k ≤ 7 ∧ 0 ≤ n ∧ n < 2 ^ (8 * k))) :
    Calls Tryd.prog 31 #[.pointer (some ⟨rk, 0, none⟩), .int .i64 kz] w fun e w' => e = .returned (.int .i64 n) ∧ Chg (· = rk) w w' ∧ RdAt w' rk bb cap bs (at_ + k) := by
  subst hkz
  have HT := Lib.hid (take_any w rk bb cap bs at_ k h hn hk0 k rfl)
  have HE := Lib.hid (acc_end n k hv)
  have HB := Lib.hid hb; clear hb hv
  have hz := accZ_zero n
  have hl := h.len
  clear h
  go_enter Tryd.func31, Tryd.ntmps31
  go_wp2_with (go_at_call 28; refine HT.out.mono ?_; rintro e w1 ⟨rfl, hc1, hr1⟩)
  obtain ⟨wA, rfl⟩ : ∃ wo : World, wo = w1 := ⟨_, rfl⟩
  have hrl := hr1.bl
  have HR1 := Lib.hid hr1; clear hr1
  have HC1 := Lib.hid hc1; clear hc1
  go_loopw [5, 12] (fun v i wr => ∃ j : Nat, j ≤ k ∧ i = .int .i64 j ∧ v = .int .i64 (accZ n j) ∧ Below wA.heap.size wA wr) (fun v i _ => k - (intOf i).toNat)
  case atStart => exact ⟨0, Nat.zero_le _, rfl, by rw [hz], Below.refl _ _⟩
  case round =>
    obtain ⟨j, hj, rfl, rfl, hbel⟩ := hrel
    by_cases hlt : j < k
    · have d2 : (j : Int) < (k : Int) := by omega
      have hw1 : IntKind.i64.wrap ((j : Int) + 1) = (j : Int) + 1 := IntWalk.i64_in _ (by omega)
      have hw0 : IntKind.i64.wrap (j : Int) = (j : Int) := IntWalk.i64_in _ (by omega)
      have hw2 : IntKind.i64.wrap (8 * (j : Int)) = 8 * (j : Int) := IntWalk.i64_in _ (by omega)
      have hw3 : (0 : Int) ≤ 8 * (j : Int) := by omega
      have hbd := byteZ_bd n j
      have t0 : wr.cell? ⟨bb, at_ + j, none⟩ = some (.int .u8 (byteZ n j)) := by
        rw [(bcell hbel).1 bb _ hrl, HR1.out.byte _ (by omega), HB.out j hlt]
      have hst := acc_step n j (by omega)
      have hwb : IntKind.i64.wrap (byteZ n j) = byteZ n j := IntWalk.i64_in _ (by omega)
      have hmn : min (8 * j) 64 = 8 * j := by omega
      have HST := Lib.hid hst; clear hst
      generalize byteZ n j = bz at *
      go_wp2_with fail
      go_roundw
      case rel => exact ⟨j + 1, by omega, by simp, by rw [← HST.out, i64_wrap64], hbel⟩
      case measure => go_light; first | omega | (simp only [intOf]; omega)
    · have hjk : j = k := by omega
      subst hjk
      have d2 : ¬ (j : Int) < (j : Int) := by omega
      have he := HE.out
      rw [he]
      go_wp2
      go_ret
      go_light
      exact ⟨rfl, HC1.out.trans (Chg.of hbel), HR1.out.keep hbel⟩

set_option maxRecDepth 100000 in
set_option maxHeartbeats 2000000 in
theorem count_any (w : World) (rk bb cap : Nat) (bs : List Int) (at_ k : Nat) (n kz most er : Int) (hkz : kz = k) (h : RdAt w rk bb cap bs at_) (hk0 : 0 < k) (hk8 : k ≤ 7) (hn : at_ + k ≤ bs.length) (hb : ∀ i, i < k → bs.getD (at_ + i) 0 = byteZ n i) (h0 : 0 ≤ n) (h1 : n < 2 ^ (8 * k)) (h64 : n ≤ 1099511627776) (hm : n ≤ most) :
    Calls Tryd.prog 30 #[.pointer (some ⟨rk, 0, none⟩), .int .i64 kz, .int .i64 most, .int .i64 er] w fun e w' => e = .returned (.int .i64 n) ∧ Chg (· = rk) w w' ∧ RdAt w' rk bb cap bs (at_ + k) := by
  subst hkz
  have HN := Lib.hid (rnumber_any w rk bb cap bs at_ k n k rfl h hk0 (by omega) hn hb (.inr ⟨hk8, h0, h1⟩))
  have d1 : decide (most < n) = false := by simp; omega
  have w0 : IntKind.i64.wrap n = n := IntWalk.i64_in _ (by omega)
  clear hb h1
  go_enter Tryd.func30, Tryd.ntmps30
  go_wp2_with (go_at_call 31; refine HN.out.mono ?_; rintro e w1 ⟨rfl, hc1, hr1⟩; have o1 := own4 hr1.own)
  go_ret
  go_light
  exact ⟨rfl, hc1, hr1⟩
end Go.Proofs.YtgpdggjpbmgegaaDoor
