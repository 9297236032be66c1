/- dom.Tree, walked. -/
import Derived.Test.YteebpnbdihcfmaaDoorJ08
import Derived.Test.YteebpnbdihcfmaaDoorJ06
set_option linter.unusedVariables false
set_option linter.unusedSimpArgs false
set_option maxRecDepth 100000
set_option maxHeartbeats 20000000
namespace Go.Proofs.YteebpnbdihcfmaaDoor
open Go.RowKit
section
attribute [local go_sem] Oper.semAt_some
theorem order_len {f : PFunc} {l : List Nat} (h : OrderOk f l) (h0 : 0 < f.code.length) : l.length ≤ f.code.length :=
 len_below _ _ h.nodup (fun v hv => Rch.lt h0 ((h.mem v).1 hv))
theorem fill_get (n k : Nat) (hk : k < n) : (List.replicate k (-1 : Int) ++ List.replicate (n - k) 0)[k]? = some 0 := by
 rw [List.getElem?_append_right (by simp), List.length_replicate, Nat.sub_self, List.getElem?_replicate, if_pos (by omega)]
theorem fill_set (n k : Nat) (hk : k < n) : (List.replicate k (-1 : Int) ++ List.replicate (n - k) 0).set k (-1) = List.replicate (k + 1) (-1) ++ List.replicate (n - (k + 1)) 0 := by
 rw [List.set_append_right _ _ (by simp)];obtain ⟨m, hm⟩ : ∃ m, n - k = m + 1 := ⟨n - k - 1, by omega⟩
 rw [hm, show n - (k + 1) = m by omega, List.length_replicate, Nat.sub_self, List.replicate_succ, List.set_cons_zero, List.replicate_succ' (n := k), List.append_assoc];rfl
theorem tree_any (B : Nat) (hh : HF) (f : PFunc) (w : World) (hB : B ≤ w.heap.size) (hf : FuncOk B w hh f) (hn0 : 0 < f.code.length) (hn : f.code.length ≤ 1024) : Calls Tryd.prog 46 #[FuncVal hh f] w fun e w' => ∃ near nr rk, TreeOk f near nr rk ∧ FreshI w near e w' := by
 have hm1 := run_make_row' (P := Tryd.prog) 47 3 (.int .i64 0) 8 Tryd.underlying47 Tryd.infoI rfl .i64 .i64 f.code.length (by omega) (by omega);have hm2 := run_make_row' (P := Tryd.prog) 35 47 (.slice none 0 0) 24 Tryd.underlying35 Tryd.infoS rfl .i64 .i64 f.code.length (by omega) (by omega);rw [madeNums] at hm1;rw [madeNils] at hm2;have HF := Lib.hid hf;have HOrd := Lib.hid (fun w hB hf => order_any B hh f w hB hf hn0 hn);have HEd := Lib.hid (fun w => edges_any hh f w);have HG := Lib.hid (fun l hl => grf_of (f := f) (l := l) hl hn0);obtain ⟨pa, pl, pc, ca, cl, cc⟩ := hh;obtain ⟨h1, h2, ⟨hcl, hcm, hcx⟩, h4, h5⟩ := hf;dsimp only at *;subst hcl;clear h2 hcm hcx h1 h4 h5;have i1 : ¬ (f.code.length : Int) = 0 := by omega
 have i2 : ¬ (1024 : Int) < (f.code.length : Int) := by omega
 have i3 : ((f.code.length : Int) == 0) = false := by rw [beq_eq_false_iff_ne]; omega
 have i4 : decide ((1024 : Int) < (f.code.length : Int)) = false := by rw [decide_eq_false_iff_not]; omega
 unfold FuncVal at *;dsimp only at *;have hln : f.code.length ≤ 9223372036854775807 := by omega
 have OC0 : ∀ W : World, (W.alloc (.cells (Nums (List.replicate f.code.length 0)).toArray 3)).ownsRow 0 3 1 (.slice (some ⟨W.heap.size, 0, none⟩) f.code.length f.code.length) f.code.length (Nums (List.replicate f.code.length 0)) := fun W => by
  have := World.ownsRow_lit W (base := 0) (e := 3) (size := 1) (Nums (List.replicate f.code.length 0)).toArray f.code.length (Nat.zero_le _) (by unfold maxLen; omega) (by simp [Nums]);simpa using this
 have OS0 : ∀ W : World, (W.alloc (.cells (List.replicate f.code.length (Value.slice none 0 0)).toArray 47)).ownsRow 0 47 1 (.slice (some ⟨W.heap.size, 0, none⟩) f.code.length f.code.length) f.code.length (List.replicate f.code.length (Value.slice none 0 0)) := fun W => by
  have := World.ownsRow_lit W (base := 0) (e := 47) (size := 1) (List.replicate f.code.length (Value.slice none 0 0)).toArray f.code.length (Nat.zero_le _) (by unfold maxLen; omega) (by simp);simpa using this
 refine (callsIn_wide (n := 3)).1 ?_;refine callsIn_of_wp_marks Tryd.func46 rfl trivial ?_ rfl;refine wpIn_wide.2 ?_;simp only [Tryd.ntmps46, List.size_toArray, List.length_cons, List.length_nil, Nat.reduceAdd, Nat.reduceSub, Array.replicate_succ, Array.replicate_zero, List.push_toArray, List.append_toArray, List.nil_append, List.cons_append];go_wp2;go_step3;go_wp2;generalize hW0 : World.alloc _ _ = W0;have hb0 : Below w.heap.size w W0 := by rw [← hW0]; exact bel
 have OB : Own W0 w.heap.size [.string f.name, .slice pa pl pc, .int .i64 f.regs, .int .i64 f.words, .slice ca f.code.length cc] := by rw [← hW0]; exact ((Own.new _ _ _).alloc _).alloc _
 have OR : W0.ownsRow 0 3 1 (.slice (some ⟨w.heap.size + 1, 0, none⟩) f.code.length f.code.length) f.code.length (Nums (List.replicate f.code.length 0)) := by
  rw [← hW0];have := (OC0 (w.alloc (.cells #[.string f.name, .slice pa pl pc, .int .i64 f.regs, .int .i64 f.words, .slice ca f.code.length cc] 43))).alloc (.cells (Nums (List.replicate f.code.length 0)).toArray 3);simpa using this
 have ON : W0.ownsRow 0 3 1 (.slice (some ⟨w.heap.size + 1 + 1, 0, none⟩) f.code.length f.code.length) f.code.length (Nums (List.replicate f.code.length 0)) := by
  rw [← hW0];have := OC0 ((w.alloc (.cells #[.string f.name, .slice pa pl pc, .int .i64 f.regs, .int .i64 f.words, .slice ca f.code.length cc] 43)).alloc (.cells (Nums (List.replicate f.code.length 0)).toArray 3));simpa using this
 have hz0 : W0.heap.size = w.heap.size + 3 := by rw [← hW0]; simp
 clear hW0 hm1 OC0;have HB := Lib.hid OB; have HR := Lib.hid OR; have hb0' := Lib.hid hb0; have hz0' := Lib.hid hz0;clear OB OR;go_loopw [38] (fun i wr => ∃ k : Nat, k ≤ f.code.length ∧ i = .int .i64 k ∧ wr.heap.size = w.heap.size + 3 ∧ Hid (Chg (· = w.heap.size + 1 + 1) W0 wr) ∧ Hid (wr.ownsRow 0 3 1 (.slice (some ⟨w.heap.size + 1 + 1, 0, none⟩) f.code.length f.code.length) f.code.length (Nums (List.replicate k (-1) ++ List.replicate (f.code.length - k) 0)))) (fun i _ => f.code.length - (intOf i).toNat)
 case atStart => exact ⟨0, Nat.zero_le _, rfl, hz0, Lib.hid (Chg.refl _ _), Lib.hid (by simpa using ON)⟩
 case round =>
  clear hb0 ON hz0;obtain ⟨k, hk, rfl, hz, hC, hN⟩ := hrel;by_cases hlt : k < f.code.length
  ·have d2 : (k : Int) < (f.code.length : Int) := by omega
   have hwk : IntKind.i64.wrap ((k : Int) + 1) = (k : Int) + 1 := IntWalk.i64_in _ (by omega);have f0 := hN.out.frozenAt k;have c0 := row_cell hN.out (Nums_some (fill_get _ _ hlt));have hst : Chg (· = w.heap.size + 1 + 1) wr (wr.setCell ⟨w.heap.size + 1 + 1, k, none⟩ (.int .i64 (-1))) := Chg.setCell (S := (· = w.heap.size + 1 + 1)) (Chg.refl _ _) (p := ⟨w.heap.size + 1 + 1, k, none⟩) (Or.inl rfl) _;have R2 := row_set hN.out k (.int .i64 (-1));rw [Nums_set, fill_set _ _ hlt] at R2;have HC2 := Lib.hid (hC.out.trans hst); have HR2 := Lib.hid R2; clear R2 hst;go_wp2
   go_roundw
   case rel => exact ⟨k + 1, by omega, by simp, by simpa using hz, HC2, HR2⟩
   case measure => go_light; first | omega | (simp only [intOf]; omega)
  ·have hkk : k = f.code.length := by omega
   subst hkk;have d2 : ¬ (f.code.length : Int) < (f.code.length : Int) := by omega
   have N1 := hN.out;rw [Nat.sub_self, List.replicate_zero, List.append_nil] at N1;have B1 := hC.out.own HB.out (by omega);have R1 := row_chg hC.out HR.out (fun q hq h => by have : w.heap.size + 1 = q := (by simpa [Value.ownBlock] using hq); omega);have hb1 : Below w.heap.size w wr := hb0'.out.trans (hC.out.below _ (by rw [hz0'.out]; omega) (fun k hk e => by omega));have HF1 := Lib.hid (HF.out.same (Same.of hb1 hB));have HN1 := Lib.hid N1; have HB1 := Lib.hid B1; have HR1 := Lib.hid R1;clear N1 B1 R1 hN hC HB HR hb0' hz0' HF;have b5 := own5 HB1.out;go_wp2_with (first | (go_at_call 61; refine (HOrd.out _ (by omega) HF1.out).mono ?_; rintro e w2 ⟨l, hl, ov, rfl, hb2, hr2, hf2, hn2⟩; obtain ⟨lb, lc, rfl, hlc1, hlc2, hlb⟩ := row_pos hr2 (by have := hl.head; cases l with | nil => simp at this | cons a t => simp [toI])) | fail)
   have hz2 := hb2.size;have hlb2 := hf2 lb rfl;have hlt2 : (toI l).length = l.length := by simp [toI]
   have hln2 : l.length ≤ f.code.length := order_len hl hn0;rw [hlt2] at hr2 ⊢;have HF2 := Lib.hid (HF1.out.same (Same.of hb2 (by omega)));have HB2 := Lib.hid (HB1.out.below hb2);have HR2 := Lib.hid (row_below hb2 HR1.out);have HN2 := Lib.hid (row_below hb2 HN1.out);have HL2 := Lib.hid hr2;have HO := Lib.hid hl;have hb2' : Below w.heap.size w w2 := bel;clear HF1 HB1 HR1 HN1 hr2 hl hn2 hf2 b5 HOrd hlt2;go_wp2;go_loopw [49] (fun i wx => ∃ k : Nat, k ≤ l.length ∧ i = .int .i64 k ∧ wx.heap.size = w2.heap.size ∧ Hid (Chg (· = w.heap.size + 1) w2 wx) ∧ Hid (wx.ownsRow 0 3 1 (.slice (some ⟨w.heap.size + 1, 0, none⟩) f.code.length f.code.length) f.code.length (Nums (rankTo f.code.length l k)))) (fun i _ => l.length - (intOf i).toNat)
   case atStart => exact ⟨0, Nat.zero_le _, rfl, rfl, Lib.hid (Chg.refl _ _), Lib.hid (by rw [rankTo_zero]; exact HR2.out)⟩
   case round =>
    obtain ⟨k, hk, rfl, hzx, hC, hR⟩ := hrel;by_cases hlt : k < l.length
    ·have d2 : (k : Int) < (l.length : Int) := by omega
     have hwk : IntKind.i64.wrap ((k : Int) + 1) = (k : Int) + 1 := IntWalk.i64_in _ (by omega);have L1 := row_chg hC.out HL2.out (fun q hq h => by have : lb = q := (by simpa [Value.ownBlock] using hq); omega);have hge : (toI l)[k]? = some (l[k]'hlt : Int) := by simp [toI, hlt]
     have c0 := row_cell L1 (Nums_some hge);have hv : l[k]'hlt < f.code.length := Rch.lt hn0 ((HO.out.mem _).1 (List.getElem_mem hlt));have f0 := hR.out.frozenAt (l[k]'hlt);obtain ⟨x0, hx0⟩ : ∃ x0, (rankTo f.code.length l k)[l[k]'hlt]? = some x0 := ⟨_, List.getElem?_eq_getElem (by rw [rankTo_len]; exact hv)⟩
     have c1 := row_cell hR.out (Nums_some hx0);have R2 := row_set hR.out (l[k]'hlt) (.int .i64 (k : Int));rw [Nums_set, rankTo_succ _ _ HO.out.nodup k hlt hv] at R2;have hst : Chg (· = w.heap.size + 1) wr (wr.setCell ⟨w.heap.size + 1, l[k]'hlt, none⟩ (.int .i64 (k : Int))) := Chg.setCell (S := (· = w.heap.size + 1)) (Chg.refl _ _) (p := ⟨w.heap.size + 1, l[k]'hlt, none⟩) (Or.inl rfl) _;have HC2 := Lib.hid (hC.out.trans hst); have HR3 := Lib.hid R2; clear R2 hst hge hx0 L1;generalize l[k]'hlt = v at *;go_wp2
     go_roundw
     case rel => exact ⟨k + 1, by omega, by simp, by simpa using hzx, HC2, HR3⟩
     case measure => go_light; first | omega | (simp only [intOf]; omega)
    ·have hkk : k = l.length := by omega
     subst hkk;have d2 : ¬ (l.length : Int) < (l.length : Int) := by omega
     have hb3 : Below w.heap.size w wr := hb2'.trans (hC.out.below _ (by omega) (fun k hk e => by omega));have HF3 := Lib.hid (HF2.out.same (hC.out.same (by omega) (fun k hk e => by omega)));have HB3 := Lib.hid (hC.out.own HB2.out (by omega));have HN3 := Lib.hid (row_chg hC.out HN2.out (fun q hq h => by have : w.heap.size + 1 + 1 = q := (by simpa [Value.ownBlock] using hq); omega));have HL3 := Lib.hid (row_chg hC.out HL2.out (fun q hq h => by have : lb = q := (by simpa [Value.ownBlock] using hq); omega));have HR3 := hR;clear HF2 HB2 HR2 HN2 HL2 hR hC;have b5 := own5 HB3.out;go_upto_region 17 with (fail)
     have OSS := OS0 wr;simp only [List.toArray_replicate] at OSS;generalize hfb : wr.heap.size = fb at *;subst hzx;generalize w2.heap.size = fb at *;generalize hW5 : World.alloc (World.alloc _ _) _ = W5;have hz5 : W5.heap.size = fb + 2 := by rw [← hW5]; simp [hfb]
     have hb5 : Below fb wr W5 := by rw [← hW5]; exact ((Below.refl _ wr).alloc (by omega) _).alloc (by simp; omega) _
     have hb5w : Below w.heap.size w W5 := hb3.trans (hb5.mono (by omega));have hb5' : Below wr.heap.size wr W5 := by rw [hfb]; exact hb5
     have HF5 := Lib.hid (HF3.out.same (Same.of hb5' (by omega)));have HB5 := Lib.hid (HB3.out.below hb5');have HN5 := Lib.hid (row_below hb5' HN3.out);have HL5 := Lib.hid (row_below hb5' HL3.out);have HR5 := Lib.hid (row_below hb5' HR3.out);have HX5 : Hid (Own W5 (fb + 1) [.slice (some ⟨fb, 0, none⟩) f.code.length f.code.length]) := Lib.hid (by rw [← hW5]; exact Own.new' _ _ _ _ (by simp [hfb]));have HG5 : Hid (FromAt W5 (fb + 5) fb f.code.length (fromL []) (List.replicate f.code.length (.slice none 0 0))) := Lib.hid (by
      refine ⟨by rw [← hW5]; exact OSS.alloc _, by simp, fun v s hs => ?_, fun v s k hs hk => ?_, by omega, fun u v s t k hs ht hk _ => ?_⟩
      ·rw [List.getElem?_replicate] at hs;split at hs
       ·cases hs; exact World.ownsRow_nil _ _ _ _
       ·cases hs
      ·rw [List.getElem?_replicate] at hs;split at hs
       ·cases hs; cases hk
       ·cases hs
      ·rw [List.getElem?_replicate] at hs;split at hs
       ·cases hs; cases hk
       ·cases hs)
     clear HF3 HB3 HN3 HL3 HR3 OSS OS0 hm2 b5 hW5 hb5 hb5' hb3 hfb;have b5 := own5 HB5.out;unfold boxOf at HEd;go_wp2_with (first | (go_at_call 13; refine (HEd.out _).mono ?_; rintro e w4 ⟨rfl, hw4⟩) | fail)
     rw [← hw4];have hz4 : w4.heap.size = fb + 3 := by rw [hw4]; simp [hz5]
     have hb4 : Below W5.heap.size W5 w4 := by rw [hw4]; exact (Below.refl _ W5).alloc (by omega) _
     have X4 : Own w4 (fb + 2) [.string f.name, .slice pa pl pc, .int .i64 f.regs, .int .i64 f.words, .slice ca f.code.length cc] := by rw [hw4]; exact Own.new' _ _ _ _ (by omega)
     have HM4 : Hid (TMem f.code.length w w4 fb lb lc (rankTo f.code.length l l.length) (List.replicate f.code.length (-1)) (toI l) (fromL []) (List.replicate f.code.length (.slice none 0 0))) := Lib.hid
      ⟨hb5w.trans (hb4.mono (by omega)), by omega, HG5.out.below hb4, row_below hb4 HR5.out, row_below hb4 HN5.out, by have e : (toI l).length = l.length := (by simp [toI]); rw [e]; exact row_below hb4 HL5.out, HX5.out.below hb4, by omega, by omega⟩
     have HF4 := Lib.hid (HF5.out.same (Same.of hb4 (by omega)));have hl1 : w.heap.size + 3 ≤ lb := by omega
     have hl2 : lb < fb := by omega
     clear HF5 HB5 HN5 HL5 HR5 HX5 HG5 b5 hw4 hb4 hb5w hz5 HEd hb2' hb2 hz2 hlb hlb2;refine range_edges (OwnF fb f.code.length) (fun pre W => ∃ S, TMem f.code.length w W fb lb lc (rankTo f.code.length l l.length) (List.replicate f.code.length (-1)) (toI l) (fromL pre) S)
      B (w.heap.size + 3) (fb + 2) ⟨pa, pl, pc, ca, f.code.length, cc⟩ f rfl rfl hn0 hn (by omega) (by omega) HF4.out X4 ⟨?_, ?_, ?_⟩ ?_ ?_ ?_ ?_ ⟨_, HM4.out⟩ ?_ ?_
     ·rintro pre W k ⟨S, h⟩ hk; exact h.fr.ownLt hk
     ·rintro pre W W' k ⟨S, h⟩ hb hk; exact (OwnF.iff (hb.block fb (by have := h.sz; omega))).1 hk
     ·rintro pre W k ⟨S, h⟩ hk;rcases h.fr.ownGe hk with e | e <;> omega
     ·rintro pre W ⟨S, h⟩ hk;rcases h.fr.ownGe hk with e | e <;> omega
     ·rintro pre W W' ⟨S, h⟩ hb; exact ⟨S, h.below hb⟩
     ·rintro pre W W' ⟨S, h⟩ hc; rw [hz4] at hc; exact ⟨S, h.turn hc⟩
     ·rintro pre W W' k ⟨S, h⟩ hc; exact OwnF.iff (hc.block fb (.inl (by omega)))
     ·apply Exists.intro;constructor
      ·intro l' x W K hK;have HK := Lib.hid hK; clear hK;unfold encE;gi_wp2;exact HK.out
      ·rintro l' pre x W ⟨S, hT⟩ hok hsz;obtain ⟨v, hxv, hvn, hun⟩ := edges_nat f x (hok.subset (by simp));obtain ⟨u, y⟩ := x;dsimp only at hxv hun ⊢;subst hxv;obtain ⟨s, hs⟩ := hT.fr.at hvn;obtain ⟨sa, sc, rfl⟩ := hT.fr.form hs;have hlen : (fromL pre v).length ≤ 4096 := by
        have h1 := fromL_len pre v;have h2 := hok.length_le;have h3 := edges_len f;rw [List.length_append] at h2;omega
       gi_wp2;have hbx := own1 hT.box;have hc5 := hT.fr.cell hs;have hfl := row_ltB hT.fr.row;have hc6 : (W.alloc (.cells #[.int .i64 (u : Int)] 3)).cell? ⟨fb, v, none⟩ = some (.slice sa (fromL pre v).length sc) := (World.cell?_of_block (Below.heap_alloc _ _ _ hfl)).trans hc5;have d0 : (0 : Int) ≤ (v : Int) := by omega
       have d1 : (v : Int) < (f.code.length : Int) := by omega
       refine region_held_round (fun w' => w'.cell? ⟨fb + 1, 0, none⟩ = some (.slice (some ⟨fb, 0, none⟩) f.code.length f.code.length)) (by kernel_rfl) (by kernel_rfl) hbx.2.1 ?_;intro K0 hK0 hHeld
       (refine wpAnyH_take (i := 0) (v := ?_) rfl (by kernel_rfl) (by kernel_rfl) (by kernel_rfl) (fun _ _ _ h => h) (Or.inl ⟨by rfl, ?_⟩) (by assumption) ?_; rotate_left; (focus (intro w' hSw; (try dsimp only at hSw); go_simp; (try with_reducible rfl))); try simp only [Act.put, List.setIfInBounds_toArray, List.set_cons_zero, List.set_cons_succ])
       (refine wpAnyH_take (i := 1) (v := ?_) rfl (by kernel_rfl) (by kernel_rfl) (by kernel_rfl) (fun _ _ _ h => h) (Or.inl ⟨by rfl, ?_⟩) (by assumption) ?_; rotate_left; (focus (intro w' hSw; (try dsimp only at hSw); go_simp; (try with_reducible rfl))); try simp only [Act.put, List.setIfInBounds_toArray, List.set_cons_zero, List.set_cons_succ])
       (refine wpAnyH_take (i := 2) (v := ?_) rfl (by kernel_rfl) (by kernel_rfl) (by kernel_rfl) (fun _ _ _ h => h) (Or.inl ⟨by rfl, ?_⟩) (by assumption) ?_; rotate_left; (focus (intro w' hSw; (try dsimp only at hSw); go_simp; (try with_reducible rfl))); try simp only [Act.put, List.setIfInBounds_toArray, List.set_cons_zero, List.set_cons_succ])
       (refine wpAnyH_take (i := 3) (v := ?_) rfl (by kernel_rfl) (by kernel_rfl) (by kernel_rfl) (fun _ _ _ h => h) (Or.inl ⟨by rfl, ?_⟩) (by assumption) ?_; rotate_left; (focus (intro w' hSw; (try dsimp only at hSw); go_simp; (try with_reducible rfl))); try simp only [Act.put, List.setIfInBounds_toArray, List.set_cons_zero, List.set_cons_succ])
       (refine wpAnyH_take (i := 4) (v := ?_) rfl (by kernel_rfl) (by kernel_rfl) (by kernel_rfl) (fun _ _ _ h => h) (Or.inl ⟨by rfl, ?_⟩) (by assumption) ?_; rotate_left; (focus (intro w' hSw; (try dsimp only at hSw); go_simp; (try with_reducible rfl))); try simp only [Act.put, List.setIfInBounds_toArray, List.set_cons_zero, List.set_cons_succ])
       (refine wpAnyH_take (i := 6) (v := ?_) rfl (by kernel_rfl) (by kernel_rfl) (by kernel_rfl) (fun _ _ _ h => h) (Or.inl ⟨by rfl, ?_⟩) (by assumption) ?_; rotate_left; (focus (intro w' hSw; (try dsimp only at hSw); go_simp; (try with_reducible rfl))); try simp only [Act.put, List.setIfInBounds_toArray, List.set_cons_zero, List.set_cons_succ])
       refine wpAnyH_ready (rs := [5, 7]) (by kernel_rfl) (by simp) ?_;refine AllReadyH.cons rfl (fun K hK => ?_) (AllReadyH.cons rfl (fun K hK => ?_) AllReadyH.nil)
       all_goals go_simp
       refine hK.out _ _ ?_ (fun hHeld => ?_); (focus ((try dsimp only); any_goals (assumption))); clear hK K; try simp only [Act.put, List.setIfInBounds_toArray, List.set_cons_zero, List.set_cons_succ]
       (refine wpAnyH_ready (rs := [7]) (by kernel_rfl) (by simp) ?_; refine AllReadyH.cons rfl (fun K hK => ?_) AllReadyH.nil)
       go_simp
       refine hK.out _ _ ?_ (fun hHeld => ?_); (focus ((try dsimp only); any_goals (first | assumption | go_keep))); clear hK K; try simp only [Act.put, List.setIfInBounds_toArray, List.set_cons_zero, List.set_cons_succ]
       rotate_left;refine hK.out _ _ ?_ (fun hHeld => ?_); (focus ((try dsimp only); any_goals (first | assumption | go_keep))); clear hK K; try simp only [Act.put, List.setIfInBounds_toArray, List.set_cons_zero, List.set_cons_succ]
       (refine wpAnyH_ready (rs := [5]) (by kernel_rfl) (by simp) ?_; refine AllReadyH.cons rfl (fun K hK => ?_) AllReadyH.nil)
       go_simp
       refine hK.out _ _ ?_ (fun hHeld => ?_); (focus ((try dsimp only); any_goals (assumption))); clear hK K; try simp only [Act.put, List.setIfInBounds_toArray, List.set_cons_zero, List.set_cons_succ]
       all_goals
        (refine wpAnyH_ready (rs := [8]) (by kernel_rfl) (by simp) ?_; refine AllReadyH.cons rfl (fun K hK => ?_) AllReadyH.nil)
        refine step_app rfl (.tmp 72) (.tmp 74) 47 3 1 8 (.int .i64 0) rfl Tryd.underlying47 Tryd.infoI rfl (by decide) (.slice sa (fromL pre v).length sc) _ _ rfl (row_below (show Below W.heap.size W (W.alloc (.cells #[.int .i64 (u : Int)] 3)).drew from ((Below.refl _ W).alloc (Nat.le_refl _) _).drew) (hT.fr.each v _ hs)) ⟨W.heap.size, 0, none⟩ 1 1 (Nums [(u : Int)]) rfl rfl (src_own (show Own (W.alloc (.cells #[.int .i64 (u : Int)] 3)).drew W.heap.size _ from (Own.new W [.int .i64 (u : Int)] 3).drew)) (Nums_one _) (by unfold maxLen; omega) (by omega) (by decide) ?_;intro g6 c6 w6 hr6 hc6 hg6;have hc7 : Chg (fun k => (Value.slice sa (fromL pre v).length sc).ownBlock = some k) W w6 := (Chg.of (show Below W.heap.size W (W.alloc (.cells #[.int .i64 (u : Int)] 3)).drew from ((Below.refl _ W).alloc (Nat.le_refl _) _).drew)).trans hc6;have hg7 : ∀ k, (Value.slice (some ⟨g6, 0, none⟩) ((fromL pre v).length + 1) c6).ownBlock = some k → (Value.slice sa (fromL pre v).length sc).ownBlock = some k ∨ W.heap.size ≤ k := fun k hk => by
         have e : g6 = k := (by simpa [Value.ownBlock] using hk)
         subst e;rcases hg6 with h | h
         ·exact .inl h
         ·simp at h;exact .inr (by omega)
        obtain ⟨hT2, hK2⟩ := hT.push (by omega) hs hc7 hr6 hg7;have hnb : ∀ k, k < fb + 5 → ¬ (Value.slice sa (fromL pre v).length sc).ownBlock = some k := fun k hk e => by have := hT.fr.low v _ k hs e; omega
        have hB6 : w6.cell? ⟨fb + 1, 0, none⟩ = some (.slice (some ⟨fb, 0, none⟩) f.code.length f.code.length) := (hc7.cellAt 0 hbx.1 (hnb _ (by omega))).trans hbx.2.1;have hR6 := row_chg hc7 hT.fr.row (fun k hk => hnb k (by have e : fb = k := (by simpa [Value.ownBlock] using hk); omega));have hF6 := hR6.frozenAt v;have hE6 := row_cell hR6 hs;have hB7 : (w6.setCell ⟨fb, v, none⟩ (.slice (some ⟨g6, 0, none⟩) ((fromL pre v).length + 1) c6)).cell? ⟨fb + 1, 0, none⟩ = some (.slice (some ⟨fb, 0, none⟩) f.code.length f.code.length) := by
         rw [World.cell?_setCell_far _ _ _ _ (by simp)]; exact hB6
        have HT2 := Lib.hid hT2; have HK2 := Lib.hid hK2; clear hT2 hK2 hR6 hg7 hnb hc7 hr6 hc6;refine hK.out _ _ ?_ (fun hHeld => ?_); (focus ((try dsimp only); any_goals (assumption))); clear hK K; try simp only [Act.put, List.setIfInBounds_toArray, List.set_cons_zero, List.set_cons_succ]
        (refine wpAnyH_ready (rs := [9]) (by kernel_rfl) (by simp) ?_; refine AllReadyH.cons rfl (fun K hK => ?_) AllReadyH.nil)
        go_simp
        refine hK.out _ _ ?_ (fun hHeld => ?_); (focus ((try dsimp only); any_goals (assumption))); clear hK K; try simp only [Act.put, List.setIfInBounds_toArray, List.set_cons_zero, List.set_cons_succ]
        (refine wpAnyH_ready (rs := [10]) (by kernel_rfl) (by simp) ?_; refine AllReadyH.cons rfl (fun K hK => ?_) AllReadyH.nil)
        go_simp
        refine hK.out _ _ ?_ (fun hHeld => ?_); (focus ((try dsimp only); any_goals (assumption))); clear hK K; try simp only [Act.put, List.setIfInBounds_toArray, List.set_cons_zero, List.set_cons_succ]
        refine anyH_done (by kernel_rfl) ?_;refine hK0.out _ _ ?_;gi_wp2;refine ⟨fun k h1 h2 => HK2.out.1.block k (by omega) (fun ho => by rcases hT.fr.ownGe ho with e | e <;> omega), HK2.out, S.set v (.slice (some ⟨g6, 0, none⟩) ((fromL pre v).length + 1) c6), ?_⟩;have hfl2 : fromL (pre ++ [(u, (v : Int))]) = (fun k => if k = v then fromL pre v ++ [(u : Int)] else fromL pre k) := by
         funext k;rw [fromL_snoc];by_cases e : k = v
         ·rw [if_pos e, if_pos e, e]
         ·rw [if_neg e, if_neg e]
        rw [hfl2];exact HT2.out
     ·rintro W7 ⟨S, hT⟩ hD;rw [hz4] at hD ⊢;have f0 := hT.near.frozenAt 0;have c0 := row_cell hT.near (j := 0) (Nums_some (show (List.replicate f.code.length (-1 : Int))[0]? = some (-1) by rw [List.getElem?_replicate, if_pos hn0]));have d0 : (0 : Int) < (f.code.length : Int) := by omega
      have hlp : 0 < l.length := by have := HO.out.head; cases l with | nil => simp at this | cons a t => simp
      have hlI : (toI l).length = l.length := by simp [toI]
      have HT := Lib.hid (hT.setNear 0 0);have HN := Lib.hid (nrOf_first f.code.length hn0 ▸ NInv.start (HG.out l HO.out));have hD2 : (W7.setCell ⟨w.heap.size + 1 + 1, 0, none⟩ (.int .i64 0)).heap[fb + 3]? = some (.deferred (some [])) := by
       rw [← hD];exact (Chg.setCell (S := (· = w.heap.size + 1 + 1)) (Chg.refl _ _) (p := ⟨w.heap.size + 1 + 1, 0, none⟩) (Or.inl rfl) _).block _ (by have := (Array.getElem?_eq_some_iff.1 hD).1; exact this) (by omega)
      have HD := Lib.hid hD2;clear hD hD2 HM4 HF4 X4 hT;go_wp2;go_step3;go_wp2;generalize W7.setCell ⟨w.heap.size + 1 + 1, 0, none⟩ (.int .i64 0) = W8 at *
      go_loopg [] (msr f.code.length l.idxOf ((List.replicate f.code.length (-1)).set 0 0)) (fun k wr => ∃ L : List Int, k = msr f.code.length l.idxOf L ∧ L.length = f.code.length ∧ Hid (NInv (EdgeP f) (Rch f) l.idxOf (nrOf L) 1) ∧ Hid (TMem f.code.length w wr fb lb lc (rankTo f.code.length l l.length) L (toI l) (fromL (edgesL f)) S) ∧ Hid (wr.heap[fb + 3]? = some (.deferred (some []))))
      case atStart => exact ⟨_, rfl, by simp, HN, HT, HD⟩
      case round =>
       clear HN HT HD f0 c0;rename_i wq;obtain ⟨L, rfl, hL, hN, hT, hD⟩ := hrel;have HS := Lib.hid (Swp.start HO.out hn0 hL hN.out);have lr := hT.out.lrow;rw [hlI] at lr;have HL := Lib.hid lr; clear lr;have hw1 : IntKind.i64.wrap ((l.length : Int) - 1) = (l.length : Int) - 1 := IntWalk.i64_in _ (by omega);have hlc2' : lc ≤ 9223372036854775807 := hlc2;have hlc1' : l.length ≤ lc := by rw [hlI] at hlc1; exact hlc1
       generalize hm : msr f.code.length l.idxOf L = m at *;clear hN HL;by_cases hlc : lc = 1
       ·subst hlc;go_wp2;go_loopw [82, 12] (fun vi vc wx => ∃ (i : Nat) (c : Bool) (L : List Int), vi = .int .i64 i ∧ vc = .bool c ∧ i < l.length ∧ Hid (Swp f l m i c L) ∧ Hid (TMem f.code.length w wx fb lb 1 (rankTo f.code.length l l.length) L (toI l) (fromL (edgesL f)) S) ∧ Hid (wx.heap[fb + 3]? = some (.deferred (some [])))) (fun vi _ _ => l.length - (intOf vi).toNat)
        case atStart => exact ⟨0, false, L, rfl, rfl, hlp, HS, hT, hD⟩
        case round =>
         clear HS hT hD hL hm;rename_i wq2;obtain ⟨i, c, L, rfl, rfl, hi, HS, hT, hD⟩ := hrel;by_cases hlt : i + 1 < l.length
         ·exfalso; omega
         ·have d2 : ¬ (i : Int) < (l.length : Int) - 1 := by omega
          cases c
          ·have f0 := hT.out.near.frozenAt 0;have c0 := row_cell hT.out.near (Nums_some (nrOf_some L 0 (by rw [HS.out.len]; exact hn0)));go_wp2
           try rw [Exit.noGoto_ret]
           go_wp2;have hTn := hT.out.setNear 0 (-1);have hD3 : (wr.setCell ⟨w.heap.size + 1 + 1, 0, none⟩ (.int .i64 (-1))).heap[fb + 3]? = some (.deferred (some [])) := by
            rw [← hD.out];exact (Chg.setCell (S := (· = w.heap.size + 1 + 1)) (Chg.refl _ _) (p := ⟨w.heap.size + 1 + 1, 0, none⟩) (Or.inl rfl) _).block _ (Array.getElem?_eq_some_iff.1 hD.out).1 (by omega)
           have hTt := hTn.turn (Turn.put (b := fb + 3) _ (fb + 3) _ (.deferred none) (Nat.le_refl _) hD3 rfl);have hok := HS.out.fin HO.out hn0 hlt;refine ⟨by simp, .inl ⟨_, _, rfl, run_takeDeferred hD3, ?_⟩⟩;refine ⟨_, results_tmp rfl _ _ _, _, _, _, hok, _, rfl, hTt.bel, ?_, ?_, ?_⟩
           ·rw [hok.len]; exact hTt.near
           ·intro k hk;have e : w.heap.size + 1 + 1 = k := (by simpa [Value.ownBlock] using hk)
            omega
           ·intro e;have := hok.len;rw [e] at this;change 0 = f.code.length at this;omega
          ·obtain ⟨hN2, hm2⟩ := HS.out.more HO.out hlt;have HN2 := Lib.hid hN2; clear hN2;have hL2 := HS.out.len;go_wp2
           go_roundg (msr f.code.length l.idxOf L)
           case measure => exact hm2
           case rel => exact ⟨L, rfl, hL2, HN2, hT, hD⟩
       ·go_wp2;go_loopw [82, 12] (fun vi vc wx => ∃ (i : Nat) (c : Bool) (L : List Int), vi = .int .i64 i ∧ vc = .bool c ∧ i < l.length ∧ Hid (Swp f l m i c L) ∧ Hid (TMem f.code.length w wx fb lb lc (rankTo f.code.length l l.length) L (toI l) (fromL (edgesL f)) S) ∧ Hid (wx.heap[fb + 3]? = some (.deferred (some [])))) (fun vi _ _ => l.length - (intOf vi).toNat)
        case atStart => exact ⟨0, false, L, rfl, rfl, hlp, HS, hT, hD⟩
        case round =>
         clear HS hT hD hL hm;rename_i wq2;obtain ⟨i, c, L, rfl, rfl, hi, HS, hT, hD⟩ := hrel;by_cases hlt : i + 1 < l.length
         ·have d2 : (i : Int) < (l.length : Int) - 1 := by omega
          have d2' : i < l.length - 1 := by omega
          have d2'' : decide (i < l.length - 1) = true := decide_eq_true d2';have hwi : IntKind.i64.wrap ((i : Int) + 1) = (i : Int) + 1 := IntWalk.i64_in _ (by omega);have hge : (toI l)[1 + i]? = some (l[i + 1]'hlt : Int) := by rw [show 1 + i = i + 1 by omega]; simp [toI, hlt]
          have lr := hT.out.lrow;rw [hlI] at lr;have c0 := row_cell lr (Nums_some hge);have hv := order_at HO.out hn0 hlt;have hbx := own1 hT.out.box;obtain ⟨s, hs⟩ := hT.out.fr.at hv.2.2.2;obtain ⟨sa, sc, rfl⟩ := hT.out.fr.form hs;have c5 := hT.out.fr.cell hs;clear lr hge;have HStp := Lib.hid (fun d hd => HS.out.stp HO.out hn0 hlt (d := d) hd);have HSame := Lib.hid (fun d hd he => HS.out.same HO.out hn0 hlt (d := d) hd he);have HChg := Lib.hid (fun d hd he => HS.out.chg HO.out hn0 hlt (d := d) hd he);have HInv := Lib.hid HS.out.inv;have hLl := HS.out.len;obtain ⟨hv1, hv2, hv3, hv4⟩ := hv;have hd1 : (0 : Int) ≤ (l[i + 1]'hlt : Int) := by omega
          have hd2 : ((l[i + 1]'hlt : Nat) : Int) < (f.code.length : Int) := by omega
          generalize l[i + 1]'hlt = v at *;obtain ⟨us, hus⟩ : ∃ us, us = fromL (edgesL f) v := ⟨_, rfl⟩
          have hul : us.length ≤ 4096 := by
           have h1 := fromL_len (edgesL f) v;have h3 := edges_len f;rw [hus]; omega
          have hmem : ∀ x ∈ us, ∃ u : Nat, x = (u : Int) ∧ u < f.code.length := fun x hx => by
           rw [hus, fromL_mem] at hx;obtain ⟨u, e, h, _⟩ := hx;exact ⟨u, e, h⟩
          have hum : ∀ (j : Nat) (hj : j < us.length), ∃ u : Nat, us[j] = (u : Int) ∧ u < f.code.length := fun j hj => hmem _ (List.getElem_mem hj);clear hmem;have HM := Lib.hid hum; clear hum;have hrow := hT.out.fr.each v _ hs;rw [← hus] at hrow HStp HSame HChg hs c5;have Hus := Lib.hid hus; clear hus;have HR0 := Lib.hid (row_form hrow); clear hrow;go_wp2;go_loopw [91, 15] (fun vj vd wx => ∃ (j : Nat) (d : Int), vj = .int .i64 j ∧ vd = .int .i64 d ∧ j ≤ us.length ∧ Hid (MeetOf (nrOf L) (us.take j) d) ∧ Hid (TMem f.code.length w wx fb lb lc (rankTo f.code.length l l.length) L (toI l) (fromL (edgesL f)) S) ∧ Hid (wx.heap[fb + 3]? = some (.deferred (some [])))) (fun vj _ _ => us.length - (intOf vj).toNat)
          case atStart => exact ⟨0, -1, rfl, rfl, Nat.zero_le _, Lib.hid (by simpa using MeetOf.nil), hT, hD⟩
          case round =>
           clear hT hD c0 hbx c5 HR0;rename_i wq3;obtain ⟨j, d, rfl, rfl, hj, hMt, hT, hD⟩ := hrel;have hrow := hT.out.fr.each v _ hs;rw [← Hus.out] at hrow;have hwj : IntKind.i64.wrap ((j : Int) + 1) = (j : Int) + 1 := IntWalk.i64_in _ (by omega);by_cases hjl : j < us.length
           ·have d3 : (j : Int) < (us.length : Int) := by omega
            obtain ⟨g, gc, hgv, -, -, hgl⟩ := row_pos hrow (by omega);cases hgv;obtain ⟨u, hu, hul2⟩ := HM.out j hjl;have hge : us[j]? = some (u : Int) := by rw [List.getElem?_eq_getElem hjl, hu]
            have c1 := row_cell hrow (Nums_some hge);have htk : us.take (j + 1) = us.take j ++ [(u : Int)] := by rw [List.take_add_one, hge]; rfl
            have c2 := row_cell hT.out.near (Nums_some (nrOf_some L u (by rw [hLl]; exact hul2)));have hu1 : (0 : Int) ≤ (u : Int) := by omega
            have hu2 : (u : Int) < (f.code.length : Int) := by omega
            have HTk := Lib.hid htk; clear htk hge hu hrow;by_cases hdn : nrOf L u < 0
            ·have hMp := Lib.hid (hMt.out.pass hdn);go_wp2
             go_roundw
             case rel => exact ⟨j + 1, d, by simp, rfl, by omega, Lib.hid (by rw [HTk.out]; exact hMp.out), hT, hD⟩
             case measure => go_light; first | omega | (simp only [intOf]; omega)
            ·by_cases hd0 : d < 0
             ·have hMp := Lib.hid (hMt.out.first hd0 (Int.not_lt.1 hdn));go_wp2
              go_roundw
              case rel => exact ⟨j + 1, u, by simp, rfl, by omega, Lib.hid (by rw [HTk.out]; exact hMp.out), hT, hD⟩
              case measure => go_light; first | omega | (simp only [intOf]; omega)
             ·obtain ⟨d0, hd0', hdd⟩ : ∃ d0 : Nat, d = (d0 : Int) ∧ 0 ≤ nrOf L d0 := by
               rcases hMt.out with ⟨h1, _⟩ | ⟨dn, h1, h2, _⟩
               ·omega
               ·exact ⟨dn, h1, h2⟩
              subst hd0';have hud : 0 ≤ nrOf L u := Int.not_lt.1 hdn;have HMt := Lib.hid (fun a ha hm => hMt.out.meet (d := d0) (u := u) (a := a) hud ha hm);have HML := Lib.hid (fun (a b : Nat) ha (hr : l.idxOf b < l.idxOf a) => HInv.out.meetL (HG.out l HO.out) (a := a) (b := b) ha hr);have HMR := Lib.hid (fun (a b : Nat) ha hb hne (hr : ¬ l.idxOf b < l.idxOf a) => HInv.out.meetR (HG.out l HO.out) (a := a) (b := b) ha hb hne hr);have HRl := Lib.hid (fun (a : Nat) (ha : 0 ≤ nrOf L a) => HInv.out.dR (HG.out l HO.out) ha);have hdn' : ¬ nrOf L u < 0 := hdn;go_wp2
              go_loopg [15, 17] (l.idxOf d0 + l.idxOf u) (fun k va vb wy => ∃ (a b : Nat), k = l.idxOf a + l.idxOf b ∧ va = .int .i64 a ∧ vb = .int .i64 b ∧ 0 ≤ nrOf L a ∧ 0 ≤ nrOf L b ∧ Hid (∀ x, (Ch (nrOf L) a x ∧ Ch (nrOf L) b x) ↔ (Ch (nrOf L) d0 x ∧ Ch (nrOf L) u x)) ∧ Hid (TMem f.code.length w wy fb lb lc (rankTo f.code.length l l.length) L (toI l) (fromL (edgesL f)) S) ∧ Hid (wy.heap[fb + 3]? = some (.deferred (some []))))
              case atStart => exact ⟨d0, u, rfl, rfl, rfl, hdd, hud, Lib.hid (fun x => Iff.rfl), hT, hD⟩
              case round =>
               clear hT hD c1 c2;obtain ⟨a, b, rfl, rfl, rfl, ha, hb, hab, hT, hD⟩ := hrel;by_cases he : a = b
               ·subst he;have hMp := Lib.hid (HMt.out a ha hab.out);have d4 : ((a : Int) == (a : Int)) = true := by simp
                go_wp2
                go_roundw
                case rel => exact ⟨j + 1, a, by simp, rfl, by omega, Lib.hid (by rw [HTk.out]; exact hMp.out), hT, hD⟩
                case measure => go_light; first | omega | (simp only [intOf]; omega)
               ·have d4 : ((a : Int) == (b : Int)) = false := by rw [beq_eq_false_iff_ne]; omega
                have d5 : ¬ (a : Int) = (b : Int) := by omega
                have hal : a < f.code.length := Rch.lt hn0 (HRl.out a ha);have hbl : b < f.code.length := Rch.lt hn0 (HRl.out b hb);have e1 := row_cell hT.out.rank (Nums_some (rankTo_full f.code.length l a ((HO.out.mem a).2 (HRl.out a ha)) hal));have e2 := row_cell hT.out.rank (Nums_some (rankTo_full f.code.length l b ((HO.out.mem b).2 (HRl.out b hb)) hbl));have e3 := row_cell hT.out.near (Nums_some (nrOf_some L a (by rw [hLl]; exact hal)));have e4 := row_cell hT.out.near (Nums_some (nrOf_some L b (by rw [hLl]; exact hbl)));have q1 : (0 : Int) ≤ (a : Int) := by omega
                have q2 : (a : Int) < (f.code.length : Int) := by omega
                have q3 : (0 : Int) ≤ (b : Int) := by omega
                have q4 : (b : Int) < (f.code.length : Int) := by omega
                by_cases hr : l.idxOf b < l.idxOf a
                ·obtain ⟨y, hy1, hy2, hy3, hy4⟩ := HML.out a b ha hr;have HY := Lib.hid hy4; clear hy4;rw [hy1] at e3;have q5 : (l.idxOf b : Int) < (l.idxOf a : Int) := by omega
                 go_wp2
                 go_quiet (fail)
                 go_wp2
                 go_roundg (l.idxOf y + l.idxOf b)
                 case measure => exact Nat.add_lt_add_right hy3 _
                 case rel => exact ⟨y, b, rfl, rfl, rfl, hy2, hb, Lib.hid (fun x => (HY.out x).trans (hab.out x)), Lib.hid (hT.out.below (Below.drewN (Below.refl _ _) nq)), hD⟩
                ·obtain ⟨y, hy1, hy2, hy3, hy4⟩ := HMR.out a b ha hb he hr;have HY := Lib.hid hy4; clear hy4;rw [hy1] at e4;have q5 : ¬ (l.idxOf b : Int) < (l.idxOf a : Int) := by omega
                 go_wp2
                 go_quiet (fail)
                 go_wp2
                 go_roundg (l.idxOf a + l.idxOf y)
                 case measure => exact Nat.add_lt_add_left hy3 _
                 case rel => exact ⟨a, y, rfl, rfl, rfl, ha, hy2, Lib.hid (fun x => (HY.out x).trans (hab.out x)), Lib.hid (hT.out.below (Below.drewN (Below.refl _ _) nq)), hD⟩
           ·have hjj : j = us.length := by omega
            subst hjj;have d3 : ¬ (us.length : Int) < (us.length : Int) := by omega
            have hMf := hMt.out;rw [List.take_length] at hMf;obtain ⟨dn, hdn, hstp⟩ := HStp.out d hMf;have c2 := row_cell hT.out.near (Nums_some (nrOf_some L v (by rw [hLl]; exact hv4)));have f2 := hT.out.near.frozenAt v;by_cases hch : nrOf L v = d
            ·have hS2 := Lib.hid (HSame.out d hMf hch);have hcb : (nrOf L v == d) = true := by rw [beq_iff_eq]; exact hch
             go_wp2;refine ⟨⟨i + 1, c, L, by simp, rfl, hlt, hS2, hT, hD⟩, ?_⟩;go_light; first | omega | (simp only [intOf]; omega)
            ·have hS2 := Lib.hid (HChg.out d hMf hch);have hT2 := hT.out.setNear v d;have hcb : (nrOf L v == d) = false := by rw [beq_eq_false_iff_ne]; exact hch
             have hD3 : (wr.setCell ⟨w.heap.size + 1 + 1, v, none⟩ (.int .i64 d)).heap[fb + 3]? = some (.deferred (some [])) := by
              rw [← hD.out];exact (Chg.setCell (S := (· = w.heap.size + 1 + 1)) (Chg.refl _ _) (p := ⟨w.heap.size + 1 + 1, v, none⟩) (Or.inl rfl) _).block _ (Array.getElem?_eq_some_iff.1 hD.out).1 (by omega)
             have HT2 := Lib.hid hT2; have HD3 := Lib.hid hD3; clear hT2 hD3 hstp;subst hdn;go_wp2;refine ⟨⟨i + 1, true, L.set v dn, by simp, rfl, hlt, hS2, HT2, HD3⟩, ?_⟩;go_light; first | omega | (simp only [intOf]; omega)
         ·have d2 : ¬ (i : Int) < (l.length : Int) - 1 := by omega
          cases c
          ·have f0 := hT.out.near.frozenAt 0;have c0 := row_cell hT.out.near (Nums_some (nrOf_some L 0 (by rw [HS.out.len]; exact hn0)));go_wp2
           try rw [Exit.noGoto_ret]
           go_wp2;have hTn := hT.out.setNear 0 (-1);have hD3 : (wr.setCell ⟨w.heap.size + 1 + 1, 0, none⟩ (.int .i64 (-1))).heap[fb + 3]? = some (.deferred (some [])) := by
            rw [← hD.out];exact (Chg.setCell (S := (· = w.heap.size + 1 + 1)) (Chg.refl _ _) (p := ⟨w.heap.size + 1 + 1, 0, none⟩) (Or.inl rfl) _).block _ (Array.getElem?_eq_some_iff.1 hD.out).1 (by omega)
           have hTt := hTn.turn (Turn.put (b := fb + 3) _ (fb + 3) _ (.deferred none) (Nat.le_refl _) hD3 rfl);have hok := HS.out.fin HO.out hn0 hlt;refine ⟨by simp, .inl ⟨_, _, rfl, run_takeDeferred hD3, ?_⟩⟩;refine ⟨_, results_tmp rfl _ _ _, _, _, _, hok, _, rfl, hTt.bel, ?_, ?_, ?_⟩
           ·rw [hok.len]; exact hTt.near
           ·intro k hk;have e : w.heap.size + 1 + 1 = k := (by simpa [Value.ownBlock] using hk)
            omega
           ·intro e;have := hok.len;rw [e] at this;change 0 = f.code.length at this;omega
          ·obtain ⟨hN2, hm2⟩ := HS.out.more HO.out hlt;have HN2 := Lib.hid hN2; clear hN2;have hL2 := HS.out.len;go_wp2
           go_roundg (msr f.code.length l.idxOf L)
           case measure => exact hm2
           case rel => exact ⟨L, rfl, hL2, HN2, hT, hD⟩
end
end Go.Proofs.YteebpnbdihcfmaaDoor
