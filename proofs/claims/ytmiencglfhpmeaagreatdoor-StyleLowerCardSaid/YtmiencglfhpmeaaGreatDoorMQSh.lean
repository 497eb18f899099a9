/- The contracts of style.check and style.Check. -/
import Derived.Test.YtmiencglfhpmeaaGreatDoorMQSe
import Derived.Test.YtmiencglfhpmeaaGreatDoorMQSa
import Derived.Test.YtmiencglfhpmeaaGreatDoorMQXh
import Derived.Deep.Cut
set_option linter.unusedSimpArgs false
set_option linter.unusedVariables false
namespace Go.Proofs.YtmiencglfhpmeaaGreatDoor
open Go.RowKit Hach
def Rl.ok (r : Rl) : Prop := r.nm.length < 4294967296 ∧ InI r.pr ∧ (r.e1.ok ∧ r.e1.size < 1099511627776) ∧ (r.e2.ok ∧ r.e2.size < 1099511627776) ∧ (r.e3.ok ∧ r.e3.size < 1099511627776) ∧ (r.e4.ok ∧ r.e4.size < 1099511627776)
theorem ExL.rng {w : World} {S : Nat → Prop} {d : Nat} {A : Option Addr} {l : List Ex} (h : ExL w S (d + 1) A l) {j : Nat} (hj : j < l.length) : ∃ b o A' c', A = some ⟨b, o, none⟩ ∧ S b ∧ ExL w S d A' (l[j]).l ∧ w.rangeAt b (o + j * 7) ((l[j]).cells A' c') := by
 obtain ⟨b, o, e, hb, hx⟩ := h (fun e => by rw [e] at hj; simp at hj)
 obtain ⟨A', c', h1, h2⟩ := hx j l[j] (List.getElem?_eq_getElem hj)
 exact ⟨b, o, A', c', e, hb, h1, h2⟩
def wantAt (k : Nat) : Int := if k = 0 then 2 else 1
def tysF (k : Nat) : List Ex → Int
 | [] => 0
 | e :: l => if tyE e (wantAt k) ≠ 0 then tyE e (wantAt k) else tysF (k + 1) l
theorem tysF_four (r : Rl) : tysF 0 [r.e1, r.e2, r.e3, r.e4] = if tyE r.e1 2 ≠ 0 then tyE r.e1 2 else if tyE r.e2 1 ≠ 0 then tyE r.e2 1 else if tyE r.e3 1 ≠ 0 then tyE r.e3 1 else tyE r.e4 1 := by
 by_cases h1 : tyE r.e1 2 = 0 <;> by_cases h2 : tyE r.e2 1 = 0 <;> by_cases h3 : tyE r.e3 1 = 0 <;> by_cases h4 : tyE r.e4 1 = 0 <;> simp [tysF, wantAt, h1, h2, h3, h4]
theorem tysF_at (l : List Ex) : ∀ (k : Nat) (hk : k < l.length), tysF k (l.drop k) = if tyE l[k] (wantAt k) ≠ 0 then tyE l[k] (wantAt k) else tysF (k + 1) (l.drop (k + 1)) := fun k hk => by
 rw [List.drop_eq_getElem_cons hk, tysF]
set_option maxRecDepth 100000 in
set_option maxHeartbeats 4000000 in
theorem check_any (u : Rn) (l : List Rl) (A : Option Addr) (c d : Nat) (w : World) (hk : u.kidsB w w.heap.size d) (hX : RlB w w.heap.size d A l) (hl : l.length < 4294967296) (hok : u.r.ok) :
  Calls Tryz.prog 37 #[.agg u.cells.toArray, .slice A l.length c] w fun e w' => e = .returned (.int .i64 (u.r.err l)) ∧ Ext w w' := by
 obtain ⟨w1, hw1⟩ : ∃ w1, w.alloc (.cells u.cells.toArray 49) = w1 := ⟨_, rfl⟩
 have hB := RnB.new w u
 rw [hw1] at hB
 have hE1 : Ext w w1 := by rw [← hw1]; exact Ext.alloc _ _
 have HB := Lib.hid hB
 have HK := Lib.hid (hk.ext hE1)
 have HX := Lib.hid (hX.ext hE1)
 have HOK := Lib.hid hok
 have HE1 := Lib.hid hE1
 have HW1 := Lib.hid hw1
 obtain ⟨b, hb⟩ : ∃ b, w.heap.size = b := ⟨_, rfl⟩
 have HBb : Hid (RnB w1 b u) := Lib.hid (by rw [← hb]; exact hB)
 have hn := (rn_facts HBb.out.range).nm
 clear hB hk hX hok hw1 hE1
 go_enter Tryz.func37, Tryz.ntmps37
 go_upto_region 1 with fail
 rw [HW1.out]
 go_wp2_with fail
 refine (Right_any u.r.nm HOK.out.1 w1).mono ?_
 rintro e w2 ⟨rfl, hE2⟩
 have HE2 := Lib.hid hE2
 obtain ⟨q, hq⟩ : ∃ q, nmOk u.r.nm = q := ⟨_, rfl⟩
 have HQ := Lib.hid hq
 rw [hq]
 clear hq hE2 hn
 cases q with
 | false =>
  have HR : Hid (u.r.err l = 15) := Lib.hid (by unfold Rl.err; rw [if_pos HQ.out])
  go_wp2_with fail
  go_ret
  exact ⟨by rw [HR.out]; rfl, HE1.out.trans HE2.out⟩
 | true =>
  have hlt2 : b < w2.heap.size := Nat.lt_of_lt_of_le HBb.out.lt HE2.out.sz
  have CR := Lib.hid (contR_any l u.r.nm A c b d w2 (HX.out.ext HE2.out) hl hlt2 (rn_facts (HBb.out.ext HE2.out).range).nm)
  go_wp2_with fail
  refine CR.out.mono ?_
  rintro e w3 ⟨rfl, hE3⟩
  have HE3 := Lib.hid (HE2.out.trans hE3)
  obtain ⟨q, hq⟩ : ∃ q, l.any (fun x => decide (x.nm = u.r.nm)) = q := ⟨_, rfl⟩
  have HQ2 := Lib.hid hq
  rw [hq]
  clear hq hE3
  cases q with
  | true =>
   have HR : Hid (u.r.err l = 6) := Lib.hid (by unfold Rl.err; rw [if_neg (by rw [HQ.out]; simp), if_pos HQ2.out])
   go_wp2_with fail
   go_ret
   exact ⟨by rw [HR.out]; rfl, HE1.out.trans HE3.out⟩
  | false =>
   have hp3 := (rn_facts (HBb.out.ext HE3.out).range).pr
   obtain ⟨p, hp⟩ : ∃ p, u.r.pr = p := ⟨_, rfl⟩
   rw [hp, Nat.zero_add] at hp3
   have HP := Lib.hid hp
   clear hp
   by_cases g1 : p < 0
   ·have y1 : decide (p < 0) = true := by simpa using g1
    have HR : Hid (u.r.err l = 3) := Lib.hid (by unfold Rl.err; rw [if_neg (by rw [HQ.out]; simp), if_neg (by rw [HQ2.out]; simp), HP.out, if_pos (by omega)])
    clear g1
    go_wp2_with fail
    go_ret
    exact ⟨by rw [HR.out]; rfl, HE1.out.trans HE3.out⟩
   ·have y1 : decide (p < 0) = false := by simpa using g1
    by_cases g2 : 1000 < p
    ·have y2 : decide (1000 < p) = true := by simpa using g2
     have HR : Hid (u.r.err l = 3) := Lib.hid (by unfold Rl.err; rw [if_neg (by rw [HQ.out]; simp), if_neg (by rw [HQ2.out]; simp), HP.out, if_pos (by omega)])
     clear g1 g2
     go_wp2_with fail
     go_ret
     exact ⟨by rw [HR.out]; rfl, HE1.out.trans HE3.out⟩
    ·have y2 : decide (1000 < p) = false := by simpa using g2
     have HR : Hid (u.r.err l = tysF 0 [u.r.e1, u.r.e2, u.r.e3, u.r.e4]) := Lib.hid (by
      rw [tysF_four]; unfold Rl.err; rw [if_neg (by rw [HQ.out]; simp), if_neg (by rw [HQ2.out]; simp), HP.out, if_neg (by omega)])
     clear g1 g2
     have hr3 := (HBb.out.ext HE3.out).range
     have EX := Lib.hid (expressions_any u d w3 (HK.out.ext HE3.out))
     go_wp2_with (first | (refine load_R rfl _ rfl _ _ _ hr3 rfl rfl ?_))
     refine EX.out.mono ?_
     rintro e w4 ⟨g, rfl, hg, hX4, hE4⟩
     have HE4 := Lib.hid (HE3.out.trans hE4)
     have HX4 := Lib.hid hX4
     obtain ⟨L, hL⟩ : ∃ L, [u.r.e1, u.r.e2, u.r.e3, u.r.e4] = L := ⟨_, rfl⟩
     have HOL : Hid (∀ (j : Nat) (hj : j < L.length), (L[j]).ok ∧ (L[j]).size < 1099511627776) := Lib.hid (by
      subst hL
      intro j hj
      obtain ⟨_, _, o1, o2, o3, o4⟩ := HOK.out
      match j, hj with
      | 0, _ => exact o1
      | 1, _ => exact o2
      | 2, _ => exact o3
      | 3, _ => exact o4)
     have hL4 : L.length = 4 := by rw [← hL]; rfl
     rw [hL] at HR HX4
     clear hL hX4 hE4 hr3 hp3 y1 y2 EX
     go_wp2_with fail
     go_loopw [31] (fun kv wr => ∃ k : Nat, k ≤ 4 ∧ kv = .int .i64 k ∧ Hid (tysF 0 L = tysF k (L.drop k)) ∧ Ext w4 wr) (fun kv _ => 4 - (intOf kv).toNat)
     case atStart => exact ⟨0, by omega, rfl, Lib.hid rfl, Ext.refl _⟩
     case round =>
      obtain ⟨k, hk4, rfl, HT, hE⟩ := hrel
      have HEw := Lib.hid (HE1.out.trans (HE4.out.trans hE))
      have HE0 := Lib.hid hE
      by_cases hlt : k < 4
      ·have hkl : k < L.length := by omega
       have tk : decide ((k : Int) < 4) = true := by simp; omega
       obtain ⟨g', o, A', c', hgo, hgb, hX', hr⟩ := (ExL.ext HX4.out hE).rng hkl
       simp only [Option.some.injEq, Addr.mk.injEq] at hgo
       obtain ⟨rfl, rfl, _⟩ := hgo
       have hTA := HT.out.trans (tysF_at L k hkl)
       obtain ⟨o1, o2⟩ := HOL.out k hkl
       obtain ⟨x, hx⟩ : ∃ x, L[k] = x := ⟨_, rfl⟩
       rw [hx] at hTA o1 o2 hX' hr
       rw [Nat.zero_add] at hr
       have HTA := Lib.hid hTA
       have CH := Lib.hid (fun (W : World) (h : Ext wr W) => Check_any x d A' c' W (ExL.ext hX' h) o2 o1)
       unfold Ex.cells at hr CH
       clear hTA o1 o2 hX' hx HT hE
       have hcase : (((k : Int) == 0) = true ∧ wantAt k = 2) ∨ (((k : Int) == 0) = false ∧ wantAt k = 1) := by
        unfold wantAt
        by_cases h0 : k = 0
        ·left; subst h0; exact ⟨rfl, rfl⟩
        ·right; exact ⟨by rw [beq_eq_false_iff_ne]; omega, by rw [if_neg h0]⟩
       rcases hcase with ⟨y0, hw⟩ | ⟨y0, hw⟩
       ·rw [hw] at HTA
        clear hw
        go_wp2_with (first | (refine load_E rfl _ rfl _ _ _ hr rfl rfl ?_))
        refine (CH.out _ (Ext.alloc _ _)).mono ?_
        rintro e w' ⟨rfl, hE'⟩
        have HS' := Lib.hid ((Ext.alloc _ _).trans hE')
        clear hE' hr
        obtain ⟨E, hEE⟩ : ∃ E, chkE x = E := ⟨_, rfl⟩
        obtain ⟨T, hTT⟩ : ∃ T, chkT x = T := ⟨_, rfl⟩
        unfold tyE at HTA
        rw [hEE, hTT] at HTA
        rw [hEE, hTT]
        clear hEE hTT
        by_cases e0 : E = 0
        ·subst e0
         by_cases t0 : T = 2
         ·subst t0
          have HN : Hid (tysF 0 L = tysF (k + 1) (L.drop (k + 1))) := Lib.hid (by rw [HTA.out]; simp)
          go_wp2_with fail
          go_roundw
          case rel => exact ⟨k + 1, by omega, by go_num, HN, HE0.out.trans HS'.out⟩
          case measure => simp [intOf]; omega
         ·have yt : (T == 2) = false := by rw [beq_eq_false_iff_ne]; exact t0
          have HZ : Hid (u.r.err l = 30) := Lib.hid (by rw [HR.out, HTA.out]; simp [t0])
          clear t0
          go_wp2_with fail
          go_ret
          exact ⟨by rw [HZ.out]; rfl, HEw.out.trans HS'.out⟩
        ·have ye : (E == 0) = false := by rw [beq_eq_false_iff_ne]; exact e0
         have HZ : Hid (u.r.err l = E) := Lib.hid (by rw [HR.out, HTA.out]; simp [e0])
         clear e0
         go_wp2_with fail
         go_ret
         exact ⟨by rw [HZ.out]; rfl, HEw.out.trans HS'.out⟩
       ·rw [hw] at HTA
        clear hw
        go_wp2_with (first | (refine load_E rfl _ rfl _ _ _ hr rfl rfl ?_))
        refine (CH.out _ (Ext.alloc _ _)).mono ?_
        rintro e w' ⟨rfl, hE'⟩
        have HS' := Lib.hid ((Ext.alloc _ _).trans hE')
        clear hE' hr
        obtain ⟨E, hEE⟩ : ∃ E, chkE x = E := ⟨_, rfl⟩
        obtain ⟨T, hTT⟩ : ∃ T, chkT x = T := ⟨_, rfl⟩
        unfold tyE at HTA
        rw [hEE, hTT] at HTA
        rw [hEE, hTT]
        clear hEE hTT
        by_cases e0 : E = 0
        ·subst e0
         by_cases t0 : T = 1
         ·subst t0
          have HN : Hid (tysF 0 L = tysF (k + 1) (L.drop (k + 1))) := Lib.hid (by rw [HTA.out]; simp)
          go_wp2_with fail
          go_roundw
          case rel => exact ⟨k + 1, by omega, by go_num, HN, HE0.out.trans HS'.out⟩
          case measure => simp [intOf]; omega
         ·have yt : (T == 1) = false := by rw [beq_eq_false_iff_ne]; exact t0
          have HZ : Hid (u.r.err l = 30) := Lib.hid (by rw [HR.out, HTA.out]; simp [t0])
          clear t0
          go_wp2_with fail
          go_ret
          exact ⟨by rw [HZ.out]; rfl, HEw.out.trans HS'.out⟩
        ·have ye : (E == 0) = false := by rw [beq_eq_false_iff_ne]; exact e0
         have HZ : Hid (u.r.err l = E) := Lib.hid (by rw [HR.out, HTA.out]; simp [e0])
         clear e0
         go_wp2_with fail
         go_ret
         exact ⟨by rw [HZ.out]; rfl, HEw.out.trans HS'.out⟩
      ·obtain rfl : k = 4 := by omega
       have HZ : Hid (u.r.err l = 0) := Lib.hid (by rw [HR.out, HT.out, List.drop_of_length_le (by omega)]; rfl)
       go_wp2_with fail
       go_ret
       exact ⟨by rw [HZ.out]; rfl, HEw.out⟩
end Go.Proofs.YtmiencglfhpmeaaGreatDoor
namespace Go.Proofs.YtmiencglfhpmeaaGreatDoor
open List (foldl_nil foldl_cons getD_cons_zero getD_cons_succ setIfInBounds_toArray set_cons_zero set_cons_succ)
open Go.RowKit Hach
theorem setIn_all : ∀ (cs pre : List Value) (Z : Array Value), Z.size = pre.length + cs.length → (∀ j, j < pre.length → Z[j]? = pre[j]?) → ∀ (w : World) (T : TypeId), (w.alloc (.cells Z T)).setCells w.heap.size pre.length cs = w.alloc (.cells (pre ++ cs).toArray T)
 | [], pre, Z, hz, hp, w, T => by
  have : Z = (pre ++ []).toArray := by
   rw [List.append_nil]
   apply Array.ext_getElem?
   intro i
   by_cases hi : i < pre.length
   ·rw [hp i hi]; simp
   ·have h1 : Z.size ≤ i := by simp at hz; omega
    rw [Array.getElem?_eq_none h1]; simp; omega
  rw [this]; rfl
 | v :: cs, pre, Z, hz, hp, w, T => by
  have hl : pre.length < Z.size := by rw [hz]; simp
  have h := setIn_all cs (pre ++ [v]) (Z.setIfInBounds pre.length v) (by simp only [Array.size_setIfInBounds, List.length_append, List.length_cons, List.length_nil] at hz ⊢; omega) (fun j hj => by
   rw [Array.getElem?_setIfInBounds]
   simp only [List.length_append, List.length_cons, List.length_nil] at hj
   by_cases e : pre.length = j
   ·subst e; rw [if_pos rfl, if_pos hl]; simp
   ·rw [if_neg e, hp j (by omega), List.getElem?_append_left (by omega)]) w T
  rw [World.setCells, World.setCell_alloc_new]
  rw [List.length_append] at h
  simpa using h
theorem store_new {ops : Array Oper} {rest : List Oper} {op : Oper} {a : Act} {w : World} {Q : Exit → Act → World → Prop} (hgd : op.guard = none) (T : TypeId) (x y : Operand) (ho : op.op = .store T x y) (Z : Array Value) (cs : List Value) (hz : Z.size = cs.length)
  (hi : (Tryz.prog.info? T).map (·.size) = some cs.length) (h1 : ∀ v ∈ cs, v.oneCell' = true) (hx : a.eval x = .pointer (some ⟨w.heap.size, 0, none⟩)) (hy : a.eval y = .agg cs.toArray)
  (h : wpList Tryz.prog ops Q rest (a.put op.dst undef) (w.alloc (.cells cs.toArray T))) : wpList Tryz.prog ops Q (op :: rest) a (w.alloc (.cells Z T)) := by
 have hb : (w.alloc (.cells Z T)).heap[w.heap.size]? = some (.cells Z T (0, 0)) := Go.heap_alloc_new _ _
 have he := setIn_all cs [] Z (by simpa using hz) (fun j hj => absurd hj (by simp)) w T
 simp only [List.length_nil, List.nil_append] at he
 refine wpList_store_mid hgd T x y ho w.heap.size 0 cs.toArray hx hy (fun j hj => ?_) (by simpa using hi) (all_oneCell_toArray h1) ?_
 ·have hj' : j < Z.size := by rw [hz]; simpa using hj
  refine ⟨?_, ?_⟩
  ·rw [World.cell?_alloc_new, Nat.zero_add, Array.getElem?_eq_getElem hj']; rfl
  ·exact World.frozen?_alloc_new w Z T (0 + j)
 ·show wpList Tryz.prog ops Q rest (a.put op.dst undef) ((w.alloc (.cells Z T)).setCells w.heap.size 0 cs)
  rw [he]; exact h
theorem sizeR : (Tryz.prog.info? 49).map (·.size) = some 30 := by
 obtain ⟨i0, hi, _, hz1, _⟩ := info_parts infoR
 rw [hi]; simp [hz1]
theorem store_R {ops : Array Oper} {rest : List Oper} {op : Oper} {a : Act} {w : World} {Q : Exit → Act → World → Prop} (u : Rn) (hgd : op.guard = none) (x y : Operand) (ho : op.op = .store 49 x y) (hx : a.eval x = .pointer (some ⟨w.heap.size, 0, none⟩)) (hy : a.eval y = .agg u.cells.toArray)
  (h : wpList Tryz.prog ops Q rest (a.put op.dst undef) (w.alloc (.cells u.cells.toArray 49))) : wpList Tryz.prog ops Q (op :: rest) a (w.alloc (.cells zero30 49)) :=
 store_new hgd 49 x y ho zero30 u.cells rfl sizeR (rn_one u) hx hy h
theorem RlL.zero {w : World} {S : Nat → Prop} {d : Nat} {A : Option Addr} {l : List Rl} (h : l = []) : RlL w S d A l := by rw [h]; exact RlL.nil _ _ _ _
set_option maxRecDepth 100000 in
set_option maxHeartbeats 4000000 in
theorem CheckL_any (l : List Rl) (A : Option Addr) (c d : Nat) (w : World) (hX : RlB w w.heap.size d A l) (hl : l.length < 4294967296) (hc : l.length ≤ c) (hc2 : c < 9223372036854775808) (hok : ∀ r ∈ l, r.ok) :
  Calls Tryz.prog 14 #[.slice A l.length c] w fun e w' => e = .returned (.int .i64 (chkL l)) ∧ Ext w w' := by
 by_cases hlen : 40 < l.length
 ·have t1 : decide ((40 : Int) < (l.length : Int)) = true := by simp; omega
  have HR : Hid (chkL l = 2) := Lib.hid (by unfold chkL; rw [if_pos hlen])
  clear hX hok hlen
  go_enter Tryz.func14, Tryz.ntmps14
  go_wp2_with fail
  go_ret
  exact ⟨by rw [HR.out]; rfl, Ext.refl _⟩
 ·have t1 : decide ((40 : Int) < (l.length : Int)) = false := by simp; omega
  have HR : Hid (chkL l = errF [] l) := Lib.hid (by unfold chkL; rw [if_neg hlen])
  have HX := Lib.hid hX
  have HOK := Lib.hid hok
  clear hX hok hlen
  go_enter Tryz.func14, Tryz.ntmps14
  go_wp2_with fail
  go_loopw [11] (fun kv wr => ∃ k : Nat, k ≤ l.length ∧ kv = .int .i64 k ∧ Hid (chkL l = errF (l.take k) (l.drop k)) ∧ Ext w wr) (fun kv _ => l.length - (intOf kv).toNat)
  case atStart => exact ⟨0, by omega, rfl, Lib.hid (by rw [HR.out]; rfl), Ext.refl _⟩
  case round =>
   obtain ⟨k, hk, rfl, HT, hE⟩ := hrel
   have HE := Lib.hid hE
   by_cases hlt : k < l.length
   ·have tk : decide (k < l.length) = true := by simp; omega
    have hXr := HX.out.ext HE.out
    obtain ⟨g, o, u, rfl, hg, hu, hku, hr⟩ := hXr.at_ hlt
    have HT2 : Hid (chkL l = if u.r.err (l.take k) ≠ 0 then u.r.err (l.take k) else errF (l.take (k + 1)) (l.drop (k + 1))) := Lib.hid (by rw [HT.out, errF_at l k hlt, hu])
    have CH : Hid (∀ W, Ext wr W → Calls Tryz.prog 37 #[.agg u.cells.toArray, .slice (some ⟨g, o, none⟩) k c] W fun e w' => e = .returned (.int .i64 (u.r.err (l.take k))) ∧ Ext W w') := Lib.hid (fun W h => by
     have h1 := check_any u (l.take k) (some ⟨g, o, none⟩) c d W (hku.ext h) ((hXr.ext h).take k) (by rw [List.length_take]; omega) (HOK.out _ (by rw [hu]; exact List.getElem_mem hlt))
     rw [List.length_take, Nat.min_eq_left hk] at h1
     exact h1)
    obtain ⟨E, hEE⟩ : ∃ E, u.r.err (l.take k) = E := ⟨_, rfl⟩
    rw [hEE] at HT2 CH
    have hkc : k ≤ c := by omega
    clear hXr hu hku hEE HT hE
    go_wp2_with (first | (refine load_R rfl _ rfl _ _ _ hr rfl rfl ?_) | (refine store_R u rfl _ _ rfl rfl rfl ?_))
    obtain ⟨wa, hwa⟩ : ∃ wa, wr.alloc (.cells u.cells.toArray 49) = wa := ⟨_, rfl⟩
    have hB := RnB.new wr u
    rw [hwa] at hB
    have hEa : Ext wr wa := by rw [← hwa]; exact Ext.alloc _ _
    rw [hwa]
    have HB := Lib.hid hB
    have HEa := Lib.hid hEa
    clear hwa hB hEa hr
    apply wp_region_seq (l := [_, _, _, _]) (t := [_, _]) [some 16, some 17, some 18, some 19, some 20, some 5] [[], [], [], [1, 2], [0, 3], [4]] [4, 3, 3, 4] [(eqv (.agg u.cells.toArray)), eqv _, eqv _, (eqv (.slice (some ⟨g, o, none⟩) k c))] (by kernel_rfl) (by kernel_rfl) ⟨?o0, ?o1, ?o2, ?o3, trivial⟩ ?last
    case o0 =>
     intro xv W hE _
     simp only [putD, List.foldl_nil, List.getD_cons_zero]
     refine OpGoal.plain ?_
     refine load_R rfl _ rfl wr.heap.size 0 u.cells (HB.out.ext ((Ext.drew wa).trans hE)).range rfl rfl ?_
     go_wp2_with fail
     exact ⟨rfl, Ext.refl _, rfl⟩
    case o1 =>
     intro xv W hE _
     simp only [putD, List.foldl_nil, List.getD_cons_zero, List.getD_cons_succ]
     refine OpGoal.plain ?_
     go_wp2_with fail
     exact ⟨rfl, Ext.refl _, rfl⟩
    case o2 =>
     intro xv W hE _
     simp only [putD, List.foldl_nil, List.getD_cons_zero, List.getD_cons_succ]
     refine OpGoal.plain ?_
     go_wp2_with fail
     exact ⟨rfl, Ext.refl _, rfl⟩
    case o3 =>
     intro xv W hE hp
     have r1 : xv 1 = _ := hp.1
     have r2 : xv 2 = _ := hp.2.1
     clear hp
     simp only [putD, foldl_nil, foldl_cons, getD_cons_zero, getD_cons_succ, Act.put, setIfInBounds_toArray, set_cons_zero, set_cons_succ]
     refine OpGoal.plain ?_
     go_wp2_with fail
     exact ⟨rfl, Ext.refl _, rfl⟩
    case last =>
     intro xv W hE hp
     have r0 : xv 0 = _ := hp.1
     have r1 : xv 1 = _ := hp.2.1
     have r2 : xv 2 = _ := hp.2.2.1
     have r3 : xv 3 = _ := hp.2.2.2.1
     clear hp
     simp only [putD, List.foldl_nil, List.foldl_cons, List.getD_cons_zero, List.getD_cons_succ, Act.put, List.length_cons, List.length_nil, List.range_succ, List.range_zero, List.nil_append, List.cons_append, List.setIfInBounds_toArray, List.set_cons_zero, List.set_cons_succ]
     have HEW := Lib.hid (HEa.out.trans ((Ext.drew wa).trans hE))
     clear hE
     go_wp2_with fail
     refine (CH.out W HEW.out).mono ?_
     rintro e w' ⟨rfl, hE'⟩
     have HE' := Lib.hid (HEW.out.trans hE')
     clear hE'
     by_cases e0 : E = 0
     ·subst e0
      have HN : Hid (chkL l = errF (l.take (k + 1)) (l.drop (k + 1))) := Lib.hid (by rw [HT2.out]; simp)
      go_wp2_with fail
      go_roundw
      case rel => exact ⟨k + 1, by omega, by go_num, HN, HE.out.trans HE'.out⟩
      case measure => simp [intOf]; omega
     ·have ye : (E == 0) = false := by rw [beq_eq_false_iff_ne]; exact e0
      have HZ : Hid (chkL l = E) := Lib.hid (by rw [HT2.out]; simp [e0])
      clear e0
      go_wp2_with fail
      go_ret
      exact ⟨by rw [HZ.out]; rfl, HE.out.trans HE'.out⟩
   ·obtain rfl : k = l.length := by omega
    have HZ : Hid (chkL l = 0) := Lib.hid (by rw [HT.out, errF_end])
    have tk : decide (l.length < l.length) = false := by simp
    go_wp2_with fail
    go_ret
    exact ⟨by rw [HZ.out]; rfl, HE.out⟩
end Go.Proofs.YtmiencglfhpmeaaGreatDoor
namespace Go.Proofs.YtmiencglfhpmeaaGreatDoor
open Go.RowKit Hach
theorem range_new (w : World) (cs : List Value) (T : TypeId) : (w.alloc (.cells cs.toArray T)).rangeAt w.heap.size 0 cs := fun j v hv => by
 rw [World.cell?_alloc_new, Nat.zero_add]
 simpa using hv
end Go.Proofs.YtmiencglfhpmeaaGreatDoor
