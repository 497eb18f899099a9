/- The law StyleCounts: its walk (printed by gen_uj.py). -/
import Derived.Test.YtmiencglfhpmeaaGreatDoorMQUk
import Derived.Test.YtmiencglfhpmeaaGreatDoorMQUe
import Derived.Test.YtmiencglfhpmeaaGreatDoorMQUf
import Derived.Test.YtmiencglfhpmeaaGreatDoorMQUg
import Derived.Test.YtmiencglfhpmeaaGreatDoorMQUq
namespace Go.Proofs.YtmiencglfhpmeaaGreatDoor
open List (foldl_nil foldl_cons getD_cons_zero getD_cons_succ setIfInBounds_toArray set_cons_zero set_cons_succ)
open Go.RowKit Hach
theorem infoV : (Tryz.prog.info? 44).map (·.size) = some 4 := by kernel_rfl
theorem val_bool {e : Ex} (h : tyE e 2 = 0) (x : En) : ∃ (q : Bool) (n : Int) (s : List UInt8), evV e x = ⟨2, n, q, s⟩ ∧ chkE e = 0 := by
 obtain ⟨h1, h2⟩ := tyE_rt h
 have hv := evV_of h1 h2 x
 have hx : x.fits x.big := ⟨by unfold En.big; omega, by unfold En.big; omega, by unfold En.big; omega⟩
 have ht := vt_bool hx h1
 rw [← hv] at ht
 obtain ⟨q, hq⟩ : ∃ q, evV e x = q := ⟨_, rfl⟩
 rw [hq] at ht
 obtain ⟨t, n, b, s⟩ := q
 simp only at ht
 subst ht
 exact ⟨b, n, s, hq, (tyE_zero h).1⟩
theorem eval_rule {e : Ex} {A : Option Addr} {c d : Nat} {t : Int} (x : En) (W : World) (h : tyE e t = 0) (hX : ExB W W.heap.size d A e.l) : Calls Tryz.prog 26 #[.agg (e.cells A c).toArray, x.v] W fun r w' => r = .returned (.tuple #[(evV e x).v, .int .i64 0]) ∧ Ext W w' := by
 obtain ⟨h1, h2⟩ := tyE_rt h
 have := Eval_any e x d A c W hX (by omega) (rt_ok h1)
 rw [(tyE_zero h).1] at this
 exact this
def vzA : Array Value := #[.int .i64 0, .int .i64 0, .bool false, .string ⟨#[]⟩]
def vxA (t n : Int) (q : Bool) (s : List UInt8) : Array Value := #[.int .i64 t, .int .i64 n, .bool q, .string ⟨s.toArray⟩]
theorem vx_one (t n : Int) (q : Bool) (s : List UInt8) : ∀ v ∈ [Value.int .i64 t, .int .i64 n, .bool q, .string ⟨s.toArray⟩], v.oneCell' = true := by
 intro v hv
 simp only [List.mem_cons, List.mem_nil_iff, or_false] at hv
 rcases hv with rfl | rfl | rfl | rfl <;> rfl
theorem val_int {e : Ex} (h : tyE e 1 = 0) (x : En) : ∃ (n : Int) (q : Bool) (s : List UInt8), evV e x = ⟨1, n, q, s⟩ := by
 obtain ⟨h1, h2⟩ := tyE_rt h
 have hv := evV_of h1 h2 x
 have hx : x.fits x.big := ⟨by unfold En.big; omega, by unfold En.big; omega, by unfold En.big; omega⟩
 have ht := (vt_int hx h1).1
 rw [← hv] at ht
 obtain ⟨q, hq⟩ : ∃ q, evV e x = q := ⟨_, rfl⟩
 rw [hq] at ht
 obtain ⟨t, n, b, s⟩ := q
 simp only at ht
 subst ht
 exact ⟨n, b, s, hq⟩
def z21 : Array Value := #[.int .i64 0, .int .i64 0, .int .i64 0, .int .i64 0, .bool false, .string ⟨#[]⟩, .slice none 0 0, .int .i64 0, .int .i64 0, .int .i64 0, .int .i64 0, .bool false, .string ⟨#[]⟩, .slice none 0 0, .int .i64 0, .int .i64 0, .int .i64 0, .int .i64 0, .bool false, .string ⟨#[]⟩, .slice none 0 0]
def newP (B : Nat) (T : TypeId) (Z : Array Value) : SP := ⟨fun v W => ∃ g, v = .pointer (some ⟨g, 0, none⟩) ∧ B ≤ g ∧ W.heap[g]? = some (.cells Z T (0, 0)), fun h hE => by
 obtain ⟨g, e, h1, h2⟩ := h
 exact ⟨g, e, h1, (hE.below.block g (Array.getElem?_eq_some_iff.1 h2).1).trans h2⟩⟩
theorem info3E : (Tryz.prog.info? 64).map (·.size) = some 21 := by kernel_rfl
theorem one21 (a b c : Ex) (A B C : Option Addr) (i j k : Nat) : ∀ v ∈ a.cells A i ++ (b.cells B j ++ c.cells C k), v.oneCell' = true := by
 intro v hv
 rcases List.mem_append.1 hv with hv | hv
 ·exact ex_one a A i v hv
 ·rcases List.mem_append.1 hv with hv | hv
  ·exact ex_one b B j v hv
  ·exact ex_one c C k v hv
theorem three_rng {W : World} {g : Nat} {T : TypeId} {a b c : List Value} (h : W.heap[g]? = some (.cells (a ++ (b ++ c)).toArray T (0, 0))) (ha : a.length = 7) (hb : b.length = 7) : W.rangeAt g 0 a ∧ W.rangeAt g 7 b ∧ W.rangeAt g 14 c := by
 refine ⟨fun j v hj => ?_, fun j v hj => ?_, fun j v hj => ?_⟩
 ·have hl := (List.getElem?_eq_some_iff.1 hj).1
  refine cells_of h _ v ?_
  rw [Nat.zero_add]
  simp [List.getElem?_append_left hl, hj]
 ·have hl := (List.getElem?_eq_some_iff.1 hj).1
  refine cells_of h _ v ?_
  simp only [List.getElem?_toArray]
  rw [List.getElem?_append_right (by omega), ha, Nat.add_sub_cancel_left, List.getElem?_append_left hl]; exact hj
 ·refine cells_of h _ v ?_
  simp only [List.getElem?_toArray]
  rw [List.getElem?_append_right (by omega), ha, List.getElem?_append_right (by omega), hb, show 14 + j - 7 - 7 = j by omega]; exact hj
theorem two_boxes (w : World) (C0 C1 : Array Value) (T0 T1 : TypeId) : ∃ W, (w.alloc (.cells C0 T0)).alloc (.cells C1 T1) = W ∧ Ext w W ∧
  (∀ (V : World), Ext W V → ∀ (i : Nat) (v : Value), C0[i]? = some v → V.cell? ⟨w.heap.size, i, none⟩ = some v) ∧ (∀ (V : World), Ext W V → ∀ (i : Nat) (v : Value), C1[i]? = some v → V.cell? ⟨w.heap.size + 1, i, none⟩ = some v) := by
 have h0 := Ext.alloc w (.cells C0 T0)
 have h1 := Ext.alloc (w.alloc (.cells C0 T0)) (.cells C1 T1)
 refine ⟨_, rfl, h0.trans h1, fun V h i v hi => ?_, fun V h i v hi => ?_⟩
 ·rw [(h1.trans h).old (p := ⟨w.heap.size, i, none⟩) (by simp), World.cell?_alloc_new]; exact hi
 ·rw [h.old (p := ⟨w.heap.size + 1, i, none⟩) (by simp)]
  have := World.cell?_alloc_new (w.alloc (.cells C0 T0)) C1 T1 i
  simp only [World.size_alloc] at this
  rw [this]; exact hi
theorem getL {W : World} {g : Nat} {Z X : Array Value} {T : TypeId} (hz : W.heap[g]? = some (.cells Z T (0, 0)) ∨ W.heap[g]? = some (.cells X T (0, 0))) {n : Nat} (h1 : Z.toList.length = n) (h2 : X.toList.length = n) : ∃ C : List Value, W.heap[g]? = some (.cells C.toArray T (0, 0)) ∧ C.length = n := by
 rcases hz with h | h
 ·exact ⟨Z.toList, by simpa using h, h1⟩
 ·exact ⟨X.toList, by simpa using h, h2⟩
set_option maxRecDepth 100000 in
set_option maxHeartbeats 8000000 in
theorem StyleCounts_any (A0 A1 : Option Addr) (n0 c0 n1 c1 : Nat) (w : World) (hT : Wr.Tabs w) (hL0 : LI w A0 n0) (hL1 : LI w A1 n1) :
  Calls Tryz.prog 7 #[.slice A0 n0 c0, .slice A1 n1 c1] w fun e w' => e = .returned (.bool true) ∧ Ext w w' := by
 have HT := Lib.hid hT
 have HL0 := Lib.hid hL0
 have HL1 := Lib.hid hL1
 clear hT hL0 hL1
 go_enter Tryz.func7, Tryz.ntmps7
 go_wp2_with fail
 refine (sanity_any w HT.out).mono ?_
 rintro e w1 ⟨rfl, hE1⟩
 have HE1 := Lib.hid hE1
 clear hE1
 go_wp2_with fail
 refine (rMade_any A0 n0 c0 w1 (HL0.out.ext HE1.out)).mono ?_
 rintro e w2 ⟨la, us, g, c, d, hM, rfl, hB, hE2⟩
 have HM := Lib.hid hM
 have HB := Lib.hid hB
 have HE2 := Lib.hid (HE1.out.trans hE2)
 clear hM hB hE2
 go_wp2_with fail
 refine (rEnv_any A1 n1 c1 w2 (HL1.out.ext HE2.out)).mono ?_
 rintro e w3 ⟨x, rfl, hE3⟩
 unfold En.v
 go_upto_region 4 with fail
 show Code.wp _ _ _ _ (w3.alloc (.cells (Ev_row x) 28))
 obtain ⟨w4, hw4⟩ : ∃ q, w3.alloc (.cells (Ev_row x) 28) = q := ⟨_, rfl⟩
 obtain ⟨bx, hbx⟩ : ∃ q, w3.heap.size = q := ⟨_, rfl⟩
 have hV := EvB.new w3 x
 have hE4 := Ext.alloc w3 (.cells (Ev_row x) 28)
 rw [hw4] at hV hE4 ⊢
 rw [hbx] at hV ⊢
 have HV := Lib.hid hV
 have HB4 := Lib.hid (HB.out.ext (hE3.trans hE4))
 have HE4 := Lib.hid (HE2.out.trans (hE3.trans hE4))
 clear hw4 hbx hE4 hE3 HB
 have hll : la.length ≤ 4 ∧ 0 < la.length := ⟨HM.out.le, HM.out.pos⟩
 have hcap := HB4.out.cap
 obtain ⟨N, hN⟩ : ∃ q, la.length = q := ⟨_, rfl⟩
 obtain ⟨⟨⟨l1, l2, l3⟩, sL, eL⟩, hL⟩ : ∃ q, lookL la x = q := ⟨_, rfl⟩
 have LK := Lib.hid (HB4.out.row.look x (by omega) fun r hr => (HM.out.ok r hr).1)
 unfold LookR Lk_row at LK
 rw [hL, hN] at LK
 rw [hN] at hll hcap ⊢
 have HN := Lib.hid hN
 have HL := Lib.hid hL
 unfold En.v at LK
 obtain ⟨p0, p1, p2, p3, p4, p5, p6, p7, p8⟩ := hV.cells
 clear hV hN hL
 go_wp2_with fail
 refine LK.out.mono ?_
 rintro e w5 ⟨rfl, hE5⟩
 clear p0 p1 p2 p3 p4 p5 p6 p7 p8 LK
 go_upto_region 5 with fail
 show Code.wp _ _ _ _ (w5.alloc (.cells (Lk_row (l1, l2, l3)) 39))
 obtain ⟨w6, hw6⟩ : ∃ q, w5.alloc (.cells (Lk_row (l1, l2, l3)) 39) = q := ⟨_, rfl⟩
 obtain ⟨bl, hbl⟩ : ∃ q, w5.heap.size = q := ⟨_, rfl⟩
 have hLb := LkB.new w5 (l1, l2, l3)
 have hE6 := hE5.trans (Ext.alloc w5 (.cells (Lk_row (l1, l2, l3)) 39))
 rw [hw6] at hLb hE6 ⊢
 rw [hbl] at hLb ⊢
 have HLB := Lib.hid hLb
 have HE6 := Lib.hid hE6
 clear hw6 hbl hLb hE6 hE5
 have hN4 : (N : Int) ≤ 4 := by omega
 go_wp2_with fail
 go_loopw [11, 12, 13, 14] (fun bv mv av iv wr => ∃ (k : Nat) (best many at_ : Int), k ≤ N ∧ bv = .int .i64 best ∧ mv = .int .i64 many ∧ av = .int .i64 at_ ∧ iv = .int .i64 (k : Int) ∧ Hid (CtOk x la k best many at_) ∧ Hid (Ext w6 wr)) (fun _ _ _ iv _ => N - (intOf iv).toNat)
 case atStart => exact ⟨0, -1, 0, -1, Nat.zero_le _, rfl, rfl, rfl, rfl, Lib.hid (CtOk.start x la), Lib.hid (Ext.refl _)⟩
 case round =>
  obtain ⟨k, best, many, at_, hk, rfl, rfl, rfl, rfl, HC, HE⟩ := hrel
  obtain ⟨wo, hwo⟩ : ∃ q, q = wr := ⟨_, rfl⟩
  subst hwo
  have hbd := HC.out.bd HM.out.le
  have hbb := HC.out.best_bd fun r hr => (HM.out.one r hr).pr
  by_cases hlt : k < N
  ·have t1 : decide (k < N) = true := by simpa using hlt
   have HX := Lib.hid (HE6.out.trans HE.out)
   obtain ⟨u, hu⟩ : ∃ u, us[k]? = some u := ⟨_, List.getElem?_eq_getElem (by rw [HB4.out.len, HN.out]; exact hlt)⟩
   have HR : Hid (la[k]? = some u.r) := Lib.hid (by rw [← HB4.out.m, List.getElem?_map, hu]; rfl)
   have HM1 := Lib.hid (HM.out.one u.r (List.mem_of_getElem? HR.out))
   have HU := Lib.hid hu
   obtain ⟨q, vn, vs, hv, _⟩ := val_bool HM1.out.e1 x
   have EV := Lib.hid (fun (V : World) (h : Ext w4 V) => eval_rule (A := u.A1) (c := u.c1) x V HM1.out.e1 ((HB4.out.ext h).kidsB u (List.mem_of_getElem? HU.out)).k1)
   have hvv : (evV u.r.e1 x).v = .agg #[.int .i64 2, .int .i64 vn, .bool q, .string ⟨vs.toArray⟩] := by rw [hv]; rfl
   rw [hvv] at EV
   unfold Ex.cells En.v at EV
   have HH : Hid (holds x u.r = q) := Lib.hid (by unfold holds; rw [hv])
   obtain ⟨pr, hpr⟩ : ∃ p, u.r.pr = p := ⟨_, rfl⟩
   have hp0 := HM1.out.pr
   rw [hpr] at hp0
   have HPR := Lib.hid hpr
   have HXW := Lib.hid (fun (V : World) (h : OnceS wo.heap.size 44 vzA (vxA 2 vn q vs) wo.drew V) => (HX.out.trans ((Ext.drew wo).trans (show Ext wo.drew V from h.1)) : Ext w4 V))
   have HSZ := Lib.hid (fun (V : World) (h : OnceS wo.heap.size 44 vzA (vxA 2 vn q vs) wo.drew V) => (show wo.heap.size ≤ V.heap.size from h.1.size))
   clear hu hv hvv hpr hk
   go_upto_region 9 with fail
   apply wp_region_link (E := OnceS wo.heap.size 44 vzA (vxA 2 vn q vs)) (OnceS.refl wo.heap.size 44 vzA (vxA 2 vn q vs)) (@OnceS.trans wo.heap.size 44 vzA (vxA 2 vn q vs)) (l := [_, _, _, _, _, _, _, _, _, _, _, _]) (t := [_]) [some 42, some 43, some 44, some 45, some 46, some 47, some 48, some 41, some 49, some 50, some 15, none, some 16] [[], [], [0, 1], [2], [3], [], [4, 5], [6], [7], [7], [], [8, 10], [9]] [12, 12, 12, 12, 12, 12, 12, 12, 12, 12, 12, 12] [eql _, eql _, eql _, eql _, (eql (.agg #[.int .i64 u.r.e1.op, .int .i64 u.r.e1.var, .int .i64 u.r.e1.ty, .int .i64 u.r.e1.n, .bool u.r.e1.b, .string ⟨u.r.e1.s.toArray⟩, .slice u.A1 u.r.e1.l.length u.c1])), (eql (.agg #[.int .i64 x.kind, .string ⟨x.cls.toArray⟩, .string ⟨x.name.toArray⟩, .int .i64 x.weight, .int .i64 x.level, .bool x.stairs, .int .i64 x.scale, .int .i64 x.hour, .int .i64 x.reader])), (eql (.tuple #[.agg #[.int .i64 2, .int .i64 vn, .bool q, .string ⟨vs.toArray⟩], .int .i64 0])), eql _, eql _, eql _, (newL wo.heap.size 44 vzA (vxA 2 vn q vs)), (putL wo.heap.size 44 vzA (vxA 2 vn q vs) 10)] (by kernel_rfl) (by kernel_rfl) (by kernel_rfl) ⟨?o0, ?o1, ?o2, ?o3, ?o4, ?o5, ?o6, ?o7, ?o8, ?o9, ?o10, ?o11, trivial⟩ ?last
   case o0 =>
    intro xv W hE _
    simp only [putD, List.foldl_nil, List.getD_cons_zero]
    refine OpGoal.plain ?_
    go_wp2_with fail
    exact ⟨rfl, (OnceS.refl wo.heap.size 44 vzA (vxA 2 vn q vs)) _, rfl⟩
   case o1 =>
    intro xv W hE _
    simp only [putD, List.foldl_nil, List.getD_cons_zero, List.getD_cons_succ]
    refine OpGoal.plain ?_
    go_wp2_with fail
    exact ⟨rfl, (OnceS.refl wo.heap.size 44 vzA (vxA 2 vn q vs)) _, rfl⟩
   case o2 =>
    intro xv W hE hp
    have r0 : xv 0 = _ := hp.1
    have r1 : xv 1 = _ := hp.2.1
    clear hp
    simp only [putD, foldl_nil, foldl_cons, getD_cons_zero, getD_cons_succ, Act.put, setIfInBounds_toArray, set_cons_zero, set_cons_succ]
    refine OpGoal.plain ?_
    go_wp2_with fail
    exact ⟨rfl, (OnceS.refl wo.heap.size 44 vzA (vxA 2 vn q vs)) _, rfl⟩
   case o3 =>
    intro xv W hE hp
    have r2 : xv 2 = _ := hp.1
    clear hp
    simp only [putD, foldl_nil, foldl_cons, getD_cons_zero, getD_cons_succ, Act.put, setIfInBounds_toArray, set_cons_zero, set_cons_succ]
    refine OpGoal.plain ?_
    go_wp2_with fail
    exact ⟨rfl, (OnceS.refl wo.heap.size 44 vzA (vxA 2 vn q vs)) _, rfl⟩
   case o4 =>
    intro xv W hE hp
    have r3 : xv 3 = _ := hp.1
    clear hp
    obtain ⟨p0, p1, p2, p3, p4, p5, p6, p7, p8⟩ := (HV.out.ext (HXW.out W hE)).cells
    simp only [putD, foldl_nil, foldl_cons, getD_cons_zero, getD_cons_succ, Act.put, setIfInBounds_toArray, set_cons_zero, set_cons_succ]
    refine OpGoal.plain ?_
    have hrr := range1 ((HB4.out.ext (HXW.out W hE)).at_ k u HU.out)
    unfold Ex.cells at hrr
    refine load_E rfl _ rfl g (k * 30 + 2) _ hrr rfl r3 ?_
    go_wp2_with fail
    exact ⟨rfl, (OnceS.refl wo.heap.size 44 vzA (vxA 2 vn q vs)) _, rfl⟩
   case o5 =>
    intro xv W hE _
    obtain ⟨p0, p1, p2, p3, p4, p5, p6, p7, p8⟩ := (HV.out.ext (HXW.out W hE)).cells
    simp only [putD, List.foldl_nil, List.getD_cons_zero, List.getD_cons_succ]
    refine OpGoal.plain ?_
    go_wp2_with fail
    exact ⟨rfl, (OnceS.refl wo.heap.size 44 vzA (vxA 2 vn q vs)) _, rfl⟩
   case o6 =>
    intro xv W hE hp
    have r4 : xv 4 = _ := hp.1
    have r5 : xv 5 = _ := hp.2.1
    clear hp
    simp only [putD, foldl_nil, foldl_cons, getD_cons_zero, getD_cons_succ, Act.put, setIfInBounds_toArray, set_cons_zero, set_cons_succ]
    refine OpGoal.plain ?_
    go_wp2_with fail
    refine (EV.out W (HXW.out W hE)).mono ?_
    rintro e w' ⟨rfl, hE9⟩
    go_wp2_with fail
    exact ⟨rfl, OnceS.ext hE9 (HSZ.out W hE), rfl⟩
   case o7 =>
    intro xv W hE hp
    have r6 : xv 6 = _ := hp.1
    clear hp
    simp only [putD, foldl_nil, foldl_cons, getD_cons_zero, getD_cons_succ, Act.put, setIfInBounds_toArray, set_cons_zero, set_cons_succ]
    refine OpGoal.plain ?_
    go_wp2_with fail
    exact ⟨rfl, (OnceS.refl wo.heap.size 44 vzA (vxA 2 vn q vs)) _, rfl⟩
   case o8 =>
    intro xv W hE hp
    have r7 : xv 7 = _ := hp.1
    clear hp
    simp only [putD, foldl_nil, foldl_cons, getD_cons_zero, getD_cons_succ, Act.put, setIfInBounds_toArray, set_cons_zero, set_cons_succ]
    refine OpGoal.plain ?_
    go_wp2_with fail
    exact ⟨rfl, (OnceS.refl wo.heap.size 44 vzA (vxA 2 vn q vs)) _, rfl⟩
   case o9 =>
    intro xv W hE hp
    have r7 : xv 7 = _ := hp.1
    clear hp
    simp only [putD, foldl_nil, foldl_cons, getD_cons_zero, getD_cons_succ, Act.put, setIfInBounds_toArray, set_cons_zero, set_cons_succ]
    refine OpGoal.plain ?_
    go_wp2_with fail
    exact ⟨rfl, (OnceS.refl wo.heap.size 44 vzA (vxA 2 vn q vs)) _, rfl⟩
   case o10 =>
    intro xv W hE _
    simp only [putD, List.foldl_nil, List.getD_cons_zero, List.getD_cons_succ]
    refine OpGoal.plain ?_
    go_wp2_with fail
    exact ⟨rfl, OnceS.ext (Ext.alloc _ _) (HSZ.out W hE), W.heap.size, rfl, HSZ.out W hE, .inl (Go.heap_alloc_new _ _)⟩
   case o11 =>
    intro xv W hE hp
    have r8 : xv 8 = _ := hp.1
    obtain ⟨g10, r10, lo10, hz10⟩ := hp.2.1
    clear hp
    simp only [putD, foldl_nil, foldl_cons, getD_cons_zero, getD_cons_succ, Act.put, setIfInBounds_toArray, set_cons_zero, set_cons_succ]
    refine OpGoal.plain ?_
    obtain ⟨C, hC, hC4⟩ := getL hz10 (n := 4) rfl rfl
    refine store_T 44 g10 C [.int .i64 2, .int .i64 vn, .bool q, .string ⟨vs.toArray⟩] hC hC4 infoV (vx_one _ _ _ _) rfl _ _ rfl r10 r8 ?_
    intro w' hx' hg'
    go_wp2_with fail
    exact ⟨rfl, fun _ => ⟨OnceS.put (HSZ.out W hE) lo10 hz10 hx' hg', g10, r10, lo10, hx'⟩⟩
   case last =>
    intro xv W hE hp
    have r0 : xv 0 = _ := hp.1
    have r1 : xv 1 = _ := hp.2.1
    have r2 : xv 2 = _ := hp.2.2.1
    have r3 : xv 3 = _ := hp.2.2.2.1
    have r4 : xv 4 = _ := hp.2.2.2.2.1
    have r5 : xv 5 = _ := hp.2.2.2.2.2.1
    have r6 : xv 6 = _ := hp.2.2.2.2.2.2.1
    have r7 : xv 7 = _ := hp.2.2.2.2.2.2.2.1
    have r8 : xv 8 = _ := hp.2.2.2.2.2.2.2.2.1
    have r9 : xv 9 = _ := hp.2.2.2.2.2.2.2.2.2.1
    obtain ⟨g10, r10, lo10, hz10⟩ := hp.2.2.2.2.2.2.2.2.2.2.1
    obtain ⟨g11, r11, lo11, hx11⟩ := hp.2.2.2.2.2.2.2.2.2.2.2.1
    clear hp
    simp only [putD, List.foldl_nil, List.foldl_cons, List.getD_cons_zero, List.getD_cons_succ, Act.put, List.length_cons, List.length_nil, List.range_succ, List.range_zero, List.nil_append, List.cons_append, List.setIfInBounds_toArray, List.set_cons_zero, List.set_cons_succ]
    have HEW := Lib.hid (HE.out.trans ((Ext.drew wo).trans (show Ext wo.drew W from hE.1)))
    have HX4 := Lib.hid (HXW.out W hE)
    have v0 : W.cell? ⟨g11, 0, none⟩ = some (.int .i64 2) := cells_of hx11 0 _ rfl
    have v2 : W.cell? ⟨g11, 2, none⟩ = some (.bool q) := cells_of hx11 2 _ rfl
    have hrg := rn_facts ((HB4.out.ext HX4.out).at_ k u HU.out)
    have cpr := hrg.pr
    rw [HPR.out] at cpr
    rw [r11]
    clear hE HXW HSZ hz10 lo10 lo11 hx11 hrg r10 EV HX
    cases q with
    | false =>
     have HNX := Lib.hid (HC.out.off HR.out HH.out)
     go_wp2_with fail
     go_roundw
     case rel => exact ⟨k + 1, best, many, at_, by omega, rfl, rfl, rfl, by go_num, HNX, HEW⟩
     case measure => simp [intOf]; omega
    | true =>
     rcases Int.lt_trichotomy pr best with hp | hp | hp
     ·have d1 : decide (pr < best) = true := by simpa using hp
      have HNX := Lib.hid (HC.out.low HR.out HH.out (by rw [HPR.out]; exact hp0.1) (by rw [HPR.out]; exact hp))
      clear hp
      go_wp2_with fail
      go_roundw
      case rel => exact ⟨k + 1, best, many, at_, by omega, rfl, rfl, rfl, by go_num, HNX, HEW⟩
      case measure => simp [intOf]; omega
     ·have d1 : decide (pr < best) = false := by simp; omega
      have d2 : decide (best < pr) = false := by simp; omega
      have HNX := Lib.hid (HC.out.eq HR.out HH.out (by rw [HPR.out]; exact hp0.1) (by rw [HPR.out]; exact hp))
      clear hp
      go_wp2_with fail
      go_roundw
      case rel => exact ⟨k + 1, best, many + 1, at_, by omega, rfl, rfl, rfl, by go_num, HNX, HEW⟩
      case measure => simp [intOf]; omega
     ·have d1 : decide (pr < best) = false := by simp; omega
      have d2 : decide (best < pr) = true := by simpa using hp
      have HNX := HC.out.more HR.out HH.out (by rw [HPR.out]; exact hp)
      rw [HPR.out] at HNX
      have HNX := Lib.hid HNX
      clear hp
      go_wp2_with fail
      go_roundw
      case rel => exact ⟨k + 1, pr, 1, k, by omega, rfl, rfl, rfl, by go_num, HNX, HEW⟩
      case measure => simp [intOf]; omega
  ·have t1 : decide (k < N) = false := by simpa using hlt
   have HCN : Hid (CtOk x la la.length best many at_) := Lib.hid (by rw [HN.out, show N = k by omega]; exact HC.out)
   have HEF := Lib.hid (HE4.out.trans (HE6.out.trans HE.out))
   have HLo := Lib.hid (HLB.out.ext HE.out)
   clear hk hlt HC
   by_cases hm : 1 < many
   ·have d1 : decide (1 < many) = true := by simpa using hm
    obtain ⟨s, hs⟩ := HCN.out.end_many hm HM.out.chk
    rw [HL.out] at hs
    simp only [Prod.mk.injEq] at hs
    obtain ⟨⟨rfl, rfl, rfl⟩, rfl, rfl⟩ := hs
    obtain ⟨k0, k1, k2⟩ := HLo.out.cells
    clear hm
    go_wp2_with fail
    go_ret
    exact ⟨rfl, HEF.out⟩
   ·obtain ⟨i, r, hi, rfl, rfl, hl⟩ := HCN.out.end_one hm HM.out
    rw [← HB4.out.m, List.getElem?_map] at hi
    obtain ⟨u, hu, rfl⟩ := Option.map_eq_some_iff.1 hi
    have HU := Lib.hid hu
    have HM1 := Lib.hid (HM.out.one u.r (by rw [← HB4.out.m]; exact List.mem_map_of_mem (List.mem_of_getElem? hu)))
    have hiN : i < N := by rw [← HN.out, ← HB4.out.len]; exact (List.getElem?_eq_some_iff.1 hu).1
    obtain ⟨m1, q1, s1, hv1⟩ := val_int HM1.out.e2 x
    obtain ⟨m2, q2, s2, hv2⟩ := val_int HM1.out.e3 x
    obtain ⟨m3, q3, s3, hv3⟩ := val_int HM1.out.e4 x
    rw [HL.out] at hl
    simp only [lookR, numb, hv1, hv2, hv3, Prod.mk.injEq] at hl
    obtain ⟨⟨rfl, rfl, rfl⟩, rfl, rfl⟩ := hl
    have EV1 := Lib.hid (fun (V : World) (h : Ext w4 V) => eval_rule (A := u.A2) (c := u.c2) x V HM1.out.e2 ((HB4.out.ext h).kidsB u (List.mem_of_getElem? HU.out)).k2)
    have EV2 := Lib.hid (fun (V : World) (h : Ext w4 V) => eval_rule (A := u.A3) (c := u.c3) x V HM1.out.e3 ((HB4.out.ext h).kidsB u (List.mem_of_getElem? HU.out)).k3)
    have EV3 := Lib.hid (fun (V : World) (h : Ext w4 V) => eval_rule (A := u.A4) (c := u.c4) x V HM1.out.e4 ((HB4.out.ext h).kidsB u (List.mem_of_getElem? HU.out)).k4)
    rw [show (evV u.r.e2 x).v = .agg #[.int .i64 1, .int .i64 m1, .bool q1, .string ⟨s1.toArray⟩] by rw [hv1]; rfl] at EV1
    rw [show (evV u.r.e3 x).v = .agg #[.int .i64 1, .int .i64 m2, .bool q2, .string ⟨s2.toArray⟩] by rw [hv2]; rfl] at EV2
    rw [show (evV u.r.e4 x).v = .agg #[.int .i64 1, .int .i64 m3, .bool q3, .string ⟨s3.toArray⟩] by rw [hv3]; rfl] at EV3
    unfold Ex.cells En.v at EV1 EV2 EV3
    have di : decide ((i : Int) < 0) = false := by simp
    have HX := Lib.hid (HE6.out.trans HE.out)
    clear hm hi hu hv1 hv2 hv3 HCN HL
    go_upto_region 20 with fail
    apply wp_region_seq (l := [_, _, _, _, _, _, _, _, _, _, _, _, _, _, _, _, _]) (t := [_]) [some 103, some 104, some 105, some 106, some 107, some 108, some 109, some 110, some 111, some 112, some 113, some 114, some 115, some 116, some 117, some 118, some 17, none] [[], [], [0, 1], [2], [3], [], [], [5, 6], [7], [8], [], [], [10, 11], [12], [13], [4, 9, 14], [], [15, 16]] [17, 17, 17, 17, 17, 17, 17, 17, 17, 17, 17, 17, 17, 17, 17, 17, 17] [eqv _, eqv _, eqv _, eqv _, (eqv (.agg #[.int .i64 u.r.e2.op, .int .i64 u.r.e2.var, .int .i64 u.r.e2.ty, .int .i64 u.r.e2.n, .bool u.r.e2.b, .string ⟨u.r.e2.s.toArray⟩, .slice u.A2 u.r.e2.l.length u.c2])), eqv _, eqv _, eqv _, eqv _, (eqv (.agg #[.int .i64 u.r.e3.op, .int .i64 u.r.e3.var, .int .i64 u.r.e3.ty, .int .i64 u.r.e3.n, .bool u.r.e3.b, .string ⟨u.r.e3.s.toArray⟩, .slice u.A3 u.r.e3.l.length u.c3])), eqv _, eqv _, eqv _, eqv _, (eqv (.agg #[.int .i64 u.r.e4.op, .int .i64 u.r.e4.var, .int .i64 u.r.e4.ty, .int .i64 u.r.e4.n, .bool u.r.e4.b, .string ⟨u.r.e4.s.toArray⟩, .slice u.A4 u.r.e4.l.length u.c4])), (eqv (.agg #[.int .i64 u.r.e2.op, .int .i64 u.r.e2.var, .int .i64 u.r.e2.ty, .int .i64 u.r.e2.n, .bool u.r.e2.b, .string ⟨u.r.e2.s.toArray⟩, .slice u.A2 u.r.e2.l.length u.c2, .int .i64 u.r.e3.op, .int .i64 u.r.e3.var, .int .i64 u.r.e3.ty, .int .i64 u.r.e3.n, .bool u.r.e3.b, .string ⟨u.r.e3.s.toArray⟩, .slice u.A3 u.r.e3.l.length u.c3, .int .i64 u.r.e4.op, .int .i64 u.r.e4.var, .int .i64 u.r.e4.ty, .int .i64 u.r.e4.n, .bool u.r.e4.b, .string ⟨u.r.e4.s.toArray⟩, .slice u.A4 u.r.e4.l.length u.c4])), (newP wo.heap.size 64 z21)] (by kernel_rfl) (by kernel_rfl) ⟨?o0, ?o1, ?o2, ?o3, ?o4, ?o5, ?o6, ?o7, ?o8, ?o9, ?o10, ?o11, ?o12, ?o13, ?o14, ?o15, ?o16, trivial⟩ ?last
    case o0 =>
     intro xv W hE _
     simp only [putD, List.foldl_nil, List.getD_cons_zero]
     refine OpGoal.plain ?_
     go_wp2_with fail
     exact ⟨rfl, Ext.refl _, rfl⟩
    case o1 =>
     intro xv W hE _
     simp only [putD, List.foldl_nil, List.getD_cons_zero, List.getD_cons_succ]
     refine OpGoal.plain ?_
     go_wp2_with fail
     exact ⟨rfl, Ext.refl _, rfl⟩
    case o2 =>
     intro xv W hE hp
     have r0 : xv 0 = _ := hp.1
     have r1 : xv 1 = _ := hp.2.1
     clear hp
     simp only [putD, foldl_nil, foldl_cons, getD_cons_zero, getD_cons_succ, Act.put, setIfInBounds_toArray, set_cons_zero, set_cons_succ]
     refine OpGoal.plain ?_
     go_wp2_with fail
     exact ⟨rfl, Ext.refl _, rfl⟩
    case o3 =>
     intro xv W hE hp
     have r2 : xv 2 = _ := hp.1
     clear hp
     simp only [putD, foldl_nil, foldl_cons, getD_cons_zero, getD_cons_succ, Act.put, setIfInBounds_toArray, set_cons_zero, set_cons_succ]
     refine OpGoal.plain ?_
     go_wp2_with fail
     exact ⟨rfl, Ext.refl _, rfl⟩
    case o4 =>
     intro xv W hE hp
     have r3 : xv 3 = _ := hp.1
     clear hp
     simp only [putD, foldl_nil, foldl_cons, getD_cons_zero, getD_cons_succ, Act.put, setIfInBounds_toArray, set_cons_zero, set_cons_succ]
     refine OpGoal.plain ?_
     have hrr := range2 ((HB4.out.ext (HX.out.trans ((Ext.drew wo).trans hE))).at_ i u HU.out)
     unfold Ex.cells at hrr
     refine load_E rfl _ rfl g (i * 30 + 9) _ hrr rfl r3 ?_
     go_wp2_with fail
     exact ⟨rfl, Ext.refl _, rfl⟩
    case o5 =>
     intro xv W hE _
     simp only [putD, List.foldl_nil, List.getD_cons_zero, List.getD_cons_succ]
     refine OpGoal.plain ?_
     go_wp2_with fail
     exact ⟨rfl, Ext.refl _, rfl⟩
    case o6 =>
     intro xv W hE _
     simp only [putD, List.foldl_nil, List.getD_cons_zero, List.getD_cons_succ]
     refine OpGoal.plain ?_
     go_wp2_with fail
     exact ⟨rfl, Ext.refl _, rfl⟩
    case o7 =>
     intro xv W hE hp
     have r5 : xv 5 = _ := hp.1
     have r6 : xv 6 = _ := hp.2.1
     clear hp
     simp only [putD, foldl_nil, foldl_cons, getD_cons_zero, getD_cons_succ, Act.put, setIfInBounds_toArray, set_cons_zero, set_cons_succ]
     refine OpGoal.plain ?_
     go_wp2_with fail
     exact ⟨rfl, Ext.refl _, rfl⟩
    case o8 =>
     intro xv W hE hp
     have r7 : xv 7 = _ := hp.1
     clear hp
     simp only [putD, foldl_nil, foldl_cons, getD_cons_zero, getD_cons_succ, Act.put, setIfInBounds_toArray, set_cons_zero, set_cons_succ]
     refine OpGoal.plain ?_
     go_wp2_with fail
     exact ⟨rfl, Ext.refl _, rfl⟩
    case o9 =>
     intro xv W hE hp
     have r8 : xv 8 = _ := hp.1
     clear hp
     simp only [putD, foldl_nil, foldl_cons, getD_cons_zero, getD_cons_succ, Act.put, setIfInBounds_toArray, set_cons_zero, set_cons_succ]
     refine OpGoal.plain ?_
     have hrr := range3 ((HB4.out.ext (HX.out.trans ((Ext.drew wo).trans hE))).at_ i u HU.out)
     unfold Ex.cells at hrr
     refine load_E rfl _ rfl g (i * 30 + 16) _ hrr rfl r8 ?_
     go_wp2_with fail
     exact ⟨rfl, Ext.refl _, rfl⟩
    case o10 =>
     intro xv W hE _
     simp only [putD, List.foldl_nil, List.getD_cons_zero, List.getD_cons_succ]
     refine OpGoal.plain ?_
     go_wp2_with fail
     exact ⟨rfl, Ext.refl _, rfl⟩
    case o11 =>
     intro xv W hE _
     simp only [putD, List.foldl_nil, List.getD_cons_zero, List.getD_cons_succ]
     refine OpGoal.plain ?_
     go_wp2_with fail
     exact ⟨rfl, Ext.refl _, rfl⟩
    case o12 =>
     intro xv W hE hp
     have r10 : xv 10 = _ := hp.1
     have r11 : xv 11 = _ := hp.2.1
     clear hp
     simp only [putD, foldl_nil, foldl_cons, getD_cons_zero, getD_cons_succ, Act.put, setIfInBounds_toArray, set_cons_zero, set_cons_succ]
     refine OpGoal.plain ?_
     go_wp2_with fail
     exact ⟨rfl, Ext.refl _, rfl⟩
    case o13 =>
     intro xv W hE hp
     have r12 : xv 12 = _ := hp.1
     clear hp
     simp only [putD, foldl_nil, foldl_cons, getD_cons_zero, getD_cons_succ, Act.put, setIfInBounds_toArray, set_cons_zero, set_cons_succ]
     refine OpGoal.plain ?_
     go_wp2_with fail
     exact ⟨rfl, Ext.refl _, rfl⟩
    case o14 =>
     intro xv W hE hp
     have r13 : xv 13 = _ := hp.1
     clear hp
     simp only [putD, foldl_nil, foldl_cons, getD_cons_zero, getD_cons_succ, Act.put, setIfInBounds_toArray, set_cons_zero, set_cons_succ]
     refine OpGoal.plain ?_
     have hrr := range4 ((HB4.out.ext (HX.out.trans ((Ext.drew wo).trans hE))).at_ i u HU.out)
     unfold Ex.cells at hrr
     refine load_E rfl _ rfl g (i * 30 + 23) _ hrr rfl r13 ?_
     go_wp2_with fail
     exact ⟨rfl, Ext.refl _, rfl⟩
    case o15 =>
     intro xv W hE hp
     have r4 : xv 4 = _ := hp.1
     have r9 : xv 9 = _ := hp.2.1
     have r14 : xv 14 = _ := hp.2.2.1
     clear hp
     simp only [putD, foldl_nil, foldl_cons, getD_cons_zero, getD_cons_succ, Act.put, setIfInBounds_toArray, set_cons_zero, set_cons_succ]
     refine OpGoal.plain ?_
     go_wp2_with fail
     exact ⟨rfl, Ext.refl _, rfl⟩
    case o16 =>
     intro xv W hE _
     simp only [putD, List.foldl_nil, List.getD_cons_zero, List.getD_cons_succ]
     refine OpGoal.plain ?_
     go_wp2_with fail
     exact ⟨rfl, Ext.alloc _ _, W.heap.size, rfl, hE.sz, Go.heap_alloc_new _ _⟩
    case last =>
     intro xv W hE hp
     have r0 : xv 0 = _ := hp.1
     have r1 : xv 1 = _ := hp.2.1
     have r2 : xv 2 = _ := hp.2.2.1
     have r3 : xv 3 = _ := hp.2.2.2.1
     have r4 : xv 4 = _ := hp.2.2.2.2.1
     have r5 : xv 5 = _ := hp.2.2.2.2.2.1
     have r6 : xv 6 = _ := hp.2.2.2.2.2.2.1
     have r7 : xv 7 = _ := hp.2.2.2.2.2.2.2.1
     have r8 : xv 8 = _ := hp.2.2.2.2.2.2.2.2.1
     have r9 : xv 9 = _ := hp.2.2.2.2.2.2.2.2.2.1
     have r10 : xv 10 = _ := hp.2.2.2.2.2.2.2.2.2.2.1
     have r11 : xv 11 = _ := hp.2.2.2.2.2.2.2.2.2.2.2.1
     have r12 : xv 12 = _ := hp.2.2.2.2.2.2.2.2.2.2.2.2.1
     have r13 : xv 13 = _ := hp.2.2.2.2.2.2.2.2.2.2.2.2.2.1
     have r14 : xv 14 = _ := hp.2.2.2.2.2.2.2.2.2.2.2.2.2.2.1
     have r15 : xv 15 = _ := hp.2.2.2.2.2.2.2.2.2.2.2.2.2.2.2.1
     obtain ⟨g16, r16, lo16, hz16⟩ := hp.2.2.2.2.2.2.2.2.2.2.2.2.2.2.2.2.1
     clear hp
     simp only [putD, List.foldl_nil, List.foldl_cons, List.getD_cons_zero, List.getD_cons_succ, Act.put, List.length_cons, List.length_nil, List.range_succ, List.range_zero, List.nil_append, List.cons_append, List.setIfInBounds_toArray, List.set_cons_zero, List.set_cons_succ]
     rw [r15, r16]
     have hE20 := (Ext.drew wo).trans hE
     have HE20 := Lib.hid hE20
     have hz : W.heap[g16]? = some (.cells z21.toList.toArray 64 (0, 0)) := by simpa using hz16
     clear hE hz16 r3 r8 r13
     go_upto_region 21 with (refine store_T 64 g16 z21.toList (u.r.e2.cells u.A2 u.c2 ++ (u.r.e3.cells u.A3 u.c3 ++ u.r.e4.cells u.A4 u.c4)) hz rfl info3E (one21 _ _ _ _ _ _ _ _ _) rfl _ _ rfl rfl rfl ?_; intro wA hA hgA)
     have hEA : Ext wo wA := ext_fresh HE20.out hgA lo16
     obtain ⟨g1, g2, g3⟩ := three_rng hA rfl rfl
     have HG := Lib.hid (fun (V : World) (h : Ext wA V) => (⟨range_ext g1 (Array.getElem?_eq_some_iff.1 hA).1 h, range_ext g2 (Array.getElem?_eq_some_iff.1 hA).1 h, range_ext g3 (Array.getElem?_eq_some_iff.1 hA).1 h⟩ : V.rangeAt g16 0 (u.r.e2.cells u.A2 u.c2) ∧ V.rangeAt g16 7 (u.r.e3.cells u.A3 u.c3) ∧ V.rangeAt g16 14 (u.r.e4.cells u.A4 u.c4)))
     have HEA := Lib.hid (HX.out.trans hEA)
     have HEFA := Lib.hid (HEF.out.trans hEA)
     obtain ⟨k0, k1, k2⟩ := (HLo.out.ext hEA).cells
     obtain ⟨wB, hwB, hEB, b1, b2⟩ := two_boxes wA #[.int .i64 (max 0 (min m1 255)), .int .i64 (max 0 (min m2 16)), .int .i64 (max 0 (min m3 8))] #[.int .i64 255, .int .i64 16, .int .i64 8] 23 23
     have HB1 : Hid (∀ V : World, Ext wB V → V.cell? ⟨wA.heap.size, 0, none⟩ = some (.int .i64 (max 0 (min m1 255))) ∧ V.cell? ⟨wA.heap.size, 1, none⟩ = some (.int .i64 (max 0 (min m2 16))) ∧ V.cell? ⟨wA.heap.size, 2, none⟩ = some (.int .i64 (max 0 (min m3 8)))) := Lib.hid fun V h => ⟨b1 V h 0 _ rfl, b1 V h 1 _ rfl, b1 V h 2 _ rfl⟩
     have HB2 : Hid (∀ V : World, Ext wB V → V.cell? ⟨wA.heap.size + 1, 0, none⟩ = some (.int .i64 255) ∧ V.cell? ⟨wA.heap.size + 1, 1, none⟩ = some (.int .i64 16) ∧ V.cell? ⟨wA.heap.size + 1, 2, none⟩ = some (.int .i64 8)) := Lib.hid fun V h => ⟨b2 V h 0 _ rfl, b2 V h 1 _ rfl, b2 V h 2 _ rfl⟩
     have HWB := Lib.hid hwB
     have HEB := Lib.hid hEB
     clear hwB hEB b1 b2 g1 g2 g3 hA hgA hEA hE20 HE20 hz HX HEF HLo
     go_upto_region 23 with fail
     rw [HWB.out]
     have HEB4 := Lib.hid (HEA.out.trans HEB.out)
     clear HWB k0 k1 k2 r0 r1 r2 r4 r5 r6 r7 r9 r10 r11 r12 r14 r15 r16
     go_wp2_with fail
     go_loopw [20] (fun jv wr => ∃ j : Nat, j ≤ 3 ∧ jv = .int .i64 (j : Int) ∧ Hid (Ext wB wr)) (fun jv _ => 3 - (intOf jv).toNat)
     case atStart => exact ⟨0, Nat.zero_le _, rfl, Lib.hid (Ext.refl _)⟩
     case round =>
      obtain ⟨j, hj, rfl, HJ⟩ := hrel
      obtain ⟨wp, hwp⟩ : ∃ q, q = wr := ⟨_, rfl⟩
      subst hwp
      by_cases hj3 : j < 3
      ·have HJX := Lib.hid (HEB4.out.trans HJ.out)
       rcases (by omega : j = 0 ∨ j = 1 ∨ j = 2) with rfl | rfl | rfl
       ·have HXW := Lib.hid (fun (V : World) (h : OnceS wp.heap.size 44 vzA (vxA 1 m1 q1 s1) wp.drew V) => (HJX.out.trans ((Ext.drew wp).trans (show Ext wp.drew V from h.1)) : Ext w4 V))
        have HXB := Lib.hid (fun (V : World) (h : OnceS wp.heap.size 44 vzA (vxA 1 m1 q1 s1) wp.drew V) => (HJ.out.trans ((Ext.drew wp).trans (show Ext wp.drew V from h.1)) : Ext wB V))
        have HSZ := Lib.hid (fun (V : World) (h : OnceS wp.heap.size 44 vzA (vxA 1 m1 q1 s1) wp.drew V) => (show wp.heap.size ≤ V.heap.size from h.1.size))
        go_upto_region 26 with fail
        apply wp_region_link (E := OnceS wp.heap.size 44 vzA (vxA 1 m1 q1 s1)) (OnceS.refl wp.heap.size 44 vzA (vxA 1 m1 q1 s1)) (@OnceS.trans wp.heap.size 44 vzA (vxA 1 m1 q1 s1)) (l := [_, _, _, _, _, _, _, _, _, _]) (t := [_]) [some 132, some 133, some 134, some 135, some 136, some 131, some 137, some 138, some 21, none, some 22] [[], [0], [1], [], [2, 3], [4], [5], [5], [], [6, 8], [7]] [10, 10, 10, 10, 10, 10, 10, 10, 10, 10] [eql _, eql _, (eql (.agg #[.int .i64 u.r.e2.op, .int .i64 u.r.e2.var, .int .i64 u.r.e2.ty, .int .i64 u.r.e2.n, .bool u.r.e2.b, .string ⟨u.r.e2.s.toArray⟩, .slice u.A2 u.r.e2.l.length u.c2])), (eql (.agg #[.int .i64 x.kind, .string ⟨x.cls.toArray⟩, .string ⟨x.name.toArray⟩, .int .i64 x.weight, .int .i64 x.level, .bool x.stairs, .int .i64 x.scale, .int .i64 x.hour, .int .i64 x.reader])), (eql (.tuple #[.agg #[.int .i64 1, .int .i64 m1, .bool q1, .string ⟨s1.toArray⟩], .int .i64 0])), eql _, eql _, eql _, (newL wp.heap.size 44 vzA (vxA 1 m1 q1 s1)), (putL wp.heap.size 44 vzA (vxA 1 m1 q1 s1) 8)] (by kernel_rfl) (by kernel_rfl) (by kernel_rfl) ⟨?o0, ?o1, ?o2, ?o3, ?o4, ?o5, ?o6, ?o7, ?o8, ?o9, trivial⟩ ?last
        case o0 =>
         intro xv W hE _
         simp only [putD, List.foldl_nil, List.getD_cons_zero]
         refine OpGoal.plain ?_
         go_wp2_with fail
         exact ⟨rfl, (OnceS.refl wp.heap.size 44 vzA (vxA 1 m1 q1 s1)) _, rfl⟩
        case o1 =>
         intro xv W hE hp
         have r0 : xv 0 = _ := hp.1
         clear hp
         simp only [putD, foldl_nil, foldl_cons, getD_cons_zero, getD_cons_succ, Act.put, setIfInBounds_toArray, set_cons_zero, set_cons_succ]
         refine OpGoal.plain ?_
         go_wp2_with fail
         exact ⟨rfl, (OnceS.refl wp.heap.size 44 vzA (vxA 1 m1 q1 s1)) _, rfl⟩
        case o2 =>
         intro xv W hE hp
         have r1 : xv 1 = _ := hp.1
         clear hp
         obtain ⟨p0, p1, p2, p3, p4, p5, p6, p7, p8⟩ := (HV.out.ext (HXW.out W hE)).cells
         simp only [putD, foldl_nil, foldl_cons, getD_cons_zero, getD_cons_succ, Act.put, setIfInBounds_toArray, set_cons_zero, set_cons_succ]
         refine OpGoal.plain ?_
         have hrr := (HG.out W (HEB.out.trans (HXB.out W hE))).1
         unfold Ex.cells at hrr
         refine load_E rfl _ rfl g16 0 _ hrr rfl r1 ?_
         go_wp2_with fail
         exact ⟨rfl, (OnceS.refl wp.heap.size 44 vzA (vxA 1 m1 q1 s1)) _, rfl⟩
        case o3 =>
         intro xv W hE _
         obtain ⟨p0, p1, p2, p3, p4, p5, p6, p7, p8⟩ := (HV.out.ext (HXW.out W hE)).cells
         simp only [putD, List.foldl_nil, List.getD_cons_zero, List.getD_cons_succ]
         refine OpGoal.plain ?_
         go_wp2_with fail
         exact ⟨rfl, (OnceS.refl wp.heap.size 44 vzA (vxA 1 m1 q1 s1)) _, rfl⟩
        case o4 =>
         intro xv W hE hp
         have r2 : xv 2 = _ := hp.1
         have r3 : xv 3 = _ := hp.2.1
         clear hp
         simp only [putD, foldl_nil, foldl_cons, getD_cons_zero, getD_cons_succ, Act.put, setIfInBounds_toArray, set_cons_zero, set_cons_succ]
         refine OpGoal.plain ?_
         go_wp2_with fail
         refine (EV1.out W (HXW.out W hE)).mono ?_
         rintro e w' ⟨rfl, hE9⟩
         go_wp2_with fail
         exact ⟨rfl, OnceS.ext hE9 (HSZ.out W hE), rfl⟩
        case o5 =>
         intro xv W hE hp
         have r4 : xv 4 = _ := hp.1
         clear hp
         simp only [putD, foldl_nil, foldl_cons, getD_cons_zero, getD_cons_succ, Act.put, setIfInBounds_toArray, set_cons_zero, set_cons_succ]
         refine OpGoal.plain ?_
         go_wp2_with fail
         exact ⟨rfl, (OnceS.refl wp.heap.size 44 vzA (vxA 1 m1 q1 s1)) _, rfl⟩
        case o6 =>
         intro xv W hE hp
         have r5 : xv 5 = _ := hp.1
         clear hp
         simp only [putD, foldl_nil, foldl_cons, getD_cons_zero, getD_cons_succ, Act.put, setIfInBounds_toArray, set_cons_zero, set_cons_succ]
         refine OpGoal.plain ?_
         go_wp2_with fail
         exact ⟨rfl, (OnceS.refl wp.heap.size 44 vzA (vxA 1 m1 q1 s1)) _, rfl⟩
        case o7 =>
         intro xv W hE hp
         have r5 : xv 5 = _ := hp.1
         clear hp
         simp only [putD, foldl_nil, foldl_cons, getD_cons_zero, getD_cons_succ, Act.put, setIfInBounds_toArray, set_cons_zero, set_cons_succ]
         refine OpGoal.plain ?_
         go_wp2_with fail
         exact ⟨rfl, (OnceS.refl wp.heap.size 44 vzA (vxA 1 m1 q1 s1)) _, rfl⟩
        case o8 =>
         intro xv W hE _
         simp only [putD, List.foldl_nil, List.getD_cons_zero, List.getD_cons_succ]
         refine OpGoal.plain ?_
         go_wp2_with fail
         exact ⟨rfl, OnceS.ext (Ext.alloc _ _) (HSZ.out W hE), W.heap.size, rfl, HSZ.out W hE, .inl (Go.heap_alloc_new _ _)⟩
        case o9 =>
         intro xv W hE hp
         have r6 : xv 6 = _ := hp.1
         obtain ⟨g8, r8, lo8, hz8⟩ := hp.2.1
         clear hp
         simp only [putD, foldl_nil, foldl_cons, getD_cons_zero, getD_cons_succ, Act.put, setIfInBounds_toArray, set_cons_zero, set_cons_succ]
         refine OpGoal.plain ?_
         obtain ⟨C, hC, hC4⟩ := getL hz8 (n := 4) rfl rfl
         refine store_T 44 g8 C [.int .i64 1, .int .i64 m1, .bool q1, .string ⟨s1.toArray⟩] hC hC4 infoV (vx_one _ _ _ _) rfl _ _ rfl r8 r6 ?_
         intro w' hx' hg'
         go_wp2_with fail
         exact ⟨rfl, fun _ => ⟨OnceS.put (HSZ.out W hE) lo8 hz8 hx' hg', g8, r8, lo8, hx'⟩⟩
        case last =>
         intro xv W hE hp
         have r0 : xv 0 = _ := hp.1
         have r1 : xv 1 = _ := hp.2.1
         have r2 : xv 2 = _ := hp.2.2.1
         have r3 : xv 3 = _ := hp.2.2.2.1
         have r4 : xv 4 = _ := hp.2.2.2.2.1
         have r5 : xv 5 = _ := hp.2.2.2.2.2.1
         have r6 : xv 6 = _ := hp.2.2.2.2.2.2.1
         have r7 : xv 7 = _ := hp.2.2.2.2.2.2.2.1
         obtain ⟨g8, r8, lo8, hz8⟩ := hp.2.2.2.2.2.2.2.2.1
         obtain ⟨g9, r9, lo9, hx9⟩ := hp.2.2.2.2.2.2.2.2.2.1
         clear hp
         simp only [putD, List.foldl_nil, List.foldl_cons, List.getD_cons_zero, List.getD_cons_succ, Act.put, List.length_cons, List.length_nil, List.range_succ, List.range_zero, List.nil_append, List.cons_append, List.setIfInBounds_toArray, List.set_cons_zero, List.set_cons_succ]
         have HEW := Lib.hid (HJ.out.trans ((Ext.drew wp).trans (show Ext wp.drew W from hE.1)))
         have HVX := Lib.hid (fun (V : World) (h : Ext W V) => ((h.old (p := ⟨g9, 1, none⟩) (Array.getElem?_eq_some_iff.1 hx9).1).trans (cells_of hx9 1 _ rfl) : V.cell? ⟨g9, 1, none⟩ = some (.int .i64 m1)))
         rw [r9]
         clear hE HXW HXB HSZ hz8 lo8 lo9 hx9 r8 HJX hj hj3
         go_upto_region 27 with fail
         apply wp_region_seq (l := [_, _, _, _, _, _, _, _, _, _, _, _, _, _]) (t := [_]) [some 139, some 140, some 141, some 142, some 143, some 144, some 145, some 146, some 147, some 148, some 149, some 150, some 151, some 152, some 153] [[], [0], [1], [2], [2, 3], [2, 4], [2], [2, 6], [2], [2, 8], [2, 9], [2, 7, 10], [2, 11], [2, 5, 12], [2, 13]] [1, 2, 14, 4, 5, 13, 7, 11, 9, 10, 11, 12, 13, 14] [eqv _, eqv _, eqv _, eqv _, eqv _, eqv _, eqv _, eqv _, eqv _, eqv _, eqv _, eqv _, eqv _, (eqv (.bool false))] (by kernel_rfl) (by kernel_rfl) ⟨?o0, ?o1, ?o2, ?o3, ?o4, ?o5, ?o6, ?o7, ?o8, ?o9, ?o10, ?o11, ?o12, ?o13, trivial⟩ ?last
         case o0 =>
          intro xv W2 hE _
          simp only [putD, List.foldl_nil, List.getD_cons_zero]
          refine OpGoal.plain ?_
          go_wp2_with fail
          exact ⟨rfl, Ext.refl _, rfl⟩
         case o1 =>
          intro xv W2 hE hp
          have r0 : xv 0 = _ := hp.1
          clear hp
          simp only [putD, foldl_nil, foldl_cons, getD_cons_zero, getD_cons_succ, Act.put, setIfInBounds_toArray, set_cons_zero, set_cons_succ]
          refine OpGoal.plain ?_
          go_wp2_with fail
          exact ⟨rfl, Ext.refl _, rfl⟩
         case o2 =>
          intro xv W2 hE hp
          have r1 : xv 1 = _ := hp.1
          clear hp
          simp only [putD, foldl_nil, foldl_cons, getD_cons_zero, getD_cons_succ, Act.put, setIfInBounds_toArray, set_cons_zero, set_cons_succ]
          refine OpGoal.plain ?_
          go_wp2_with fail
          exact ⟨rfl, Ext.refl _, rfl⟩
         case o3 =>
          intro xv W2 hE hp
          have r2 : xv 2 = _ := hp.1
          clear hp
          simp only [putD, foldl_nil, foldl_cons, getD_cons_zero, getD_cons_succ, Act.put, setIfInBounds_toArray, set_cons_zero, set_cons_succ]
          refine OpGoal.yes (by simp [yieldD, r2]) ?_
          go_wp2_with fail
          exact ⟨rfl, Ext.refl _, rfl⟩
         case o4 =>
          intro xv W2 hE hp
          have r2 : xv 2 = _ := hp.1
          have r3 : xv 3 = _ := hp.2.1
          clear hp
          simp only [putD, foldl_nil, foldl_cons, getD_cons_zero, getD_cons_succ, Act.put, setIfInBounds_toArray, set_cons_zero, set_cons_succ]
          refine OpGoal.yes (by simp [yieldD, r2]) ?_
          go_wp2_with fail
          exact ⟨rfl, Ext.refl _, rfl⟩
         case o5 =>
          intro xv W2 hE hp
          have r2 : xv 2 = _ := hp.1
          have r4 : xv 4 = _ := hp.2.1
          clear hp
          obtain ⟨y0, y1, y2⟩ := HB1.out W2 (HEW.out.trans ((Ext.drew W).trans hE))
          obtain ⟨z0, z1, z2⟩ := HB2.out W2 (HEW.out.trans ((Ext.drew W).trans hE))
          have cv := HVX.out W2 ((Ext.drew W).trans hE)
          simp only [putD, foldl_nil, foldl_cons, getD_cons_zero, getD_cons_succ, Act.put, setIfInBounds_toArray, set_cons_zero, set_cons_succ]
          refine OpGoal.yes (by simp [yieldD, r2]) ?_
          go_wp2_with fail
          exact ⟨rfl, Ext.refl _, rfl⟩
         case o6 =>
          intro xv W2 hE hp
          have r2 : xv 2 = _ := hp.1
          clear hp
          simp only [putD, foldl_nil, foldl_cons, getD_cons_zero, getD_cons_succ, Act.put, setIfInBounds_toArray, set_cons_zero, set_cons_succ]
          refine OpGoal.yes (by simp [yieldD, r2]) ?_
          go_wp2_with fail
          exact ⟨rfl, Ext.refl _, rfl⟩
         case o7 =>
          intro xv W2 hE hp
          have r2 : xv 2 = _ := hp.1
          have r6 : xv 6 = _ := hp.2.1
          clear hp
          obtain ⟨y0, y1, y2⟩ := HB1.out W2 (HEW.out.trans ((Ext.drew W).trans hE))
          obtain ⟨z0, z1, z2⟩ := HB2.out W2 (HEW.out.trans ((Ext.drew W).trans hE))
          have cv := HVX.out W2 ((Ext.drew W).trans hE)
          simp only [putD, foldl_nil, foldl_cons, getD_cons_zero, getD_cons_succ, Act.put, setIfInBounds_toArray, set_cons_zero, set_cons_succ]
          refine OpGoal.yes (by simp [yieldD, r2]) ?_
          go_wp2_with fail
          exact ⟨rfl, Ext.refl _, rfl⟩
         case o8 =>
          intro xv W2 hE hp
          have r2 : xv 2 = _ := hp.1
          clear hp
          simp only [putD, foldl_nil, foldl_cons, getD_cons_zero, getD_cons_succ, Act.put, setIfInBounds_toArray, set_cons_zero, set_cons_succ]
          refine OpGoal.yes (by simp [yieldD, r2]) ?_
          go_wp2_with fail
          exact ⟨rfl, Ext.refl _, rfl⟩
         case o9 =>
          intro xv W2 hE hp
          have r2 : xv 2 = _ := hp.1
          have r8 : xv 8 = _ := hp.2.1
          clear hp
          simp only [putD, foldl_nil, foldl_cons, getD_cons_zero, getD_cons_succ, Act.put, setIfInBounds_toArray, set_cons_zero, set_cons_succ]
          refine OpGoal.yes (by simp [yieldD, r2]) ?_
          go_wp2_with fail
          exact ⟨rfl, Ext.refl _, rfl⟩
         case o10 =>
          intro xv W2 hE hp
          have r2 : xv 2 = _ := hp.1
          have r9 : xv 9 = _ := hp.2.1
          clear hp
          obtain ⟨y0, y1, y2⟩ := HB1.out W2 (HEW.out.trans ((Ext.drew W).trans hE))
          obtain ⟨z0, z1, z2⟩ := HB2.out W2 (HEW.out.trans ((Ext.drew W).trans hE))
          have cv := HVX.out W2 ((Ext.drew W).trans hE)
          simp only [putD, foldl_nil, foldl_cons, getD_cons_zero, getD_cons_succ, Act.put, setIfInBounds_toArray, set_cons_zero, set_cons_succ]
          refine OpGoal.yes (by simp [yieldD, r2]) ?_
          go_wp2_with fail
          exact ⟨rfl, Ext.refl _, rfl⟩
         case o11 =>
          intro xv W2 hE hp
          have r2 : xv 2 = _ := hp.1
          have r7 : xv 7 = _ := hp.2.1
          have r10 : xv 10 = _ := hp.2.2.1
          clear hp
          simp only [putD, foldl_nil, foldl_cons, getD_cons_zero, getD_cons_succ, Act.put, setIfInBounds_toArray, set_cons_zero, set_cons_succ]
          refine OpGoal.yes (by simp [yieldD, r2]) ?_
          go_wp2_with fail
          exact ⟨rfl, Ext.refl _, rfl⟩
         case o12 =>
          intro xv W2 hE hp
          have r2 : xv 2 = _ := hp.1
          have r11 : xv 11 = _ := hp.2.1
          clear hp
          simp only [putD, foldl_nil, foldl_cons, getD_cons_zero, getD_cons_succ, Act.put, setIfInBounds_toArray, set_cons_zero, set_cons_succ]
          refine OpGoal.yes (by simp [yieldD, r2]) ?_
          go_wp2_with fail
          exact ⟨rfl, Ext.refl _, rfl⟩
         case o13 =>
          intro xv W2 hE hp
          have r2 : xv 2 = _ := hp.1
          have r5 : xv 5 = _ := hp.2.1
          have r12 : xv 12 = _ := hp.2.2.1
          clear hp
          simp only [putD, foldl_nil, foldl_cons, getD_cons_zero, getD_cons_succ, Act.put, setIfInBounds_toArray, set_cons_zero, set_cons_succ]
          refine OpGoal.yes (by simp [yieldD, r2]) ?_
          go_wp2_with fail
          exact ⟨rfl, Ext.refl _, rfl⟩
         case last =>
          intro xv W2 hE hp
          have r0 : xv 0 = _ := hp.1
          have r1 : xv 1 = _ := hp.2.1
          have r2 : xv 2 = _ := hp.2.2.1
          have r3 : xv 3 = _ := hp.2.2.2.1
          have r4 : xv 4 = _ := hp.2.2.2.2.1
          have r5 : xv 5 = _ := hp.2.2.2.2.2.1
          have r6 : xv 6 = _ := hp.2.2.2.2.2.2.1
          have r7 : xv 7 = _ := hp.2.2.2.2.2.2.2.1
          have r8 : xv 8 = _ := hp.2.2.2.2.2.2.2.2.1
          have r9 : xv 9 = _ := hp.2.2.2.2.2.2.2.2.2.1
          have r10 : xv 10 = _ := hp.2.2.2.2.2.2.2.2.2.2.1
          have r11 : xv 11 = _ := hp.2.2.2.2.2.2.2.2.2.2.2.1
          have r12 : xv 12 = _ := hp.2.2.2.2.2.2.2.2.2.2.2.2.1
          have r13 : xv 13 = _ := hp.2.2.2.2.2.2.2.2.2.2.2.2.2.1
          clear hp
          simp only [putD, List.foldl_nil, List.foldl_cons, List.getD_cons_zero, List.getD_cons_succ, Act.put, List.length_cons, List.length_nil, List.range_succ, List.range_zero, List.nil_append, List.cons_append, List.setIfInBounds_toArray, List.set_cons_zero, List.set_cons_succ]
          have HNX := Lib.hid (HEW.out.trans ((Ext.drew W).trans hE))
          rw [r13]
          clear hE HEW HVX
          go_wp2_with fail
          go_roundw
          case rel => exact ⟨1, by decide, rfl, HNX⟩
          case measure => simp [intOf]
       ·have HXW := Lib.hid (fun (V : World) (h : OnceS wp.heap.size 44 vzA (vxA 1 m2 q2 s2) wp.drew V) => (HJX.out.trans ((Ext.drew wp).trans (show Ext wp.drew V from h.1)) : Ext w4 V))
        have HXB := Lib.hid (fun (V : World) (h : OnceS wp.heap.size 44 vzA (vxA 1 m2 q2 s2) wp.drew V) => (HJ.out.trans ((Ext.drew wp).trans (show Ext wp.drew V from h.1)) : Ext wB V))
        have HSZ := Lib.hid (fun (V : World) (h : OnceS wp.heap.size 44 vzA (vxA 1 m2 q2 s2) wp.drew V) => (show wp.heap.size ≤ V.heap.size from h.1.size))
        go_upto_region 26 with fail
        apply wp_region_link (E := OnceS wp.heap.size 44 vzA (vxA 1 m2 q2 s2)) (OnceS.refl wp.heap.size 44 vzA (vxA 1 m2 q2 s2)) (@OnceS.trans wp.heap.size 44 vzA (vxA 1 m2 q2 s2)) (l := [_, _, _, _, _, _, _, _, _, _]) (t := [_]) [some 132, some 133, some 134, some 135, some 136, some 131, some 137, some 138, some 21, none, some 22] [[], [0], [1], [], [2, 3], [4], [5], [5], [], [6, 8], [7]] [10, 10, 10, 10, 10, 10, 10, 10, 10, 10] [eql _, eql _, (eql (.agg #[.int .i64 u.r.e3.op, .int .i64 u.r.e3.var, .int .i64 u.r.e3.ty, .int .i64 u.r.e3.n, .bool u.r.e3.b, .string ⟨u.r.e3.s.toArray⟩, .slice u.A3 u.r.e3.l.length u.c3])), (eql (.agg #[.int .i64 x.kind, .string ⟨x.cls.toArray⟩, .string ⟨x.name.toArray⟩, .int .i64 x.weight, .int .i64 x.level, .bool x.stairs, .int .i64 x.scale, .int .i64 x.hour, .int .i64 x.reader])), (eql (.tuple #[.agg #[.int .i64 1, .int .i64 m2, .bool q2, .string ⟨s2.toArray⟩], .int .i64 0])), eql _, eql _, eql _, (newL wp.heap.size 44 vzA (vxA 1 m2 q2 s2)), (putL wp.heap.size 44 vzA (vxA 1 m2 q2 s2) 8)] (by kernel_rfl) (by kernel_rfl) (by kernel_rfl) ⟨?o0, ?o1, ?o2, ?o3, ?o4, ?o5, ?o6, ?o7, ?o8, ?o9, trivial⟩ ?last
        case o0 =>
         intro xv W hE _
         simp only [putD, List.foldl_nil, List.getD_cons_zero]
         refine OpGoal.plain ?_
         go_wp2_with fail
         exact ⟨rfl, (OnceS.refl wp.heap.size 44 vzA (vxA 1 m2 q2 s2)) _, rfl⟩
        case o1 =>
         intro xv W hE hp
         have r0 : xv 0 = _ := hp.1
         clear hp
         simp only [putD, foldl_nil, foldl_cons, getD_cons_zero, getD_cons_succ, Act.put, setIfInBounds_toArray, set_cons_zero, set_cons_succ]
         refine OpGoal.plain ?_
         go_wp2_with fail
         exact ⟨rfl, (OnceS.refl wp.heap.size 44 vzA (vxA 1 m2 q2 s2)) _, rfl⟩
        case o2 =>
         intro xv W hE hp
         have r1 : xv 1 = _ := hp.1
         clear hp
         obtain ⟨p0, p1, p2, p3, p4, p5, p6, p7, p8⟩ := (HV.out.ext (HXW.out W hE)).cells
         simp only [putD, foldl_nil, foldl_cons, getD_cons_zero, getD_cons_succ, Act.put, setIfInBounds_toArray, set_cons_zero, set_cons_succ]
         refine OpGoal.plain ?_
         have hrr := (HG.out W (HEB.out.trans (HXB.out W hE))).2.1
         unfold Ex.cells at hrr
         refine load_E rfl _ rfl g16 7 _ hrr rfl r1 ?_
         go_wp2_with fail
         exact ⟨rfl, (OnceS.refl wp.heap.size 44 vzA (vxA 1 m2 q2 s2)) _, rfl⟩
        case o3 =>
         intro xv W hE _
         obtain ⟨p0, p1, p2, p3, p4, p5, p6, p7, p8⟩ := (HV.out.ext (HXW.out W hE)).cells
         simp only [putD, List.foldl_nil, List.getD_cons_zero, List.getD_cons_succ]
         refine OpGoal.plain ?_
         go_wp2_with fail
         exact ⟨rfl, (OnceS.refl wp.heap.size 44 vzA (vxA 1 m2 q2 s2)) _, rfl⟩
        case o4 =>
         intro xv W hE hp
         have r2 : xv 2 = _ := hp.1
         have r3 : xv 3 = _ := hp.2.1
         clear hp
         simp only [putD, foldl_nil, foldl_cons, getD_cons_zero, getD_cons_succ, Act.put, setIfInBounds_toArray, set_cons_zero, set_cons_succ]
         refine OpGoal.plain ?_
         go_wp2_with fail
         refine (EV2.out W (HXW.out W hE)).mono ?_
         rintro e w' ⟨rfl, hE9⟩
         go_wp2_with fail
         exact ⟨rfl, OnceS.ext hE9 (HSZ.out W hE), rfl⟩
        case o5 =>
         intro xv W hE hp
         have r4 : xv 4 = _ := hp.1
         clear hp
         simp only [putD, foldl_nil, foldl_cons, getD_cons_zero, getD_cons_succ, Act.put, setIfInBounds_toArray, set_cons_zero, set_cons_succ]
         refine OpGoal.plain ?_
         go_wp2_with fail
         exact ⟨rfl, (OnceS.refl wp.heap.size 44 vzA (vxA 1 m2 q2 s2)) _, rfl⟩
        case o6 =>
         intro xv W hE hp
         have r5 : xv 5 = _ := hp.1
         clear hp
         simp only [putD, foldl_nil, foldl_cons, getD_cons_zero, getD_cons_succ, Act.put, setIfInBounds_toArray, set_cons_zero, set_cons_succ]
         refine OpGoal.plain ?_
         go_wp2_with fail
         exact ⟨rfl, (OnceS.refl wp.heap.size 44 vzA (vxA 1 m2 q2 s2)) _, rfl⟩
        case o7 =>
         intro xv W hE hp
         have r5 : xv 5 = _ := hp.1
         clear hp
         simp only [putD, foldl_nil, foldl_cons, getD_cons_zero, getD_cons_succ, Act.put, setIfInBounds_toArray, set_cons_zero, set_cons_succ]
         refine OpGoal.plain ?_
         go_wp2_with fail
         exact ⟨rfl, (OnceS.refl wp.heap.size 44 vzA (vxA 1 m2 q2 s2)) _, rfl⟩
        case o8 =>
         intro xv W hE _
         simp only [putD, List.foldl_nil, List.getD_cons_zero, List.getD_cons_succ]
         refine OpGoal.plain ?_
         go_wp2_with fail
         exact ⟨rfl, OnceS.ext (Ext.alloc _ _) (HSZ.out W hE), W.heap.size, rfl, HSZ.out W hE, .inl (Go.heap_alloc_new _ _)⟩
        case o9 =>
         intro xv W hE hp
         have r6 : xv 6 = _ := hp.1
         obtain ⟨g8, r8, lo8, hz8⟩ := hp.2.1
         clear hp
         simp only [putD, foldl_nil, foldl_cons, getD_cons_zero, getD_cons_succ, Act.put, setIfInBounds_toArray, set_cons_zero, set_cons_succ]
         refine OpGoal.plain ?_
         obtain ⟨C, hC, hC4⟩ := getL hz8 (n := 4) rfl rfl
         refine store_T 44 g8 C [.int .i64 1, .int .i64 m2, .bool q2, .string ⟨s2.toArray⟩] hC hC4 infoV (vx_one _ _ _ _) rfl _ _ rfl r8 r6 ?_
         intro w' hx' hg'
         go_wp2_with fail
         exact ⟨rfl, fun _ => ⟨OnceS.put (HSZ.out W hE) lo8 hz8 hx' hg', g8, r8, lo8, hx'⟩⟩
        case last =>
         intro xv W hE hp
         have r0 : xv 0 = _ := hp.1
         have r1 : xv 1 = _ := hp.2.1
         have r2 : xv 2 = _ := hp.2.2.1
         have r3 : xv 3 = _ := hp.2.2.2.1
         have r4 : xv 4 = _ := hp.2.2.2.2.1
         have r5 : xv 5 = _ := hp.2.2.2.2.2.1
         have r6 : xv 6 = _ := hp.2.2.2.2.2.2.1
         have r7 : xv 7 = _ := hp.2.2.2.2.2.2.2.1
         obtain ⟨g8, r8, lo8, hz8⟩ := hp.2.2.2.2.2.2.2.2.1
         obtain ⟨g9, r9, lo9, hx9⟩ := hp.2.2.2.2.2.2.2.2.2.1
         clear hp
         simp only [putD, List.foldl_nil, List.foldl_cons, List.getD_cons_zero, List.getD_cons_succ, Act.put, List.length_cons, List.length_nil, List.range_succ, List.range_zero, List.nil_append, List.cons_append, List.setIfInBounds_toArray, List.set_cons_zero, List.set_cons_succ]
         have HEW := Lib.hid (HJ.out.trans ((Ext.drew wp).trans (show Ext wp.drew W from hE.1)))
         have HVX := Lib.hid (fun (V : World) (h : Ext W V) => ((h.old (p := ⟨g9, 1, none⟩) (Array.getElem?_eq_some_iff.1 hx9).1).trans (cells_of hx9 1 _ rfl) : V.cell? ⟨g9, 1, none⟩ = some (.int .i64 m2)))
         rw [r9]
         clear hE HXW HXB HSZ hz8 lo8 lo9 hx9 r8 HJX hj hj3
         go_upto_region 27 with fail
         apply wp_region_seq (l := [_, _, _, _, _, _, _, _, _, _, _, _, _, _]) (t := [_]) [some 139, some 140, some 141, some 142, some 143, some 144, some 145, some 146, some 147, some 148, some 149, some 150, some 151, some 152, some 153] [[], [0], [1], [2], [2, 3], [2, 4], [2], [2, 6], [2], [2, 8], [2, 9], [2, 7, 10], [2, 11], [2, 5, 12], [2, 13]] [1, 2, 14, 4, 5, 13, 7, 11, 9, 10, 11, 12, 13, 14] [eqv _, eqv _, eqv _, eqv _, eqv _, eqv _, eqv _, eqv _, eqv _, eqv _, eqv _, eqv _, eqv _, (eqv (.bool false))] (by kernel_rfl) (by kernel_rfl) ⟨?o0, ?o1, ?o2, ?o3, ?o4, ?o5, ?o6, ?o7, ?o8, ?o9, ?o10, ?o11, ?o12, ?o13, trivial⟩ ?last
         case o0 =>
          intro xv W2 hE _
          simp only [putD, List.foldl_nil, List.getD_cons_zero]
          refine OpGoal.plain ?_
          go_wp2_with fail
          exact ⟨rfl, Ext.refl _, rfl⟩
         case o1 =>
          intro xv W2 hE hp
          have r0 : xv 0 = _ := hp.1
          clear hp
          simp only [putD, foldl_nil, foldl_cons, getD_cons_zero, getD_cons_succ, Act.put, setIfInBounds_toArray, set_cons_zero, set_cons_succ]
          refine OpGoal.plain ?_
          go_wp2_with fail
          exact ⟨rfl, Ext.refl _, rfl⟩
         case o2 =>
          intro xv W2 hE hp
          have r1 : xv 1 = _ := hp.1
          clear hp
          simp only [putD, foldl_nil, foldl_cons, getD_cons_zero, getD_cons_succ, Act.put, setIfInBounds_toArray, set_cons_zero, set_cons_succ]
          refine OpGoal.plain ?_
          go_wp2_with fail
          exact ⟨rfl, Ext.refl _, rfl⟩
         case o3 =>
          intro xv W2 hE hp
          have r2 : xv 2 = _ := hp.1
          clear hp
          simp only [putD, foldl_nil, foldl_cons, getD_cons_zero, getD_cons_succ, Act.put, setIfInBounds_toArray, set_cons_zero, set_cons_succ]
          refine OpGoal.yes (by simp [yieldD, r2]) ?_
          go_wp2_with fail
          exact ⟨rfl, Ext.refl _, rfl⟩
         case o4 =>
          intro xv W2 hE hp
          have r2 : xv 2 = _ := hp.1
          have r3 : xv 3 = _ := hp.2.1
          clear hp
          simp only [putD, foldl_nil, foldl_cons, getD_cons_zero, getD_cons_succ, Act.put, setIfInBounds_toArray, set_cons_zero, set_cons_succ]
          refine OpGoal.yes (by simp [yieldD, r2]) ?_
          go_wp2_with fail
          exact ⟨rfl, Ext.refl _, rfl⟩
         case o5 =>
          intro xv W2 hE hp
          have r2 : xv 2 = _ := hp.1
          have r4 : xv 4 = _ := hp.2.1
          clear hp
          obtain ⟨y0, y1, y2⟩ := HB1.out W2 (HEW.out.trans ((Ext.drew W).trans hE))
          obtain ⟨z0, z1, z2⟩ := HB2.out W2 (HEW.out.trans ((Ext.drew W).trans hE))
          have cv := HVX.out W2 ((Ext.drew W).trans hE)
          simp only [putD, foldl_nil, foldl_cons, getD_cons_zero, getD_cons_succ, Act.put, setIfInBounds_toArray, set_cons_zero, set_cons_succ]
          refine OpGoal.yes (by simp [yieldD, r2]) ?_
          go_wp2_with fail
          exact ⟨rfl, Ext.refl _, rfl⟩
         case o6 =>
          intro xv W2 hE hp
          have r2 : xv 2 = _ := hp.1
          clear hp
          simp only [putD, foldl_nil, foldl_cons, getD_cons_zero, getD_cons_succ, Act.put, setIfInBounds_toArray, set_cons_zero, set_cons_succ]
          refine OpGoal.yes (by simp [yieldD, r2]) ?_
          go_wp2_with fail
          exact ⟨rfl, Ext.refl _, rfl⟩
         case o7 =>
          intro xv W2 hE hp
          have r2 : xv 2 = _ := hp.1
          have r6 : xv 6 = _ := hp.2.1
          clear hp
          obtain ⟨y0, y1, y2⟩ := HB1.out W2 (HEW.out.trans ((Ext.drew W).trans hE))
          obtain ⟨z0, z1, z2⟩ := HB2.out W2 (HEW.out.trans ((Ext.drew W).trans hE))
          have cv := HVX.out W2 ((Ext.drew W).trans hE)
          simp only [putD, foldl_nil, foldl_cons, getD_cons_zero, getD_cons_succ, Act.put, setIfInBounds_toArray, set_cons_zero, set_cons_succ]
          refine OpGoal.yes (by simp [yieldD, r2]) ?_
          go_wp2_with fail
          exact ⟨rfl, Ext.refl _, rfl⟩
         case o8 =>
          intro xv W2 hE hp
          have r2 : xv 2 = _ := hp.1
          clear hp
          simp only [putD, foldl_nil, foldl_cons, getD_cons_zero, getD_cons_succ, Act.put, setIfInBounds_toArray, set_cons_zero, set_cons_succ]
          refine OpGoal.yes (by simp [yieldD, r2]) ?_
          go_wp2_with fail
          exact ⟨rfl, Ext.refl _, rfl⟩
         case o9 =>
          intro xv W2 hE hp
          have r2 : xv 2 = _ := hp.1
          have r8 : xv 8 = _ := hp.2.1
          clear hp
          simp only [putD, foldl_nil, foldl_cons, getD_cons_zero, getD_cons_succ, Act.put, setIfInBounds_toArray, set_cons_zero, set_cons_succ]
          refine OpGoal.yes (by simp [yieldD, r2]) ?_
          go_wp2_with fail
          exact ⟨rfl, Ext.refl _, rfl⟩
         case o10 =>
          intro xv W2 hE hp
          have r2 : xv 2 = _ := hp.1
          have r9 : xv 9 = _ := hp.2.1
          clear hp
          obtain ⟨y0, y1, y2⟩ := HB1.out W2 (HEW.out.trans ((Ext.drew W).trans hE))
          obtain ⟨z0, z1, z2⟩ := HB2.out W2 (HEW.out.trans ((Ext.drew W).trans hE))
          have cv := HVX.out W2 ((Ext.drew W).trans hE)
          simp only [putD, foldl_nil, foldl_cons, getD_cons_zero, getD_cons_succ, Act.put, setIfInBounds_toArray, set_cons_zero, set_cons_succ]
          refine OpGoal.yes (by simp [yieldD, r2]) ?_
          go_wp2_with fail
          exact ⟨rfl, Ext.refl _, rfl⟩
         case o11 =>
          intro xv W2 hE hp
          have r2 : xv 2 = _ := hp.1
          have r7 : xv 7 = _ := hp.2.1
          have r10 : xv 10 = _ := hp.2.2.1
          clear hp
          simp only [putD, foldl_nil, foldl_cons, getD_cons_zero, getD_cons_succ, Act.put, setIfInBounds_toArray, set_cons_zero, set_cons_succ]
          refine OpGoal.yes (by simp [yieldD, r2]) ?_
          go_wp2_with fail
          exact ⟨rfl, Ext.refl _, rfl⟩
         case o12 =>
          intro xv W2 hE hp
          have r2 : xv 2 = _ := hp.1
          have r11 : xv 11 = _ := hp.2.1
          clear hp
          simp only [putD, foldl_nil, foldl_cons, getD_cons_zero, getD_cons_succ, Act.put, setIfInBounds_toArray, set_cons_zero, set_cons_succ]
          refine OpGoal.yes (by simp [yieldD, r2]) ?_
          go_wp2_with fail
          exact ⟨rfl, Ext.refl _, rfl⟩
         case o13 =>
          intro xv W2 hE hp
          have r2 : xv 2 = _ := hp.1
          have r5 : xv 5 = _ := hp.2.1
          have r12 : xv 12 = _ := hp.2.2.1
          clear hp
          simp only [putD, foldl_nil, foldl_cons, getD_cons_zero, getD_cons_succ, Act.put, setIfInBounds_toArray, set_cons_zero, set_cons_succ]
          refine OpGoal.yes (by simp [yieldD, r2]) ?_
          go_wp2_with fail
          exact ⟨rfl, Ext.refl _, rfl⟩
         case last =>
          intro xv W2 hE hp
          have r0 : xv 0 = _ := hp.1
          have r1 : xv 1 = _ := hp.2.1
          have r2 : xv 2 = _ := hp.2.2.1
          have r3 : xv 3 = _ := hp.2.2.2.1
          have r4 : xv 4 = _ := hp.2.2.2.2.1
          have r5 : xv 5 = _ := hp.2.2.2.2.2.1
          have r6 : xv 6 = _ := hp.2.2.2.2.2.2.1
          have r7 : xv 7 = _ := hp.2.2.2.2.2.2.2.1
          have r8 : xv 8 = _ := hp.2.2.2.2.2.2.2.2.1
          have r9 : xv 9 = _ := hp.2.2.2.2.2.2.2.2.2.1
          have r10 : xv 10 = _ := hp.2.2.2.2.2.2.2.2.2.2.1
          have r11 : xv 11 = _ := hp.2.2.2.2.2.2.2.2.2.2.2.1
          have r12 : xv 12 = _ := hp.2.2.2.2.2.2.2.2.2.2.2.2.1
          have r13 : xv 13 = _ := hp.2.2.2.2.2.2.2.2.2.2.2.2.2.1
          clear hp
          simp only [putD, List.foldl_nil, List.foldl_cons, List.getD_cons_zero, List.getD_cons_succ, Act.put, List.length_cons, List.length_nil, List.range_succ, List.range_zero, List.nil_append, List.cons_append, List.setIfInBounds_toArray, List.set_cons_zero, List.set_cons_succ]
          have HNX := Lib.hid (HEW.out.trans ((Ext.drew W).trans hE))
          rw [r13]
          clear hE HEW HVX
          go_wp2_with fail
          go_roundw
          case rel => exact ⟨2, by decide, rfl, HNX⟩
          case measure => simp [intOf]
       ·have HXW := Lib.hid (fun (V : World) (h : OnceS wp.heap.size 44 vzA (vxA 1 m3 q3 s3) wp.drew V) => (HJX.out.trans ((Ext.drew wp).trans (show Ext wp.drew V from h.1)) : Ext w4 V))
        have HXB := Lib.hid (fun (V : World) (h : OnceS wp.heap.size 44 vzA (vxA 1 m3 q3 s3) wp.drew V) => (HJ.out.trans ((Ext.drew wp).trans (show Ext wp.drew V from h.1)) : Ext wB V))
        have HSZ := Lib.hid (fun (V : World) (h : OnceS wp.heap.size 44 vzA (vxA 1 m3 q3 s3) wp.drew V) => (show wp.heap.size ≤ V.heap.size from h.1.size))
        go_upto_region 26 with fail
        apply wp_region_link (E := OnceS wp.heap.size 44 vzA (vxA 1 m3 q3 s3)) (OnceS.refl wp.heap.size 44 vzA (vxA 1 m3 q3 s3)) (@OnceS.trans wp.heap.size 44 vzA (vxA 1 m3 q3 s3)) (l := [_, _, _, _, _, _, _, _, _, _]) (t := [_]) [some 132, some 133, some 134, some 135, some 136, some 131, some 137, some 138, some 21, none, some 22] [[], [0], [1], [], [2, 3], [4], [5], [5], [], [6, 8], [7]] [10, 10, 10, 10, 10, 10, 10, 10, 10, 10] [eql _, eql _, (eql (.agg #[.int .i64 u.r.e4.op, .int .i64 u.r.e4.var, .int .i64 u.r.e4.ty, .int .i64 u.r.e4.n, .bool u.r.e4.b, .string ⟨u.r.e4.s.toArray⟩, .slice u.A4 u.r.e4.l.length u.c4])), (eql (.agg #[.int .i64 x.kind, .string ⟨x.cls.toArray⟩, .string ⟨x.name.toArray⟩, .int .i64 x.weight, .int .i64 x.level, .bool x.stairs, .int .i64 x.scale, .int .i64 x.hour, .int .i64 x.reader])), (eql (.tuple #[.agg #[.int .i64 1, .int .i64 m3, .bool q3, .string ⟨s3.toArray⟩], .int .i64 0])), eql _, eql _, eql _, (newL wp.heap.size 44 vzA (vxA 1 m3 q3 s3)), (putL wp.heap.size 44 vzA (vxA 1 m3 q3 s3) 8)] (by kernel_rfl) (by kernel_rfl) (by kernel_rfl) ⟨?o0, ?o1, ?o2, ?o3, ?o4, ?o5, ?o6, ?o7, ?o8, ?o9, trivial⟩ ?last
        case o0 =>
         intro xv W hE _
         simp only [putD, List.foldl_nil, List.getD_cons_zero]
         refine OpGoal.plain ?_
         go_wp2_with fail
         exact ⟨rfl, (OnceS.refl wp.heap.size 44 vzA (vxA 1 m3 q3 s3)) _, rfl⟩
        case o1 =>
         intro xv W hE hp
         have r0 : xv 0 = _ := hp.1
         clear hp
         simp only [putD, foldl_nil, foldl_cons, getD_cons_zero, getD_cons_succ, Act.put, setIfInBounds_toArray, set_cons_zero, set_cons_succ]
         refine OpGoal.plain ?_
         go_wp2_with fail
         exact ⟨rfl, (OnceS.refl wp.heap.size 44 vzA (vxA 1 m3 q3 s3)) _, rfl⟩
        case o2 =>
         intro xv W hE hp
         have r1 : xv 1 = _ := hp.1
         clear hp
         obtain ⟨p0, p1, p2, p3, p4, p5, p6, p7, p8⟩ := (HV.out.ext (HXW.out W hE)).cells
         simp only [putD, foldl_nil, foldl_cons, getD_cons_zero, getD_cons_succ, Act.put, setIfInBounds_toArray, set_cons_zero, set_cons_succ]
         refine OpGoal.plain ?_
         have hrr := (HG.out W (HEB.out.trans (HXB.out W hE))).2.2
         unfold Ex.cells at hrr
         refine load_E rfl _ rfl g16 14 _ hrr rfl r1 ?_
         go_wp2_with fail
         exact ⟨rfl, (OnceS.refl wp.heap.size 44 vzA (vxA 1 m3 q3 s3)) _, rfl⟩
        case o3 =>
         intro xv W hE _
         obtain ⟨p0, p1, p2, p3, p4, p5, p6, p7, p8⟩ := (HV.out.ext (HXW.out W hE)).cells
         simp only [putD, List.foldl_nil, List.getD_cons_zero, List.getD_cons_succ]
         refine OpGoal.plain ?_
         go_wp2_with fail
         exact ⟨rfl, (OnceS.refl wp.heap.size 44 vzA (vxA 1 m3 q3 s3)) _, rfl⟩
        case o4 =>
         intro xv W hE hp
         have r2 : xv 2 = _ := hp.1
         have r3 : xv 3 = _ := hp.2.1
         clear hp
         simp only [putD, foldl_nil, foldl_cons, getD_cons_zero, getD_cons_succ, Act.put, setIfInBounds_toArray, set_cons_zero, set_cons_succ]
         refine OpGoal.plain ?_
         go_wp2_with fail
         refine (EV3.out W (HXW.out W hE)).mono ?_
         rintro e w' ⟨rfl, hE9⟩
         go_wp2_with fail
         exact ⟨rfl, OnceS.ext hE9 (HSZ.out W hE), rfl⟩
        case o5 =>
         intro xv W hE hp
         have r4 : xv 4 = _ := hp.1
         clear hp
         simp only [putD, foldl_nil, foldl_cons, getD_cons_zero, getD_cons_succ, Act.put, setIfInBounds_toArray, set_cons_zero, set_cons_succ]
         refine OpGoal.plain ?_
         go_wp2_with fail
         exact ⟨rfl, (OnceS.refl wp.heap.size 44 vzA (vxA 1 m3 q3 s3)) _, rfl⟩
        case o6 =>
         intro xv W hE hp
         have r5 : xv 5 = _ := hp.1
         clear hp
         simp only [putD, foldl_nil, foldl_cons, getD_cons_zero, getD_cons_succ, Act.put, setIfInBounds_toArray, set_cons_zero, set_cons_succ]
         refine OpGoal.plain ?_
         go_wp2_with fail
         exact ⟨rfl, (OnceS.refl wp.heap.size 44 vzA (vxA 1 m3 q3 s3)) _, rfl⟩
        case o7 =>
         intro xv W hE hp
         have r5 : xv 5 = _ := hp.1
         clear hp
         simp only [putD, foldl_nil, foldl_cons, getD_cons_zero, getD_cons_succ, Act.put, setIfInBounds_toArray, set_cons_zero, set_cons_succ]
         refine OpGoal.plain ?_
         go_wp2_with fail
         exact ⟨rfl, (OnceS.refl wp.heap.size 44 vzA (vxA 1 m3 q3 s3)) _, rfl⟩
        case o8 =>
         intro xv W hE _
         simp only [putD, List.foldl_nil, List.getD_cons_zero, List.getD_cons_succ]
         refine OpGoal.plain ?_
         go_wp2_with fail
         exact ⟨rfl, OnceS.ext (Ext.alloc _ _) (HSZ.out W hE), W.heap.size, rfl, HSZ.out W hE, .inl (Go.heap_alloc_new _ _)⟩
        case o9 =>
         intro xv W hE hp
         have r6 : xv 6 = _ := hp.1
         obtain ⟨g8, r8, lo8, hz8⟩ := hp.2.1
         clear hp
         simp only [putD, foldl_nil, foldl_cons, getD_cons_zero, getD_cons_succ, Act.put, setIfInBounds_toArray, set_cons_zero, set_cons_succ]
         refine OpGoal.plain ?_
         obtain ⟨C, hC, hC4⟩ := getL hz8 (n := 4) rfl rfl
         refine store_T 44 g8 C [.int .i64 1, .int .i64 m3, .bool q3, .string ⟨s3.toArray⟩] hC hC4 infoV (vx_one _ _ _ _) rfl _ _ rfl r8 r6 ?_
         intro w' hx' hg'
         go_wp2_with fail
         exact ⟨rfl, fun _ => ⟨OnceS.put (HSZ.out W hE) lo8 hz8 hx' hg', g8, r8, lo8, hx'⟩⟩
        case last =>
         intro xv W hE hp
         have r0 : xv 0 = _ := hp.1
         have r1 : xv 1 = _ := hp.2.1
         have r2 : xv 2 = _ := hp.2.2.1
         have r3 : xv 3 = _ := hp.2.2.2.1
         have r4 : xv 4 = _ := hp.2.2.2.2.1
         have r5 : xv 5 = _ := hp.2.2.2.2.2.1
         have r6 : xv 6 = _ := hp.2.2.2.2.2.2.1
         have r7 : xv 7 = _ := hp.2.2.2.2.2.2.2.1
         obtain ⟨g8, r8, lo8, hz8⟩ := hp.2.2.2.2.2.2.2.2.1
         obtain ⟨g9, r9, lo9, hx9⟩ := hp.2.2.2.2.2.2.2.2.2.1
         clear hp
         simp only [putD, List.foldl_nil, List.foldl_cons, List.getD_cons_zero, List.getD_cons_succ, Act.put, List.length_cons, List.length_nil, List.range_succ, List.range_zero, List.nil_append, List.cons_append, List.setIfInBounds_toArray, List.set_cons_zero, List.set_cons_succ]
         have HEW := Lib.hid (HJ.out.trans ((Ext.drew wp).trans (show Ext wp.drew W from hE.1)))
         have HVX := Lib.hid (fun (V : World) (h : Ext W V) => ((h.old (p := ⟨g9, 1, none⟩) (Array.getElem?_eq_some_iff.1 hx9).1).trans (cells_of hx9 1 _ rfl) : V.cell? ⟨g9, 1, none⟩ = some (.int .i64 m3)))
         rw [r9]
         clear hE HXW HXB HSZ hz8 lo8 lo9 hx9 r8 HJX hj hj3
         go_upto_region 27 with fail
         apply wp_region_seq (l := [_, _, _, _, _, _, _, _, _, _, _, _, _, _]) (t := [_]) [some 139, some 140, some 141, some 142, some 143, some 144, some 145, some 146, some 147, some 148, some 149, some 150, some 151, some 152, some 153] [[], [0], [1], [2], [2, 3], [2, 4], [2], [2, 6], [2], [2, 8], [2, 9], [2, 7, 10], [2, 11], [2, 5, 12], [2, 13]] [1, 2, 14, 4, 5, 13, 7, 11, 9, 10, 11, 12, 13, 14] [eqv _, eqv _, eqv _, eqv _, eqv _, eqv _, eqv _, eqv _, eqv _, eqv _, eqv _, eqv _, eqv _, (eqv (.bool false))] (by kernel_rfl) (by kernel_rfl) ⟨?o0, ?o1, ?o2, ?o3, ?o4, ?o5, ?o6, ?o7, ?o8, ?o9, ?o10, ?o11, ?o12, ?o13, trivial⟩ ?last
         case o0 =>
          intro xv W2 hE _
          simp only [putD, List.foldl_nil, List.getD_cons_zero]
          refine OpGoal.plain ?_
          go_wp2_with fail
          exact ⟨rfl, Ext.refl _, rfl⟩
         case o1 =>
          intro xv W2 hE hp
          have r0 : xv 0 = _ := hp.1
          clear hp
          simp only [putD, foldl_nil, foldl_cons, getD_cons_zero, getD_cons_succ, Act.put, setIfInBounds_toArray, set_cons_zero, set_cons_succ]
          refine OpGoal.plain ?_
          go_wp2_with fail
          exact ⟨rfl, Ext.refl _, rfl⟩
         case o2 =>
          intro xv W2 hE hp
          have r1 : xv 1 = _ := hp.1
          clear hp
          simp only [putD, foldl_nil, foldl_cons, getD_cons_zero, getD_cons_succ, Act.put, setIfInBounds_toArray, set_cons_zero, set_cons_succ]
          refine OpGoal.plain ?_
          go_wp2_with fail
          exact ⟨rfl, Ext.refl _, rfl⟩
         case o3 =>
          intro xv W2 hE hp
          have r2 : xv 2 = _ := hp.1
          clear hp
          simp only [putD, foldl_nil, foldl_cons, getD_cons_zero, getD_cons_succ, Act.put, setIfInBounds_toArray, set_cons_zero, set_cons_succ]
          refine OpGoal.yes (by simp [yieldD, r2]) ?_
          go_wp2_with fail
          exact ⟨rfl, Ext.refl _, rfl⟩
         case o4 =>
          intro xv W2 hE hp
          have r2 : xv 2 = _ := hp.1
          have r3 : xv 3 = _ := hp.2.1
          clear hp
          simp only [putD, foldl_nil, foldl_cons, getD_cons_zero, getD_cons_succ, Act.put, setIfInBounds_toArray, set_cons_zero, set_cons_succ]
          refine OpGoal.yes (by simp [yieldD, r2]) ?_
          go_wp2_with fail
          exact ⟨rfl, Ext.refl _, rfl⟩
         case o5 =>
          intro xv W2 hE hp
          have r2 : xv 2 = _ := hp.1
          have r4 : xv 4 = _ := hp.2.1
          clear hp
          obtain ⟨y0, y1, y2⟩ := HB1.out W2 (HEW.out.trans ((Ext.drew W).trans hE))
          obtain ⟨z0, z1, z2⟩ := HB2.out W2 (HEW.out.trans ((Ext.drew W).trans hE))
          have cv := HVX.out W2 ((Ext.drew W).trans hE)
          simp only [putD, foldl_nil, foldl_cons, getD_cons_zero, getD_cons_succ, Act.put, setIfInBounds_toArray, set_cons_zero, set_cons_succ]
          refine OpGoal.yes (by simp [yieldD, r2]) ?_
          go_wp2_with fail
          exact ⟨rfl, Ext.refl _, rfl⟩
         case o6 =>
          intro xv W2 hE hp
          have r2 : xv 2 = _ := hp.1
          clear hp
          simp only [putD, foldl_nil, foldl_cons, getD_cons_zero, getD_cons_succ, Act.put, setIfInBounds_toArray, set_cons_zero, set_cons_succ]
          refine OpGoal.yes (by simp [yieldD, r2]) ?_
          go_wp2_with fail
          exact ⟨rfl, Ext.refl _, rfl⟩
         case o7 =>
          intro xv W2 hE hp
          have r2 : xv 2 = _ := hp.1
          have r6 : xv 6 = _ := hp.2.1
          clear hp
          obtain ⟨y0, y1, y2⟩ := HB1.out W2 (HEW.out.trans ((Ext.drew W).trans hE))
          obtain ⟨z0, z1, z2⟩ := HB2.out W2 (HEW.out.trans ((Ext.drew W).trans hE))
          have cv := HVX.out W2 ((Ext.drew W).trans hE)
          simp only [putD, foldl_nil, foldl_cons, getD_cons_zero, getD_cons_succ, Act.put, setIfInBounds_toArray, set_cons_zero, set_cons_succ]
          refine OpGoal.yes (by simp [yieldD, r2]) ?_
          go_wp2_with fail
          exact ⟨rfl, Ext.refl _, rfl⟩
         case o8 =>
          intro xv W2 hE hp
          have r2 : xv 2 = _ := hp.1
          clear hp
          simp only [putD, foldl_nil, foldl_cons, getD_cons_zero, getD_cons_succ, Act.put, setIfInBounds_toArray, set_cons_zero, set_cons_succ]
          refine OpGoal.yes (by simp [yieldD, r2]) ?_
          go_wp2_with fail
          exact ⟨rfl, Ext.refl _, rfl⟩
         case o9 =>
          intro xv W2 hE hp
          have r2 : xv 2 = _ := hp.1
          have r8 : xv 8 = _ := hp.2.1
          clear hp
          simp only [putD, foldl_nil, foldl_cons, getD_cons_zero, getD_cons_succ, Act.put, setIfInBounds_toArray, set_cons_zero, set_cons_succ]
          refine OpGoal.yes (by simp [yieldD, r2]) ?_
          go_wp2_with fail
          exact ⟨rfl, Ext.refl _, rfl⟩
         case o10 =>
          intro xv W2 hE hp
          have r2 : xv 2 = _ := hp.1
          have r9 : xv 9 = _ := hp.2.1
          clear hp
          obtain ⟨y0, y1, y2⟩ := HB1.out W2 (HEW.out.trans ((Ext.drew W).trans hE))
          obtain ⟨z0, z1, z2⟩ := HB2.out W2 (HEW.out.trans ((Ext.drew W).trans hE))
          have cv := HVX.out W2 ((Ext.drew W).trans hE)
          simp only [putD, foldl_nil, foldl_cons, getD_cons_zero, getD_cons_succ, Act.put, setIfInBounds_toArray, set_cons_zero, set_cons_succ]
          refine OpGoal.yes (by simp [yieldD, r2]) ?_
          go_wp2_with fail
          exact ⟨rfl, Ext.refl _, rfl⟩
         case o11 =>
          intro xv W2 hE hp
          have r2 : xv 2 = _ := hp.1
          have r7 : xv 7 = _ := hp.2.1
          have r10 : xv 10 = _ := hp.2.2.1
          clear hp
          simp only [putD, foldl_nil, foldl_cons, getD_cons_zero, getD_cons_succ, Act.put, setIfInBounds_toArray, set_cons_zero, set_cons_succ]
          refine OpGoal.yes (by simp [yieldD, r2]) ?_
          go_wp2_with fail
          exact ⟨rfl, Ext.refl _, rfl⟩
         case o12 =>
          intro xv W2 hE hp
          have r2 : xv 2 = _ := hp.1
          have r11 : xv 11 = _ := hp.2.1
          clear hp
          simp only [putD, foldl_nil, foldl_cons, getD_cons_zero, getD_cons_succ, Act.put, setIfInBounds_toArray, set_cons_zero, set_cons_succ]
          refine OpGoal.yes (by simp [yieldD, r2]) ?_
          go_wp2_with fail
          exact ⟨rfl, Ext.refl _, rfl⟩
         case o13 =>
          intro xv W2 hE hp
          have r2 : xv 2 = _ := hp.1
          have r5 : xv 5 = _ := hp.2.1
          have r12 : xv 12 = _ := hp.2.2.1
          clear hp
          simp only [putD, foldl_nil, foldl_cons, getD_cons_zero, getD_cons_succ, Act.put, setIfInBounds_toArray, set_cons_zero, set_cons_succ]
          refine OpGoal.yes (by simp [yieldD, r2]) ?_
          go_wp2_with fail
          exact ⟨rfl, Ext.refl _, rfl⟩
         case last =>
          intro xv W2 hE hp
          have r0 : xv 0 = _ := hp.1
          have r1 : xv 1 = _ := hp.2.1
          have r2 : xv 2 = _ := hp.2.2.1
          have r3 : xv 3 = _ := hp.2.2.2.1
          have r4 : xv 4 = _ := hp.2.2.2.2.1
          have r5 : xv 5 = _ := hp.2.2.2.2.2.1
          have r6 : xv 6 = _ := hp.2.2.2.2.2.2.1
          have r7 : xv 7 = _ := hp.2.2.2.2.2.2.2.1
          have r8 : xv 8 = _ := hp.2.2.2.2.2.2.2.2.1
          have r9 : xv 9 = _ := hp.2.2.2.2.2.2.2.2.2.1
          have r10 : xv 10 = _ := hp.2.2.2.2.2.2.2.2.2.2.1
          have r11 : xv 11 = _ := hp.2.2.2.2.2.2.2.2.2.2.2.1
          have r12 : xv 12 = _ := hp.2.2.2.2.2.2.2.2.2.2.2.2.1
          have r13 : xv 13 = _ := hp.2.2.2.2.2.2.2.2.2.2.2.2.2.1
          clear hp
          simp only [putD, List.foldl_nil, List.foldl_cons, List.getD_cons_zero, List.getD_cons_succ, Act.put, List.length_cons, List.length_nil, List.range_succ, List.range_zero, List.nil_append, List.cons_append, List.setIfInBounds_toArray, List.set_cons_zero, List.set_cons_succ]
          have HNX := Lib.hid (HEW.out.trans ((Ext.drew W).trans hE))
          rw [r13]
          clear hE HEW HVX
          go_wp2_with fail
          go_roundw
          case rel => exact ⟨3, by decide, rfl, HNX⟩
          case measure => simp [intOf]
      ·obtain rfl : j = 3 := by omega
       have hrn := rn_facts ((HB4.out.ext (HEB4.out.trans HJ.out)).at_ i u HU.out)
       have cnm := hrn.nm
       have HFF := Lib.hid (HEFA.out.trans (HEB.out.trans HJ.out))
       clear hrn hj hj3
       go_wp2_with fail
       go_ret
       exact ⟨rfl, HFF.out⟩
end Go.Proofs.YtmiencglfhpmeaaGreatDoor
