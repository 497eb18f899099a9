/- A lower rule, and one that never holds: plain; and a region in which a row of one's own may be appended to in place. -/
import Derived.Test.YtmiencglfhpmeaaGreatDoorMQUs
import Derived.Test.YtmiencglfhpmeaaGreatDoorMQUk
import Derived.Test.YtmiencglfhpmeaaGreatDoorMQUq
namespace Go.Proofs.YtmiencglfhpmeaaGreatDoor
open Go.RowKit Hach
def noE : Ex := .mk 3 0 0 0 false [] [yesE]
def neverR : Rl := ⟨[110, 101, 118, 101, 114], 900, noE, numE 1, numE 1, numE 1⟩
def furR (f : Rl) : Rl := ⟨[102, 117, 114, 116, 104, 101, 114], f.pr, f.e1, f.e2, f.e3, f.e4⟩
theorem no_rt : Rt noE 2 := Rt.not yesE yes_rt
theorem never_mk : Mk1 neverR := Mk1.of ⟨(by show (0 : Int) ≤ 900; decide), (by show (900 : Int) ≤ 1000; decide)⟩ no_rt (by show noE.size ≤ 60; decide) (num_rt (by decide)) (by show (numE 1).size ≤ 60; decide) (num_rt (by decide)) (by show (numE 1).size ≤ 60; decide) (num_rt (by decide)) (by show (numE 1).size ≤ 60; decide)
theorem never_not (x : En) : holds x neverR = false := by
 unfold holds
 rw [show neverR.e1 = noE from rfl, evV_of no_rt (by decide) x]
 rfl
theorem bump_mk {r : Rl} (h : Mk1 r) (h3 : r.pr ≤ 3) : Mk1 (bump r) := by
 have := h.pr
 exact ⟨⟨(by omega : (0 : Int) ≤ r.pr + 1), (by omega : r.pr + 1 ≤ 1000)⟩, h.e1, h.e2, h.e3, h.e4⟩
theorem bump_nms (l : List Rl) : (l.map bump).map (·.nm) = l.map (·.nm) := by rw [List.map_map]; rfl
theorem lower_law (x : En) {l : List Rl} (hM : Mk l) (hd : (l.map (·.pr)).Nodup) (h3 : ∀ r ∈ l, r.pr ≤ 3) :
  ∃ (a b c : Int) (s : List UInt8), s ≠ [] ∧ lookL l x = ((a, b, c), s, 0) ∧ lookL (l ++ [neverR]) x = ((a, b, c), s, 0) ∧ ∀ f : Rl, Mk1 f → f.pr = 0 → lookL (furR f :: l.map bump) x = ((a, b, c), s, 0) := by
 obtain ⟨m, hm, hc⟩ := hM.most x
 obtain ⟨r, hr, hr1⟩ := cnt_calm x hd hm hc
 have hle := hM.le
 have hnm : ∀ q ∈ l, q.nm ∈ nmsL := fun q hq => hM.nm_in hq
 have hnd : (l.map (·.nm)).Nodup := by rw [hM.nms]; exact nms_nodup _
 have k1 : chkL l = 0 := hM.chk
 have k2 : chkL (l ++ [neverR]) = 0 := by
  refine chk_all (by simp; omega) ?_ (fun q hq => ?_) fun q hq => ?_
  ·rw [List.map_append, List.nodup_append]
   refine ⟨hnd, by simp, fun a ha b hb => ?_⟩
   obtain ⟨q, hq, rfl⟩ := List.mem_map.1 ha
   simp only [List.map_cons, List.map_nil, List.mem_singleton] at hb
   rintro rfl
   have := hnm q hq
   rw [hb] at this
   exact absurd this (by decide)
  ·rcases List.mem_append.1 hq with hq | hq
   ·exact nms_ok _ (hnm q hq)
   ·rw [List.mem_singleton.1 hq]; decide
  ·rcases List.mem_append.1 hq with hq | hq
   ·exact hM.one q hq
   ·rw [List.mem_singleton.1 hq]; exact never_mk
 have k3 : ∀ f : Rl, Mk1 f → chkL (furR f :: l.map bump) = 0 := fun f hf => by
  refine chk_all (by simp; omega) ?_ (fun q hq => ?_) fun q hq => ?_
  ·rw [List.map_cons, bump_nms, List.nodup_cons]
   refine ⟨fun h => ?_, hnd⟩
   obtain ⟨q, hq, e⟩ := List.mem_map.1 h
   have := hnm q hq
   rw [e] at this
   exact absurd this (by show ¬ ([102, 117, 114, 116, 104, 101, 114] : List UInt8) ∈ nmsL; decide)
  ·rcases List.mem_cons.1 hq with rfl | hq
   ·show nmOk [102, 117, 114, 116, 104, 101, 114] = true; decide
   ·obtain ⟨p, hp, rfl⟩ := List.mem_map.1 hq
    exact nms_ok _ (hnm p hp)
  ·rcases List.mem_cons.1 hq with rfl | hq
   ·exact ⟨hf.pr, hf.e1, hf.e2, hf.e3, hf.e4⟩
   ·obtain ⟨p, hp, rfl⟩ := List.mem_map.1 hq
    exact bump_mk (hM.one p hp) (h3 p hp)
 have hm0 : 0 ≤ m := by
  obtain ⟨⟨q, hq, _, hq2⟩, _⟩ := hm
  have := (hM.one q hq).pr
  omega
 obtain ⟨⟨a, b, c⟩, e⟩ : ∃ q, lookR x r = q := ⟨_, rfl⟩
 refine ⟨a, b, c, r.nm, ?_, ?_, ?_, fun f hf hf0 => ?_⟩
 ·intro h
  have := hnm r hr
  rw [h] at this
  exact absurd this (by decide)
 ·unfold lookL
  rw [if_neg (by omega), hr1, ← e]; rfl
 ·unfold lookL
  rw [if_neg (by omega), cnt_never x l (never_not x), hr1, ← e]; rfl
 ·have k3 := k3 f hf
  unfold lookL
  rw [if_neg (by omega), cnt_lower x l (f := furR f) hm (by show f.pr ≤ m; omega) hc, lookC_bump, hr1, ← e]; rfl
def BumpK (k : Nat) (l l' : List Rl) : Prop := l'.length = l.length ∧ ∀ (i : Nat) (r : Rl), l[i]? = some r → l'[i]? = some (if i < k then bump r else r)
theorem BumpK.start (l : List Rl) : BumpK 0 l l := ⟨rfl, fun i r h => by rw [if_neg (by omega)]; exact h⟩
theorem BumpK.next {k : Nat} {l l' : List Rl} {r' : Rl} (h : BumpK k l l') (hr : l'[k]? = some r') : BumpK (k + 1) l (l'.set k (prSet r' (r'.pr + 1))) := by
 obtain ⟨h1, h2⟩ := h
 refine ⟨by rw [List.length_set]; exact h1, fun i r hi => ?_⟩
 have hk := (List.getElem?_eq_some_iff.1 hr).1
 by_cases e : k = i
 ·subst e
  rw [List.getElem?_set_self hk, if_pos (by omega)]
  have := h2 k r hi
  rw [if_neg (by omega)] at this
  rw [this] at hr
  rw [← Option.some.inj hr]; rfl
 ·rw [List.getElem?_set_ne e, h2 i r hi]
  by_cases e2 : i < k
  ·rw [if_pos e2, if_pos (by omega)]
  ·rw [if_neg e2, if_neg (by omega)]
theorem BumpK.all {l l' : List Rl} (h : BumpK l.length l l') : l' = l.map bump := by
 refine List.ext_getElem? fun i => ?_
 rw [List.getElem?_map]
 cases hi : l[i]? with
 | none => simp [List.getElem?_eq_none (show l'.length ≤ i by rw [h.1]; exact List.getElem?_eq_none_iff.1 hi)]
 | some r =>
  rw [h.2 i r hi, if_pos (List.getElem?_eq_some_iff.1 hi).1]; rfl
def RwS (B : Nat) (X : Array Value) (n : Nat) (Tl : List Value) (W W' : World) : Prop := Below B W W' ∧ ∀ k, B ≤ k → k < W.heap.size → W'.heap[k]? = W.heap[k]? ∨ (W.heap[k]? = some (.cells Lk_zero 39 (0, 0)) ∧ W'.heap[k]? = some (.cells X 39 (0, 0))) ∨
 ∃ cur cur' : Array Value, W.heap[k]? = some (.cells cur 49 (0, 0)) ∧ W'.heap[k]? = some (.cells cur' 49 (0, 0)) ∧ cur'.size = cur.size ∧ (n + 1) * 30 ≤ cur.size ∧ cur.toList.take (n * 30) = Tl.take (n * 30) ∧ cur'.toList.take ((n + 1) * 30) = Tl
theorem RwS.refl (B : Nat) (X : Array Value) (n : Nat) (Tl : List Value) (W : World) : RwS B X n Tl W W := ⟨Below.refl _ W, fun _ _ _ => .inl rfl⟩
theorem types_apart {o : Option Obj} {X Y : Array Value} (h : o = some (.cells X 39 (0, 0))) (h' : o = some (.cells Y 49 (0, 0))) : False := by
 rw [h] at h'
 simp at h'
theorem RwS.trans (B : Nat) (X : Array Value) (n : Nat) (Tl : List Value) {U V W : World} (h : RwS B X n Tl U V) (k : RwS B X n Tl V W) : RwS B X n Tl U W := by
 refine ⟨Below.trans h.1 k.1, fun j hj hl => ?_⟩
 have h1 := h.2 j hj hl
 have h2 := k.2 j hj (Nat.lt_of_lt_of_le hl h.1.size)
 rcases h1 with h1 | ⟨a1, b1⟩ | ⟨c1, c1', a1, b1, s1, z1, p1, q1⟩ <;> rcases h2 with h2 | ⟨a2, b2⟩ | ⟨c2, c2', a2, b2, s2, z2, p2, q2⟩
 ·exact .inl (h2.trans h1)
 ·exact .inr (.inl ⟨h1 ▸ a2, b2⟩)
 ·exact .inr (.inr ⟨c2, c2', h1 ▸ a2, b2, s2, z2, p2, q2⟩)
 ·exact .inr (.inl ⟨a1, h2.trans b1⟩)
 ·exact .inr (.inl ⟨a1, b2⟩)
 ·exact (types_apart b1 a2).elim
 ·exact .inr (.inr ⟨c1, c1', a1, h2.trans b1, s1, z1, p1, q1⟩)
 ·exact (types_apart a2 b1).elim
 ·rw [b1] at a2
  simp only [Option.some.injEq, Obj.cells.injEq, and_true] at a2
  subst a2
  exact .inr (.inr ⟨c1, c2', a1, b2, s2.trans s1, z1, p1, q2⟩)
theorem RwS.ext {B : Nat} {X : Array Value} {n : Nat} {Tl : List Value} {W W' : World} (h : Ext W W') (hB : B ≤ W.heap.size) : RwS B X n Tl W W' :=
 ⟨below_row' (grown_of h none) hB (fun g e => by cases e), fun k _ hl => .inl (h.below.block k hl)⟩
theorem RwS.put {B : Nat} {X : Array Value} {n : Nat} {Tl : List Value} {W W' : World} {g : Nat} (hB : B ≤ W.heap.size) (hg : B ≤ g) (h : W.heap[g]? = some (.cells Lk_zero 39 (0, 0)) ∨ W.heap[g]? = some (.cells X 39 (0, 0))) (hx : W'.heap[g]? = some (.cells X 39 (0, 0))) (hgr : W.grownBy W' (some g)) : RwS B X n Tl W W' := by
 refine ⟨below_row' hgr hB (fun k e => by simp only [Option.some.injEq] at e; omega), fun k hk hl => ?_⟩
 by_cases e : k = g
 ·subst e
  rcases h with h | h
  ·exact .inr (.inl ⟨h, hx⟩)
  ·exact .inl (hx.trans h.symm)
 ·exact .inl (hgr.block k hl (by simpa using e))
def newK (B : Nat) (X : Array Value) (n : Nat) (Tl : List Value) : SPl (RwS B X n Tl) := ⟨[], fun _ v W => ∃ g, v = .pointer (some ⟨g, 0, none⟩) ∧ B ≤ g ∧ (W.heap[g]? = some (.cells Lk_zero 39 (0, 0)) ∨ W.heap[g]? = some (.cells X 39 (0, 0))), fun h hE => by
 obtain ⟨g, e, h1, h2⟩ := h
 refine ⟨g, e, h1, ?_⟩
 rcases hE.2 g h1 (by rcases h2 with h | h <;> exact (Array.getElem?_eq_some_iff.1 h).1) with h | ⟨_, h⟩ | ⟨_, _, h, _⟩
 ·rw [h]; exact h2
 ·exact .inr h
 ·rcases h2 with h2 | h2 <;> exact (types_apart h2 h).elim, fun _ h => h⟩
def putK (B : Nat) (X : Array Value) (n : Nat) (Tl : List Value) (i : Nat) : SPl (RwS B X n Tl) := ⟨[i], fun x _ W => ∃ g, x i = .pointer (some ⟨g, 0, none⟩) ∧ B ≤ g ∧ W.heap[g]? = some (.cells X 39 (0, 0)), fun h hE => by
 obtain ⟨g, e, h1, h2⟩ := h
 refine ⟨g, e, h1, ?_⟩
 rcases hE.2 g h1 (Array.getElem?_eq_some_iff.1 h2).1 with h | ⟨_, h⟩ | ⟨_, _, h, _⟩
 ·exact h.trans h2
 ·exact h
 ·exact (types_apart h2 h).elim, fun hx h => by
 obtain ⟨g, e, h1⟩ := h
 exact ⟨g, (hx _ (List.mem_singleton.2 rfl)).trans e, h1⟩⟩
def emptyK (B : Nat) (X : Array Value) (n : Nat) (Tl : List Value) : SPl (RwS B X n Tl) := ⟨[], fun _ v _ => ∃ g, v = .slice (some ⟨g, 0, none⟩) 0 0, fun h _ => h, fun _ h => h⟩
def ownK (B : Nat) (X : Array Value) (n : Nat) (Tl : List Value) (us : List Rn) (hn : us.length ≤ n + 1) (hf : (us.map Rn.cells).flatten = Tl.take (us.length * 30)) : SPl (RwS B X n Tl) := ⟨[], fun _ v W => OwnR W B v us, fun h hE => by
 obtain ⟨h1, h2⟩ := h
 refine ⟨h1, ?_⟩
 rcases h2 with h2 | ⟨g, cap, cur, e, hb, hg, hnc, hcm, hcs, ht⟩
 ·exact .inl h2
 ·rcases hE.2 g hb (Array.getElem?_eq_some_iff.1 hg).1 with h | ⟨h, _⟩ | ⟨c1, c2, a1, b1, s1, z1, p1, q1⟩
  ·exact .inr ⟨g, cap, cur, e, hb, h.trans hg, hnc, hcm, hcs, ht⟩
  ·exact (types_apart h hg).elim
  ·rw [hg] at a1
   simp only [Option.some.injEq, Obj.cells.injEq, and_true] at a1
   subst a1
   refine .inr ⟨g, cap, c2, e, hb, b1, hnc, hcm, s1.trans hcs, ?_⟩
   rw [hf, ← q1, List.take_take, Nat.min_eq_left (Nat.mul_le_mul_right 30 hn)], fun _ h => h⟩
def oneK (B : Nat) (X : Array Value) (n : Nat) (Tl : List Value) (hn : 1 ≤ n) (u : Rn) : SPl (RwS B X n Tl) := ⟨[], fun _ v W => ∃ g, v = .slice (some ⟨g, 0, none⟩) 1 1 ∧ B ≤ g ∧ W.heap[g]? = some (.cells u.cells.toArray 49 (0, 0)), fun h hE => by
 obtain ⟨g, e, h1, h2⟩ := h
 refine ⟨g, e, h1, ?_⟩
 rcases hE.2 g h1 (Array.getElem?_eq_some_iff.1 h2).1 with h | ⟨h, _⟩ | ⟨c1, c2, a1, _, _, z1, _, _⟩
 ·exact h.trans h2
 ·exact (types_apart h h2).elim
 ·exfalso
  rw [h2] at a1
  simp only [Option.some.injEq, Obj.cells.injEq, and_true] at a1
  subst a1
  have h30 : u.cells.toArray.size = 30 := rfl
  omega, fun _ h => h⟩
theorem app_one {ops : Array Oper} {rest : List Oper} {o : Oper} {a : Act} {w : World} {Q : Exit → Act → World → Prop} (hgd : o.guard = none) (s x : Tmp)
  (ho : o.op = .call { callee := .builtin .append, args := #[.tmp s, .tmp x], argTypes := #[30, 30] }) (B : Nat) (X : Array Value) (v : Value) (us : List Rn) (hpos : 1 ≤ us.length) (hs : a.eval (.tmp s) = v) (hown : OwnR w B v us) (hB : B ≤ w.heap.size) (hsm : us.length ≤ 4)
  (g : Nat) (u : Rn) (hx : a.eval (.tmp x) = .slice (some ⟨g, 0, none⟩) 1 1) (hg : w.heap[g]? = some (.cells u.cells.toArray 49 (0, 0)))
  (h : ∀ v' w', OwnR w' B v' (us ++ [u]) → RwS B X us.length ((us.map Rn.cells).flatten ++ u.cells) w w' → wpList Tryz.prog ops Q rest (a.put o.dst v') w') : wpList Tryz.prog ops Q (o :: rest) a w := by
 obtain ⟨A, cap, e, hrow⟩ := hown.form
 subst e
 obtain ⟨b, eA, hb1, hb2, hob, hat⟩ := hrow (by omega)
 subst eA
 have hr : ∀ (j : Nat) (t : Rn), [u][j]? = some t → w.rangeAt g (0 + j * 30) t.cells := fun j t ht => by
  match j, ht with
  | 0, ht => simp only [List.getElem?_cons_zero, Option.some.injEq] at ht; subst ht; exact RnB.range (show RnB w g u from hg)
  | j + 1, ht => simp at ht
 by_cases hfull : cap < us.length + 1
 ·refine app_G hgd s x ho b 0 cap us hs (fun j t ht => by rw [Nat.zero_add]; exact hat j t ht) g 0 1 [u] hx hr (by simpa using hfull) (by simp; omega) ?_
  intro v' w' ho' hE
  exact h v' w' (ho'.low hB) (RwS.ext hE hB)
 ·obtain ⟨i0, hi, hz0, hz1, hz2⟩ := info_parts infoR
  refine wpList_append_fits w hgd _ _ _ ho B 49 i0 30 Tryz.underlying30 hi hz1 b us.length cap (us.map Rn.cells).flatten hs hown ⟨g, 0, none⟩ 1 1 u.cells hx rfl (fun j y hj => ?_) (rn_one u) (by omega) ?_
  ·rw [Addr.add_mid]
   have := RnB.range (show RnB w g u from hg) j y hj
   exact this
  ·intro w' ho' hg'
   have hfl : ((us ++ [u]).map Rn.cells).flatten = (us.map Rn.cells).flatten ++ u.cells := by simp
   have hlen : (us ++ [u]).length = us.length + 1 := by simp
   refine h _ w' (by unfold OwnR; rw [hlen, hfl]; exact ho') ⟨below_row' hg' hB (fun k e => by simp only [Option.some.injEq] at e; omega), fun k hk hl => ?_⟩
   by_cases e : k = b
   ·subst e
    right; right
    obtain ⟨_, h2⟩ := hown
    obtain ⟨_, h3⟩ := ho'
    rcases h2 with ⟨h2, _⟩ | ⟨g1, cap1, cur1, e1, _, k1, _, _, s1, t1⟩
    ·cases h2
    rcases h3 with ⟨h3, _⟩ | ⟨g2, cap2, cur2, e2, _, k2, n2, _, s2, t2⟩
    ·cases h3
    simp only [Value.slice.injEq, Option.some.injEq, Addr.mk.injEq, and_true, true_and] at e1 e2
    obtain ⟨rfl, rfl⟩ := e1
    obtain ⟨rfl, rfl⟩ := e2
    refine ⟨cur1, cur2, k1, k2, s2.trans s1.symm, by rw [s1]; exact Nat.mul_le_mul_right 30 n2, ?_, ?_⟩
    ·rw [t1, List.take_append_of_le_length (by rw [rns_len]; exact Nat.le_refl _), List.take_of_length_le (by rw [rns_len]; exact Nat.le_refl _)]
    ·exact t2
   ·exact .inl (hg'.block k hl (by simpa using e))
theorem row1N (W : World) (lo : Nat) (hlo : lo ≤ W.heap.size) (x0 : Ex) (A0 : Option Addr) (c0 d0 : Nat) (h0 : ExL W (fun b => lo ≤ b ∧ b < W.heap.size) d0 A0 x0.l) : ExL (W.alloc (.cells #[.int .i64 x0.op, .int .i64 x0.var, .int .i64 x0.ty, .int .i64 x0.n, .bool x0.b, .string ⟨x0.s.toArray⟩, .slice A0 x0.l.length c0] 47)) (fun b => lo ≤ b ∧ b < (W.alloc (.cells #[.int .i64 x0.op, .int .i64 x0.var, .int .i64 x0.ty, .int .i64 x0.n, .bool x0.b, .string ⟨x0.s.toArray⟩, .slice A0 x0.l.length c0] 47)).heap.size) (d0 + 1) (some ⟨W.heap.size, 0, none⟩) [x0] := by
 have hE := Ext.alloc W (.cells #[.int .i64 x0.op, .int .i64 x0.var, .int .i64 x0.ty, .int .i64 x0.n, .bool x0.b, .string ⟨x0.s.toArray⟩, .slice A0 x0.l.length c0] 47)
 refine ExL.row (us := [⟨x0, A0, c0⟩]) ⟨hlo, by simp⟩ (fun u hu => ?_) (fun i v hi => ?_)
 ·simp only [List.mem_cons, List.not_mem_nil, or_false] at hu
  rcases hu with rfl
  exact (exl_ext h0 hE).deep (by omega)
 ·rw [World.cell?_alloc_new]
  simpa [Nd.cells, Ex.cells] using hi
theorem one_row {W : World} {g : Nat} {u : Rn} (h : W.heap[g]? = some (.cells u.cells.toArray 49 (0, 0))) : ∀ (j : Nat) (t : Rn), [u][j]? = some t → W.rangeAt g (0 + j * 30) t.cells := fun j t ht => by
 match j, ht with
 | 0, ht => simp only [List.getElem?_cons_zero, Option.some.injEq] at ht; subst ht; exact RnB.range (show RnB W g u from h)
 | j + 1, ht => simp at ht
theorem nil_cmp (t : List UInt8) (D : ByteArray) (hD : ⟨t.toArray⟩ = D) (ht : t ≠ []) : (D.toList == ([] : List UInt8)) = false := by
 subst hD
 rw [ByteArray.toList_eq]
 show (t == []) = _
 simpa using ht
def newQ (B : Nat) (T : TypeId) (Z : Array Value) : SP := ⟨fun v W => ∃ g, v = .pointer (some ⟨g, 0, none⟩) ∧ B ≤ g ∧ W.heap[g]? = some (.cells Z T (0, 0)), fun h hE => by
 obtain ⟨g, e, h1, h2⟩ := h
 exact ⟨g, e, h1, (hE.below.block g (Array.getElem?_eq_some_iff.1 h2).1).trans h2⟩⟩
def uN (gR : Nat) : Rn := ⟨neverR, some ⟨gR, 0, none⟩, none, none, none, 1, 0, 0, 0⟩
theorem uN_kids {W : World} {S : Nat → Prop} {gR : Nat} (h : ExL W S 1 (some ⟨gR, 0, none⟩) [yesE]) : (uN gR).kids W S 1 := ⟨h, ExL.nil _ _ _ _, ExL.nil _ _ _ _, ExL.nil _ _ _ _⟩
def Rn.fur (u : Rn) : Rn := ⟨furR u.r, u.A1, u.A2, u.A3, u.A4, u.c1, u.c2, u.c3, u.c4⟩
theorem rn_fur {w : World} {b : Nat} {u : Rn} (h : RnB w b u) : RnB (w.setCell ⟨b, 0, none⟩ (.string ⟨#[102, 117, 114, 116, 104, 101, 114]⟩)) b u.fur ∧ w.grownBy (w.setCell ⟨b, 0, none⟩ (.string ⟨#[102, 117, 114, 116, 104, 101, 114]⟩)) (some b) :=
 put_mid [.string ⟨#[102, 117, 114, 116, 104, 101, 114]⟩] [.string ⟨u.r.nm.toArray⟩] [] (.int .i64 u.r.pr :: (u.r.e1.cells u.A1 u.c1 ++ (u.r.e2.cells u.A2 u.c2 ++ (u.r.e3.cells u.A3 u.c3 ++ u.r.e4.cells u.A4 u.c4)))) w h rfl
theorem infoLk : (Tryz.prog.info? 39).map (·.size) = some 3 := by kernel_rfl
theorem lk_one (a b c : Int) : ∀ v ∈ [Value.int .i64 a, .int .i64 b, .int .i64 c], v.oneCell' = true := by
 intro v hv
 simp only [List.mem_cons, List.mem_nil_iff, or_false] at hv
 rcases hv with rfl | rfl | rfl <;> rfl
theorem getK {W : World} {g : Nat} {Z X : Array Value} {T : TypeId} (hz : W.heap[g]? = some (.cells Z T (0, 0)) ∨ W.heap[g]? = some (.cells X T (0, 0))) {n : Nat} (h1 : Z.toList.length = n) (h2 : X.toList.length = n) : ∃ C : List Value, W.heap[g]? = some (.cells C.toArray T (0, 0)) ∧ C.length = n := by
 rcases hz with h | h
 ·exact ⟨Z.toList, by simpa using h, h1⟩
 ·exact ⟨X.toList, by simpa using h, h2⟩
def oneL (B : Nat) (X : Array Value) (u : Rn) : SPl (OnceS B 39 Lk_zero X) := ⟨[], fun _ v W => ∃ g, v = .slice (some ⟨g, 0, none⟩) 1 1 ∧ B ≤ g ∧ W.heap[g]? = some (.cells u.cells.toArray 49 (0, 0)), fun h hE => by
 obtain ⟨g, e, h1, h2⟩ := h
 refine ⟨g, e, h1, ?_⟩
 rcases hE.2 g h1 (Array.getElem?_eq_some_iff.1 h2).1 with h | ⟨h, _⟩
 ·exact h.trans h2
 ·exact (types_apart h h2).elim, fun _ h => h⟩
def ownL (B : Nat) (X : Array Value) (us : List Rn) : SPl (OnceS B 39 Lk_zero X) := ⟨[], fun _ v W => OwnR W B v us, fun h hE => by
 obtain ⟨h1, h2⟩ := h
 refine ⟨h1, ?_⟩
 rcases h2 with h2 | ⟨g, cap, cur, e, hb, hg, hnc, hcm, hcs, ht⟩
 ·exact .inl h2
 ·rcases hE.2 g hb (Array.getElem?_eq_some_iff.1 hg).1 with h | ⟨h, _⟩
  ·exact .inr ⟨g, cap, cur, e, hb, h.trans hg, hnc, hcm, hcs, ht⟩
  ·exact (types_apart h hg).elim, fun _ h => h⟩
end Go.Proofs.YtmiencglfhpmeaaGreatDoor
