/- Made rules in memory: what the reference's Made hands back. -/
import Derived.Test.YtmiencglfhpmeaaGreatDoorMQUx
import Derived.Test.YtmiencglfhpmeaaGreatDoorMQTd
set_option linter.unusedSimpArgs false
set_option linter.unusedVariables false
namespace Go.Proofs.YtmiencglfhpmeaaGreatDoor
open Go.RowKit Hach
structure MdB (W : World) (lo g c d : Nat) (us : List Rn) (l : List Rl) : Prop where
 m : us.map (·.r) = l
 o : OwnR W lo (.slice (some ⟨g, 0, none⟩) us.length c) us
 k : KidsR W (fun k => lo ≤ k ∧ k < W.heap.size ∧ k ≠ g) d us
theorem MdB.lt {W : World} {lo g c d : Nat} {us : List Rn} {l : List Rl} (h : MdB W lo g c d us l) : lo ≤ g ∧ g < W.heap.size := h.o.lt g rfl
theorem MdB.len {W : World} {lo g c d : Nat} {us : List Rn} {l : List Rl} (h : MdB W lo g c d us l) : us.length = l.length := by rw [← h.m, List.length_map]
theorem MdB.cap {W : World} {lo g c d : Nat} {us : List Rn} {l : List Rl} (h : MdB W lo g c d us l) : l.length ≤ c ∧ c < 9223372036854775808 := h.len ▸ h.o.cap
theorem MdB.ext {W W' : World} {lo g c d : Nat} {us : List Rn} {l : List Rl} (h : MdB W lo g c d us l) (hE : Ext W W') : MdB W' lo g c d us l :=
 ⟨h.m, h.o.ext hE, KidsR.more (KidsR.keep h.k fun b hb o => hE.old (p := ⟨b, o, none⟩) hb.2.1) fun b hb => ⟨hb.1, Nat.lt_of_lt_of_le hb.2.1 hE.sz, hb.2.2⟩⟩
theorem MdB.at_ {W : World} {lo g c d : Nat} {us : List Rn} {l : List Rl} (h : MdB W lo g c d us l) : ∀ (j : Nat) (u : Rn), us[j]? = some u → W.rangeAt g (j * 30) u.cells := fun j u hj => by
 obtain ⟨A, c', e, h1⟩ := h.o.form
 obtain ⟨b, eA, _, _, eb, h2⟩ := h1 (by have := (List.getElem?_eq_some_iff.1 hj).1; omega)
 simp only [Value.ownBlock, Option.some.injEq] at eb
 subst eb
 exact h2 j u hj
theorem MdB.rlb {W : World} {lo g c d : Nat} {us : List Rn} {l : List Rl} (h : MdB W lo g c d us l) : RlB W W.heap.size d (some ⟨g, 0, none⟩) l :=
 h.m ▸ (OwnR.list h.o (KidsR.more h.k fun b hb => hb.2.1) (S := fun b => b < W.heap.size) fun b _ h2 => h2).1
def MadeL (w : World) (e : Ending) (w' : World) : Prop := ∃ (l : List Rl) (us : List Rn) (g c d : Nat), Mk l ∧ e = .returned (.slice (some ⟨g, 0, none⟩) l.length c) ∧ MdB w' w.heap.size g c d us l ∧ Ext w w'
structure MdSt (w1 wr : World) (b : Nat) (ov : Value) (us : List Rn) (d : Nat) : Prop where
 o : OwnR wr w1.heap.size ov us
 r : DrA wr b
 g : w1.grownBy wr (some b)
 k : KidsR wr (SO w1.heap.size wr ov) d us
 m : Mk (us.map (·.r))
theorem MdSt.next {w1 wr wF wz : World} {b lo d D : Nat} {ov v' : Value} {us : List Rn} {u : Rn} (h : MdSt w1 wr b ov us d) (hlt : b < w1.heap.size) (hg : wr.grownBy wF (some b)) (hR : DrA wF b) (hd : d ≤ D)
  (hk : u.kids wF (fun k => lo ≤ k ∧ k < wF.heap.size) D) (hlo : wr.heap.size ≤ lo) (hm : Mk ((us ++ [u]).map (·.r))) (ho : OwnR wz w1.heap.size v' (us ++ [u])) (hgz : wF.grownBy wz ov.ownBlock) (hn : v'.ownBlock = ov.ownBlock ∨ v'.ownBlock = some wF.heap.size) : MdSt w1 wz b v' (us ++ [u]) D := by
 have h1 := grown_trans h.g hg
 refine ⟨ho, hR.own hgz (fun g e => ?_), Wr.grown_own h1 hgz (fun g e => (h.o.lt g e).1), ?_, hm⟩
 ·have := h.o.lt g e; omega
 ·refine KidsR.step (lo := lo) (KidsR.deep (KidsR.more (KidsR.keep h.k fun k hk o => grown_cell hg hk.2.1 (fun e => ?_) o) fun k hk => ?_) hd) hk ?_ (fun k e => ?_) hgz hn
  ·simp only [Option.some.injEq] at e; have := hk.1; omega
  ·exact ⟨hk.1, Nat.lt_of_lt_of_le hk.2.1 hg.size, hk.2.2⟩
  ·have := h.g.size; omega
  ·have := (h.o.lt k e).2; omega
theorem MdSt.fin {w w1 wr : World} {b d : Nat} {ov : Value} {us : List Rn} (h : MdSt w1 wr b ov us d) (hE : Ext w w1) (hb : w.heap.size ≤ b) : MadeL w (.returned ov) wr := by
 obtain ⟨A, c, e, h1⟩ := h.o.form
 have hp := h.m.pos
 rw [List.length_map] at hp
 obtain ⟨g, eA, hg1, hg2, _, _⟩ := h1 hp
 subst e; subst eA
 have hsz := hE.sz
 refine ⟨us.map (·.r), us, g, c, d, h.m, by rw [List.length_map], ⟨rfl, ?_, KidsR.more h.k fun k hk => ⟨by have := hk.1; omega, hk.2.1, fun e => hk.2.2 (by rw [e]; rfl)⟩⟩, ext_fresh hE h.g hb⟩
 obtain ⟨h2, h3⟩ := h.o
 refine ⟨h2, h3.imp id ?_⟩
 rintro ⟨g', cap, cur, k1, k2, k3⟩
 exact ⟨g', cap, cur, k1, by omega, k3⟩
theorem MdSt.draw {w1 wr wF : World} {b d : Nat} {ov : Value} {us : List Rn} (h : MdSt w1 wr b ov us d) (hlt : b < w1.heap.size) (hg : wr.grownBy wF (some b)) (hR : DrA wF b) : MdSt w1 wF b ov us d := by
 refine ⟨h.o.keep hg ?_, hR, grown_trans h.g hg, ?_, h.m⟩
 ·by_cases e : ov.ownBlock = none
  ·exact .inl e
  ·exact .inr fun e => by have := (h.o.lt b e).1; omega
 ·refine KidsR.more (KidsR.keep h.k fun k hk o => grown_cell hg hk.2.1 (fun e => ?_) o) fun k hk => ⟨hk.1, Nat.lt_of_lt_of_le hk.2.1 hg.size, hk.2.2⟩
  simp only [Option.some.injEq] at e; have := hk.1; omega
theorem MdSt.first {w1 W : World} {b d : Nat} {u : Rn} (hD : DrA W b) (hg : w1.grownBy W (some b)) (hk : u.kids W (fun k => w1.heap.size ≤ k ∧ k < W.heap.size) d) (hm : Mk [u.r]) : MdSt w1 (W.alloc (.cells u.cells.toArray 49)) b (.slice (some ⟨W.heap.size, 0, none⟩) 1 1) [u] d := by
 have hE := Ext.alloc W (.cells u.cells.toArray 49)
 refine ⟨OwnR.one W _ hg.size u, hD.ext hE, grown_trans hg (grown_of hE _), fun y hy => ?_, hm⟩
 rw [List.mem_singleton.1 hy]
 refine (hk.keep fun k hk o => hE.old (p := ⟨k, o, none⟩) hk.2).more fun k hk => ⟨hk.1, Nat.lt_of_lt_of_le hk.2 hE.sz, fun e => ?_⟩
 simp only [Value.ownBlock, Option.some.injEq] at e; omega
theorem store_Rb {ops : Array Oper} {rest : List Oper} {op : Oper} {a : Act} {w : World} {Q : Exit → Act → World → Prop} (g : Nat) (C : List Value) (u : Rn) (h : w.heap[g]? = some (.cells C.toArray 49 (0, 0))) (hC : C.length = 30) (hgd : op.guard = none) (x y : Operand) (hop : op.op = .store 49 x y) (hx : a.eval x = .pointer (some ⟨g, 0, none⟩)) (hy : a.eval y = .agg u.cells.toArray)
  (hk : ∀ w', RnB w' g u → w.grownBy w' (some g) → wpList Tryz.prog ops Q rest (a.put op.dst undef) w') : wpList Tryz.prog ops Q (op :: rest) a w := by
 have h30 : u.cells.length = 30 := rfl
 have hp := put_mid u.cells C [] [] w (by simpa using h) (by rw [hC, h30])
 obtain ⟨i0, hi, _, hz1, _⟩ := info_parts infoR
 refine wpList_store_mid hgd 49 x y hop g 0 u.cells.toArray hx hy (fun j hj => ?_) (by rw [hi]; simp [hz1, h30]) (all_oneCell_toArray (rn_one u)) (hk _ (by have := hp.1; simp only [List.nil_append, List.append_nil, List.length_nil] at this; exact this) hp.2)
 have hj30 : j < 30 := by rw [← h30]; simpa using hj
 refine ⟨?_, by simp [World.frozen?, h]⟩
 have hj2 : j < C.length := by omega
 simp [World.cell?, h, hj2]
theorem zero30_int {W : World} {g : Nat} {T : TypeId} (h : W.heap[g]? = some (.cells zero30 T (0, 0))) {i : Nat} {n : Int} (hc : W.cell? ⟨g, i, none⟩ = some (.int .i64 n)) : n = 0 := by
 have h1 : zero30[i]? = some (.int .i64 n) := by simpa [World.cell?, h] using hc
 have h2 : (Value.int .i64 n) ∈ zero30.toList := by
  obtain ⟨hi, e⟩ := Array.getElem?_eq_some_iff.1 h1
  rw [← e]; exact Array.getElem_mem_toList hi
 simpa [zero30] using h2
theorem rt_op {x : Ex} {t : Int} (h : Rt x t) : 1 ≤ x.op ∧ ∀ y ∈ x.l, ∃ t', Rt y t' := by
 cases h with
 | con v h => exact ⟨by show (1 : Int) ≤ 1; omega, fun y hy => by cases hy⟩
 | var v h => exact ⟨by show (1 : Int) ≤ 2; omega, fun y hy => by cases hy⟩
 | not a ha => exact ⟨by show (1 : Int) ≤ 3; omega, fun y hy => by
   simp only [Ex.l, List.mem_cons, List.not_mem_nil, or_false] at hy; subst hy; exact ⟨_, ha⟩⟩
 | log op h a b ha hb => exact ⟨by show (1 : Int) ≤ op; omega, fun y hy => by
   simp only [Ex.l, List.mem_cons, List.not_mem_nil, or_false] at hy
   rcases hy with rfl | rfl
   ·exact ⟨_, ha⟩
   ·exact ⟨_, hb⟩⟩
 | eq t a b ha hb => exact ⟨by show (1 : Int) ≤ 6; omega, fun y hy => by
   simp only [Ex.l, List.mem_cons, List.not_mem_nil, or_false] at hy
   rcases hy with rfl | rfl
   ·exact ⟨_, ha⟩
   ·exact ⟨_, hb⟩⟩
 | less a b ha hb => exact ⟨by show (1 : Int) ≤ 7; omega, fun y hy => by
   simp only [Ex.l, List.mem_cons, List.not_mem_nil, or_false] at hy
   rcases hy with rfl | rfl
   ·exact ⟨_, ha⟩
   ·exact ⟨_, hb⟩⟩
 | sum op h a b ha hb => exact ⟨by show (1 : Int) ≤ op; omega, fun y hy => by
   simp only [Ex.l, List.mem_cons, List.not_mem_nil, or_false] at hy
   rcases hy with rfl | rfl
   ·exact ⟨_, ha⟩
   ·exact ⟨_, hb⟩⟩
 | ite t a b c ha hb hc => exact ⟨by show (1 : Int) ≤ 13; omega, fun y hy => by
   simp only [Ex.l, List.mem_cons, List.not_mem_nil, or_false] at hy
   rcases hy with rfl | rfl | rfl
   ·exact ⟨_, ha⟩
   ·exact ⟨_, hb⟩
   ·exact ⟨_, hc⟩⟩
theorem exl_ne {W : World} {S : Nat → Prop} {g : Nat} {T : TypeId} (hg : W.heap[g]? = some (.cells zero30 T (0, 0))) : ∀ {d : Nat} {A : Option Addr} {l : List Ex}, (∀ y ∈ l, ∃ t, Rt y t) → ExL W S d A l → ExL W (fun k => S k ∧ k ≠ g) d A l
 | 0, _, _, _, h => h
 | d + 1, A, l, hr, h => fun hl => by
  obtain ⟨b, o, e, hb, hx⟩ := h hl
  refine ⟨b, o, e, ⟨hb, ?_⟩, fun j x hj => ?_⟩
  ·rintro rfl
   have hp : 0 < l.length := List.length_pos_iff.2 hl
   obtain ⟨A', c', _, h2⟩ := hx 0 l[0] (List.getElem?_eq_getElem hp)
   obtain ⟨t, ht⟩ := hr l[0] (List.getElem_mem hp)
   have h3 := zero30_int hg (h2 0 (.int .i64 (l[0]).op) rfl)
   have h4 := (rt_op ht).1
   omega
  ·obtain ⟨A', c', h1, h2⟩ := hx j x hj
   have hm : x ∈ l := List.mem_of_getElem? hj
   obtain ⟨t, ht⟩ := hr x hm
   exact ⟨A', c', exl_ne hg (rt_op ht).2 h1, h2⟩
theorem kids_ne {W : World} {S : Nat → Prop} {g d : Nat} {T : TypeId} {u : Rn} (hg : W.heap[g]? = some (.cells zero30 T (0, 0))) (hm : Mk1 u.r) (h : u.kids W S d) : u.kids W (fun k => S k ∧ k ≠ g) d :=
 ⟨exl_ne hg (rt_op (tyE_rt hm.e1).1).2 h.k1, exl_ne hg (rt_op (tyE_rt hm.e2).1).2 h.k2, exl_ne hg (rt_op (tyE_rt hm.e3).1).2 h.k3, exl_ne hg (rt_op (tyE_rt hm.e4).1).2 h.k4⟩
def rlvP (b lo : Nat) (hb : b < lo) (P : Rl → Prop) : SPr (DrS b) := ⟨fun v W => ∃ (u : Rn) (d : Nat), v = .agg #[.string ⟨u.r.nm.toArray⟩, .int .i64 u.r.pr, .int .i64 u.r.e1.op, .int .i64 u.r.e1.var, .int .i64 u.r.e1.ty, .int .i64 u.r.e1.n, .bool u.r.e1.b, .string ⟨u.r.e1.s.toArray⟩, .slice u.A1 u.r.e1.l.length u.c1, .int .i64 u.r.e2.op, .int .i64 u.r.e2.var, .int .i64 u.r.e2.ty, .int .i64 u.r.e2.n, .bool u.r.e2.b, .string ⟨u.r.e2.s.toArray⟩, .slice u.A2 u.r.e2.l.length u.c2, .int .i64 u.r.e3.op, .int .i64 u.r.e3.var, .int .i64 u.r.e3.ty, .int .i64 u.r.e3.n, .bool u.r.e3.b, .string ⟨u.r.e3.s.toArray⟩, .slice u.A3 u.r.e3.l.length u.c3, .int .i64 u.r.e4.op, .int .i64 u.r.e4.var, .int .i64 u.r.e4.ty, .int .i64 u.r.e4.n, .bool u.r.e4.b, .string ⟨u.r.e4.s.toArray⟩, .slice u.A4 u.r.e4.l.length u.c4] ∧ P u.r ∧ u.kids W (fun k => lo ≤ k ∧ k < W.heap.size) d, fun h hE => by
 obtain ⟨u, d, e, h1, h2⟩ := h
 exact ⟨u, d, e, h1, exl_own h2.k1 hE.1 hb, exl_own h2.k2 hE.1 hb, exl_own h2.k3 hE.1 hb, exl_own h2.k4 hE.1 hb⟩⟩
def zrP (b lo : Nat) (hb : b < lo) : SPr (DrS b) := ⟨fun v W => ∃ g, v = .pointer (some ⟨g, 0, none⟩) ∧ lo ≤ g ∧ W.heap[g]? = some (.cells zero30 49 (0, 0)), fun h hE => by
 obtain ⟨g, e, h1, h2⟩ := h
 exact ⟨g, e, h1, (hE.1.block g (Array.getElem?_eq_some_iff.1 h2).1 (by simp; omega)).trans h2⟩⟩
def strsP (b : Nat) (L : List (List UInt8)) (n : Nat) : SPr (DrS b) := ⟨fun v W => ∃ g, v = .slice (some ⟨g, 0, none⟩) n n ∧ b < g ∧ g < W.heap.size ∧ ∀ j, j < n → W.cell? ⟨g, j, none⟩ = some (.string ⟨(L.getD j []).toArray⟩), fun h hE => by
 obtain ⟨g, e, h1, h2, h3⟩ := h
 exact ⟨g, e, h1, Nat.lt_of_lt_of_le h2 hE.1.size, fun j hj => (grown_cell hE.1 h2 (by simp; omega) j).trans (h3 j hj)⟩⟩
def atSP (b : Nat) (Q : List UInt8 → Prop) : SPr (DrS b) := ⟨fun v W => ∃ (g j : Nat) (s : List UInt8), v = .pointer (some ⟨g, j, none⟩) ∧ b < g ∧ g < W.heap.size ∧ Q s ∧ W.cell? ⟨g, j, none⟩ = some (.string ⟨s.toArray⟩), fun h hE => by
 obtain ⟨g, j, s, e, h1, h2, hj, h3⟩ := h
 exact ⟨g, j, s, e, h1, Nat.lt_of_lt_of_le h2 hE.1.size, hj, (grown_cell hE.1 h2 (by simp; omega) j).trans h3⟩⟩
def strP (b : Nat) (Q : List UInt8 → Prop) : SPr (DrS b) := ⟨fun v _ => ∃ s : List UInt8, v = .string ⟨s.toArray⟩ ∧ Q s, fun h _ => h⟩
end Go.Proofs.YtmiencglfhpmeaaGreatDoor
