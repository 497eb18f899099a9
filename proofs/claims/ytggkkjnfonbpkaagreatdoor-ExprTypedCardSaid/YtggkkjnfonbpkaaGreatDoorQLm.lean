/- Expressions among the arguments: whatever can be read. -/
import Derived.Test.YtggkkjnfonbpkaaGreatDoorQLd
import Derived.Test.YtggkkjnfonbpkaaGreatDoorQLo
import Derived.Test.YtggkkjnfonbpkaaGreatDoorQIg

set_option linter.unusedSimpArgs false
set_option linter.unusedVariables false
namespace Go.Proofs.YtggkkjnfonbpkaaGreatDoor
open Go.RowKit Hach
open Go.ChangeShapes Go.WideShapes Go.ChangeAt Go.WideMaps Go.WideElems
open Go.ChangeMaps (open_string shut_string)

theorem i64_bd {n : Int} (h : (Lit.int .i64 n).wf = true) : InI n := by
  have := bounds_i64 h
  exact ⟨by omega, by omega⟩
set_option maxRecDepth 100000 in
theorem ex_open {H : Type} {enc : TypeId × Value → H} {W : World} : ∀ (fuel : Nat) (cs : List Value) (x : DataW H × List MemPlace), DataW.trod enc Tryz.prog W 0 (fun _ => true) true fuel 29 cs = some x →
    ∃ (e : Ex) (A : Option Addr) (c : Nat), cs = e.cells A c ∧ ExB W W.heap.size fuel A e.l ∧ e.raw := by
  intro fuel
  induction fuel using Nat.strongRecOn with
  | _ fuel ih =>
  intro cs x h
  obtain ⟨fs, hfs, h0, h1, h2, h3, hsz⟩ : ∃ fs : Array Field, Tryz.prog.underlying 29 = some (.struct fs) ∧ (∃ f, fs[0]? = some f ∧ f.offset = 0 ∧ f.type = 3) ∧ (∃ f, fs[1]? = some f ∧ f.offset = 1 ∧ f.type = 3) ∧ (∃ f, fs[2]? = some f ∧ f.offset = 2 ∧ f.type = 26) ∧ (∃ f, fs[3]? = some f ∧ f.offset = 6 ∧ f.type = 27) ∧ fs.size = 4 :=
    ⟨_, Tryz.underlying29, ⟨_, rfl, rfl, rfl⟩, ⟨_, rfl, rfl, rfl⟩, ⟨_, rfl, rfl, rfl⟩, ⟨_, rfl, rfl, rfl⟩, rfl⟩
  obtain ⟨ys, n1, hn1, _, hlen, hyl, hf⟩ := DataW.trod_struct hfs h
  have qi : Tryz.prog.cellsOf 3 = 1 := by kernel_rfl
  have qb : Tryz.prog.cellsOf 4 = 1 := by kernel_rfl
  have qs : Tryz.prog.cellsOf 9 = 1 := by kernel_rfl
  have ql : Tryz.prog.cellsOf 27 = 1 := by kernel_rfl
  have qv : Tryz.prog.cellsOf 26 = 4 := by kernel_rfl
  have qe : Tryz.prog.cellsOf 29 = 7 := by kernel_rfl
  obtain ⟨f0, u0, o0, p0⟩ := h0
  obtain ⟨f1, u1, o1, p1⟩ := h1
  obtain ⟨f2, u2, o2, p2⟩ := h2
  obtain ⟨f3, u3, o3, p3⟩ := h3
  have t0 := hf 0 f0 u0
  have t1 := hf 1 f1 u1
  have t2 := hf 2 f2 u2
  have t3 := hf 3 f3 u3
  rw [o0, p0, qi] at t0
  rw [o1, p1, qi] at t1
  rw [o2, p2, qv] at t2
  rw [o3, p3, ql] at t3
  rw [hsz] at hyl
  rw [qe] at hlen
  match ys, hyl, cs, hlen with
  | [y0, y1, y2, y3], _, [c0, c1, c2, c3, c4, c5, c6], _ =>
    obtain ⟨op, e0, _, w0⟩ := DataW.trod_int Tryz.underlying3 (show DataW.trod enc Tryz.prog W 0 (fun _ => true) true n1 3 [c0] = some y0 from t0)
    obtain ⟨var, e1, _, w1⟩ := DataW.trod_int Tryz.underlying3 (show DataW.trod enc Tryz.prog W 0 (fun _ => true) true n1 3 [c1] = some y1 from t1)
    obtain ⟨gs, hgs, g0, g1, g2, g3, gsz⟩ : ∃ fs : Array Field, Tryz.prog.underlying 26 = some (.struct fs) ∧ (∃ f, fs[0]? = some f ∧ f.offset = 0 ∧ f.type = 3) ∧ (∃ f, fs[1]? = some f ∧ f.offset = 1 ∧ f.type = 3) ∧ (∃ f, fs[2]? = some f ∧ f.offset = 2 ∧ f.type = 4) ∧ (∃ f, fs[3]? = some f ∧ f.offset = 3 ∧ f.type = 9) ∧ fs.size = 4 :=
      ⟨_, Tryz.underlying26, ⟨_, rfl, rfl, rfl⟩, ⟨_, rfl, rfl, rfl⟩, ⟨_, rfl, rfl, rfl⟩, ⟨_, rfl, rfl, rfl⟩, rfl⟩
    obtain ⟨zs, n2, hn2, _, _, hzl, hg⟩ := DataW.trod_struct hgs (show DataW.trod enc Tryz.prog W 0 (fun _ => true) true n1 26 [c2, c3, c4, c5] = some y2 from t2)
    obtain ⟨i0, v0, k0, l0⟩ := g0
    obtain ⟨i1, v1, k1, l1⟩ := g1
    obtain ⟨i2, v2, k2, l2⟩ := g2
    obtain ⟨i3, v3, k3, l3⟩ := g3
    have s0 := hg 0 i0 v0
    have s1 := hg 1 i1 v1
    have s2 := hg 2 i2 v2
    have s3 := hg 3 i3 v3
    rw [k0, l0, qi] at s0
    rw [k1, l1, qi] at s1
    rw [k2, l2, qb] at s2
    rw [k3, l3, qs] at s3
    rw [gsz] at hzl
    match zs, hzl with
    | [z0, z1, z2, z3], _ =>
      obtain ⟨ty, e2, _, w2⟩ := DataW.trod_int Tryz.underlying3 (show DataW.trod enc Tryz.prog W 0 (fun _ => true) true n2 3 [c2] = some z0 from s0)
      obtain ⟨n, e3, _, w3⟩ := DataW.trod_int Tryz.underlying3 (show DataW.trod enc Tryz.prog W 0 (fun _ => true) true n2 3 [c3] = some z1 from s1)
      obtain ⟨b, e4, _⟩ := DataW.trod_bool Tryz.underlying4 (show DataW.trod enc Tryz.prog W 0 (fun _ => true) true n2 4 [c4] = some z2 from s2)
      obtain ⟨st, e5, _, w5⟩ := DataW.trod_string Tryz.underlying9 (show DataW.trod enc Tryz.prog W 0 (fun _ => true) true n2 9 [c5] = some z3 from s3)
      simp only [List.cons.injEq, and_true] at e0 e1 e2 e3 e4 e5
      subst e0 e1 e2 e3 e4 e5
      obtain ⟨s, rfl, hs⟩ := list_of_bytes st
      have hs' : s.length < 9223372036854775808 := by simp only [maxLen] at w5; omega
      rcases DataW.trod_slice Tryz.underlying27 (show DataW.trod enc Tryz.prog W 0 (fun _ => true) true n1 27 [c6] = some y3 from t3) with ⟨e6, _⟩ | ⟨a, len, cap, elems, rest, n3, hn3, e6, _, _, hlc, hcm, hel, hget, _⟩
      · simp only [List.cons.injEq, and_true] at e6
        subst e6
        exact ⟨.mk op var ty n b s [], none, 0, rfl, ExL.nil _ _ _ _, i64_bd w0, i64_bd w1, i64_bd w2, i64_bd w3, hs', by simp, trivial⟩
      · simp only [List.cons.injEq, and_true] at e6
        subst e6
        rw [qe] at hget
        have hch : ∀ i : Nat, ∃ p : Ex × Option Addr × Nat, i < len → (∃ cs', W.cells? 0 (a.add (i * 7)) 7 = some cs' ∧ cs' = p.1.cells p.2.1 p.2.2) ∧ ExB W W.heap.size n3 p.2.1 p.1.l ∧ p.1.raw := by
          intro i
          by_cases hi : i < len
          · have h1 := hget i hi
            rw [List.getElem?_eq_getElem (by omega), Option.bind_eq_some_iff] at h1
            obtain ⟨cs', hcs, hy'⟩ := h1
            obtain ⟨e', A', c', h2, h3, h4⟩ := ih n3 (by omega) cs' _ hy'
            exact ⟨(e', A', c'), fun _ => ⟨⟨cs', hcs, h2⟩, h3, h4⟩⟩
          · exact ⟨(.mk 0 0 0 0 false [] [], none, 0), fun h => absurd h hi⟩
        obtain ⟨f, hfp⟩ := Classical.axiomOfChoice hch
        have hlm : ((List.range len).map fun i => (f i).1).length = len := by simp
        refine ⟨.mk op var ty n b s ((List.range len).map fun i => (f i).1), some a, cap, by simp [Ex.cells, Ex.op, Ex.var, Ex.ty, Ex.n, Ex.b, Ex.s, Ex.l], ?_, i64_bd w0, i64_bd w1, i64_bd w2, i64_bd w3, hs', by rw [hlm]; simp only [maxLen] at hcm; omega, ?_⟩
        · refine ExL.deep (d := n3 + 1) (by omega) (fun hne => ?_)
          have hpos : 0 < len := by
            rcases Nat.eq_zero_or_pos len with h0 | h0
            · exact absurd (by rw [show (Ex.mk op var ty n b s ((List.range len).map fun i => (f i).1)).l = (List.range len).map fun i => (f i).1 from rfl, h0]; rfl) hne
            · exact h0
          obtain ⟨⟨cs0, hc0, _⟩, _⟩ := hfp 0 hpos
          obtain ⟨_, hl0, hcell0⟩ := World.cells?_some hc0
          have h00 := hcell0 0 (by omega)
          obtain ⟨bb, oo, spot⟩ := a
          have hspot : spot = none := by simpa [Addr.add] using World.cell?_spot (h00.trans (List.getElem?_eq_getElem (by omega)))
          subst hspot
          have hb : bb < W.heap.size := World.cells?_block hc0 (by omega)
          refine ⟨bb, oo, rfl, hb, fun j y hj => ?_⟩
          have hjl : j < len := by
            have := (List.getElem?_eq_some_iff.1 hj).1
            rw [show (Ex.mk op var ty n b s ((List.range len).map fun i => (f i).1)).l = (List.range len).map fun i => (f i).1 from rfl, hlm] at this
            exact this
          have hy : y = (f j).1 := by
            have h1 : ((List.range len).map fun i => (f i).1)[j]? = some y := hj
            rw [List.getElem?_map, List.getElem?_range hjl] at h1
            exact (Option.some.inj h1).symm
          subst hy
          obtain ⟨⟨csj, hcj, ecs⟩, hXj, _⟩ := hfp j hjl
          refine ⟨(f j).2.1, (f j).2.2, hXj, fun i v hi => ?_⟩
          obtain ⟨_, hlj, hcellj⟩ := World.cells?_some hcj
          have hi7 : i < 7 := by
            have h1 := (List.getElem?_eq_some_iff.1 hi).1
            rw [← ecs] at h1; omega
          have h1 := hcellj i hi7
          rw [ecs, hi, Go.WideShapes.add_plain, Go.WideShapes.add_plain] at h1
          exact h1
        · show Ex.raws _
          have key : ∀ (m : List Ex), (∀ y ∈ m, y.raw) → Ex.raws m := by
            intro m
            induction m with
            | nil => intro _; trivial
            | cons y m ihm => intro hm; exact ⟨hm y List.mem_cons_self, ihm fun z hz => hm z (List.mem_cons_of_mem _ hz)⟩
          refine key _ fun y hy => ?_
          obtain ⟨i, hi, rfl⟩ := List.mem_map.1 hy
          exact (hfp i (List.mem_range.1 hi)).2.2
end Go.Proofs.YtggkkjnfonbpkaaGreatDoor
