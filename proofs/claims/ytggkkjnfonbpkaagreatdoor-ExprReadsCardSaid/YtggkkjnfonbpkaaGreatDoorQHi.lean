/- The contract of the reference's Parse. -/
import Derived.Test.YtggkkjnfonbpkaaGreatDoorQHh
import Derived.Test.YtggkkjnfonbpkaaGreatDoorQHd
import Derived.Test.YtggkkjnfonbpkaaGreatDoorQXj

set_option linter.unusedSimpArgs false
set_option linter.unusedVariables false
namespace Go.Proofs.YtggkkjnfonbpkaaGreatDoor
open Go.RowKit Hach

theorem RL.new {w : World} {base : Nat} {v : Value} {ts : List Tok} (hO : OwnC 9 w base v (ts.map txv)) (ht : (∀ t ∈ ts, IsTok t ∧ t.length ≤ 4096) ∧ ts.length ≤ 4096) : RL (w.alloc (.cells #[v, .bool false] 89)) w.heap.size ts false := by
  have hE : Ext w (w.alloc (.cells #[v, .bool false] 89)) := Ext.alloc _ _
  have hA : RdrAt (w.alloc (.cells #[v, .bool false] 89)) w.heap.size v false := Go.heap_alloc_new _ _
  obtain ⟨A, c, e, hR⟩ := hO.form
  rw [List.length_map] at e
  have hcap : ts ≠ [] → ts.length ≤ c := fun hne => by
    rcases hO.2 with ⟨rfl, hn⟩ | ⟨g, cap, cur, rfl, hb, hg, hn, _⟩
    · rw [List.length_map] at hn; exact absurd (List.length_eq_zero_iff.1 hn) hne
    · simp only [Value.slice.injEq] at e
      rw [List.length_map] at hn
      omega
  subst e
  refine ⟨A, c, hA, ht.1, ht.2, fun hne => ⟨hcap hne, ?_⟩⟩
  obtain ⟨g, eA, hg, hc⟩ := hR (by simpa using hne)
  refine ⟨g, 0, eA, hg, fun j hj => ?_⟩
  have := hc j (txv ts[j]) (by rw [List.getElem?_map, List.getElem?_eq_getElem hj]; rfl)
  rw [Nat.zero_add, hE.old (p := ⟨g, j, none⟩) hg, this]
  simp [List.getD, List.getElem?_eq_getElem hj, bs, txv, sv]
theorem parse_read {s : List UInt8} {ts : List Tok} {x : Ex} {r : List Tok} {k' : Bool} (h1 : lt s = (ts, false)) (hpl : RPl ts false (wholeF (2 * ts.length + 2) false ts) x r k') : readT s = if k' = false ∧ r = [] then some x else none := by
  obtain ⟨_, _, h3⟩ := hpl
  have h4 := h3 rfl
  rw [readT_eq h1 rfl]
  unfold readR
  rw [if_neg (by simp)]
  cases hp : wholeF (2 * ts.length + 2) false ts with
  | none => rw [hp] at h4; rw [if_neg (by rw [show k' = true from h4]; simp)]
  | some p =>
    obtain ⟨y, q⟩ := p
    rw [hp] at h4
    obtain ⟨e1, e2, e3⟩ := h4
    simp only at e2 e3
    subst e2; subst e3
    cases r with
    | nil => rw [if_pos ⟨e1, rfl⟩]
    | cons t l => rw [if_neg (by simp)]
set_option maxRecDepth 100000 in
set_option maxHeartbeats 8000000 in
theorem rparse_any (s : List UInt8) (hs : s.length < 4294967296) (w : World) : Calls Tryz.prog 21 #[.string ⟨s.toArray⟩] w (ParseQ s w) := by
  have hsz := toArr_size s
  have hz := Zero7.new w
  have hE0 : Ext w (w.alloc (.cells zero7 29)) := Ext.alloc _ _
  obtain ⟨w0, hw0⟩ : ∃ w0, w.alloc (.cells zero7 29) = w0 := ⟨_, rfl⟩
  have hs0 : w0.heap.size = w.heap.size + 1 := by rw [← hw0]; simp
  rw [hw0] at hz hE0
  have HW := Lib.hid hw0
  have HS0 := Lib.hid hs0
  have hin0 : InBlk w0 w.heap.size zeroE (.slice none 0 0) := hz
  unfold zero7 at HW
  have TK := Lib.hid (tokens_any s w0 hs)
  obtain ⟨D, hD⟩ : ∃ D : ByteArray, (⟨s.toArray⟩ : ByteArray) = D := ⟨_, rfl⟩
  have HD := Lib.hid hD
  rw [hD] at hsz TK ⊢
  obtain ⟨n, hn⟩ : ∃ n, s.length = n := ⟨_, rfl⟩
  rw [hn] at hsz hs
  have HN := Lib.hid hn
  have hEz : ∀ wr, Ext w wr → ExL wr (fun k => w.heap.size < k ∧ k < wr.heap.size) 0 none zeroE.l := fun wr _ => ExL.nil _ _ _ _
  clear hw0 hs0 hD hn
  by_cases h1 : 4096 < n
  · have t1 : decide ((4096 : Int) < (n : Int)) = true := by simp; omega
    have HP : Hid (parseE s = (zeroE, 2)) := Lib.hid (by unfold parseE; rw [HN.out, if_pos h1])
    obtain ⟨u0, u1, u2, u3, u4, u5, u6⟩ := hz.cells
    obtain ⟨f0, f1, f2, f3, f4, f5, f6⟩ := hz.free
    clear h1
    go_enter Tryz.func21, Tryz.ntmps21
    go_upto_region 1 with fail
    rw [HW.out]
    go_wp2_with fail
    exact parse_fin rfl zeroE 2 HP.out hE0 hin0 none 0 0 0 rfl (hEz _ hE0) rfl rfl
  · have t1 : decide ((4096 : Int) < (n : Int)) = false := by simp; omega
    have hn4 : n ≤ 4096 := by omega
    obtain ⟨⟨ts, bad⟩, hlt⟩ : ∃ p, lt s = p := ⟨_, rfl⟩
    have HLT := Lib.hid hlt
    have hto : (∀ t ∈ ts, IsTok t ∧ t.length ≤ 4096) ∧ ts.length ≤ 4096 := by
      obtain ⟨i1, i2⟩ := lt_toks s.length s (Nat.le_refl _)
      rw [hlt] at i1 i2
      have := HN.out
      simp only at i1 i2
      exact ⟨fun t ht => ⟨(i1 t ht).1, by have := (i1 t ht).2; omega⟩, by omega⟩
    have HTO := Lib.hid hto
    rw [hlt] at TK
    clear h1 hlt hto
    go_enter Tryz.func21, Tryz.ntmps21
    go_upto_region 1 with fail
    rw [HW.out]
    go_wp2_with fail
    refine TK.out.mono ?_
    rintro e w1 ⟨hbad, hgood⟩
    cases bad with
    | true =>
      obtain ⟨rfl, hE1⟩ := hbad rfl
      have HP : Hid (parseE s = (zeroE, 4)) := Lib.hid (by rw [parse_eq (by have := HN.out; omega) (readT_eq HLT.out rfl)]; rfl)
      have hz1 := hz.own (grown_of hE1 none) (by simp)
      have hin1 : InBlk w1 w.heap.size zeroE (.slice none 0 0) := hz1
      have hEf := hE0.trans hE1
      obtain ⟨u0, u1, u2, u3, u4, u5, u6⟩ := hz1.cells
      obtain ⟨f0, f1, f2, f3, f4, f5, f6⟩ := hz1.free
      clear hbad hgood
      go_wp2_with fail
      exact parse_fin rfl zeroE 4 HP.out hEf hin1 none 0 0 0 rfl (hEz _ hEf) rfl rfl
    | false =>
      obtain ⟨v, rfl, hO, hE1⟩ := hgood rfl
      obtain ⟨A0, c0, e0, _⟩ := hO.form
      rw [List.length_map] at e0
      obtain ⟨n0, hn0⟩ : ∃ n0, ts.length = n0 := ⟨_, rfl⟩
      rw [hn0] at e0
      subst e0
      have hrl := RL.new hO HTO.out
      have hE2 : Ext w1 (w1.alloc (.cells #[.slice A0 n0 c0, .bool false] 89)) := Ext.alloc _ _
      have hz2 := (hz.own (grown_of hE1 none) (by simp)).own (grown_of hE2 none) (by simp)
      have hE02 := (hE0.trans hE1).trans hE2
      have WH := Lib.hid ((rboth_any (2 * ts.length + 2)).1 w1.heap.size ts false _ hrl (Nat.le_refl _))
      have hs1 := hE1.sz
      have HS1 := Lib.hid hs1
      clear hbad hgood hO hrl hs1 hn0
      go_wp2_with fail
      unfold rp at WH
      refine WH.out.mono ?_
      rintro e w3 ⟨hg3, x, r, k', ⟨A, c, d, rfl, hX⟩, hr3, hpl⟩
      have HRT := Lib.hid (parse_read HLT.out hpl)
      have hE3 := ext_of_grown hE02 hg3 (by have := HS1.out; have := HS0.out; omega)
      have hz3 := hz2.own hg3 (by simp; have := HS1.out; have := HS0.out; omega)
      have hE4 : Ext w3 (w3.alloc (.cells (x.cells A c).toArray 29)) := Ext.alloc _ _
      have hin4 := InBlk.new2 w3 x A c
      have hz4 := hz3.own (grown_of hE4 none) (by simp)
      have hr4 := hr3.ext hE4
      have hEf4 := hE3.trans hE4
      have hX4 : ExL (w3.alloc (.cells (x.cells A c).toArray 29)) (fun k => w.heap.size < k ∧ k < w3.heap.size) d A x.l := (hX.keep fun k hk o => hE4.old (p := ⟨k, o, none⟩) hk.2).more fun k hk => ⟨by have := HS1.out; have := HS0.out; have h1 := hk.1; simp at h1; omega, hk.2⟩
      have hb3 := hr3.lt
      have hw3 : w.heap.size < w3.heap.size := hz3.lt'
      obtain ⟨wa, hwa⟩ : ∃ wa, w3.alloc (.cells (x.cells A c).toArray 29) = wa := ⟨_, rfl⟩
      have hsa : w3.heap.size < wa.heap.size := by rw [← hwa]; simp
      rw [hwa] at hin4 hz4 hr4 hEf4 hX4
      have HWA := Lib.hid hwa
      obtain ⟨A2, c2, h1, h2⟩ := hr4
      obtain ⟨q0, q1, g0, g1⟩ := h1.cells
      obtain ⟨i0, i1, i2, i3, i4, i5, i6⟩ := hin4.cells
      obtain ⟨u0, u1, u2, u3, u4, u5, u6⟩ := hz4.cells
      obtain ⟨f0, f1, f2, f3, f4, f5, f6⟩ := hz4.free
      have hinz : InBlk wa w.heap.size zeroE (.slice none 0 0) := hz4
      have HX4 := Lib.hid hX4
      unfold Ex.cells at HWA ⊢
      clear hwa hE4 hz2 hz3 hX hX4 hpl hg3 hr3 h1 h2 hE02 hE2
      cases k' with
      | true =>
        have HP : Hid (parseE s = (zeroE, 4)) := Lib.hid (by rw [parse_eq (by have := HN.out; omega) HRT.out, if_neg (by simp)]; rfl)
        go_upto_region 8 with fail
        rw [HWA.out]
        go_wp2_with fail
        exact parse_fin rfl zeroE 4 HP.out hEf4 hinz none 0 0 0 rfl (hEz _ hEf4) rfl rfl
      | false =>
        cases r with
        | cons t l =>
          have HP : Hid (parseE s = (zeroE, 4)) := Lib.hid (by rw [parse_eq (by have := HN.out; omega) HRT.out, if_neg (by simp)]; rfl)
          obtain ⟨m, hm⟩ : ∃ m, (t :: l).length = m := ⟨_, rfl⟩
          have hm0 : 0 < m := by rw [← hm]; simp
          rw [hm] at q0
          clear hm
          go_upto_region 8 with fail
          rw [HWA.out]
          go_wp2_with fail
          exact parse_fin rfl zeroE 4 HP.out hEf4 hinz none 0 0 0 rfl (hEz _ hEf4) rfl rfl
        | nil =>
          have HR := Lib.hid (show readT s = some x by rw [HRT.out, if_pos ⟨rfl, rfl⟩])
          rw [List.length_nil] at q0
          obtain ⟨hok, hsx⟩ := readT_ok HR.out (by have := HN.out; omega)
          have CK := Lib.hid (rCheck_any x d A c wa (HX4.out.more fun k hk => by omega) (by omega) hok)
          have HP1 : Hid (parseE s = if chkE x = 0 then (x, 0) else (zeroE, chkE x)) := Lib.hid (by rw [parse_eq (by have := HN.out; omega) HR.out]; rfl)
          obtain ⟨T, hT⟩ : ∃ T, chkT x = T := ⟨_, rfl⟩
          obtain ⟨K, hK⟩ : ∃ K, chkE x = K := ⟨_, rfl⟩
          unfold Ex.cells at CK
          rw [hT, hK] at CK
          rw [hK] at HP1
          clear hT hK hok hsx
          go_upto_region 8 with fail
          rw [HWA.out]
          go_wp2_with fail
          refine CK.out.mono ?_
          rintro e w5 ⟨rfl, hE5⟩
          have hinz5 := hinz.ext hE5
          have hEf5 := hEf4.trans hE5
          have hX5 : ExL w5 (fun k => w.heap.size < k ∧ k < w5.heap.size) d A x.l := (HX4.out.keep fun k hk o => hE5.old (p := ⟨k, o, none⟩) (by show k < _; omega)).more fun k hk => ⟨hk.1, by have := hE5.sz; omega⟩
          have HX5 := Lib.hid hX5
          obtain ⟨p0, p1, p2, p3, p4, p5, p6⟩ := (hin4.ext hE5).cells
          obtain ⟨v0, v1, v2, v3, v4, v5, v6⟩ := hinz5.cells
          obtain ⟨e0, e1, e2, e3, e4, e5, e6⟩ := hinz5.free7
          clear i0 i1 i2 i3 i4 i5 i6 u0 u1 u2 u3 u4 u5 u6 f0 f1 f2 f3 f4 f5 f6 hX5
          by_cases hK0 : K = 0
          · subst hK0
            go_wp2_with fail
            exact parse_fin rfl x 0 (by rw [HP1.out]; rfl) hEf5 hinz5 A x.l.length c d rfl HX5.out rfl rfl
          · have tK : (K != 0) = true := by simpa using hK0
            have HP2 := Lib.hid (show parseE s = (zeroE, K) by rw [HP1.out, if_neg hK0])
            clear hK0
            go_wp2_with fail
            exact parse_fin rfl zeroE K HP2.out hEf5 hinz5 none 0 0 0 rfl (hEz _ hEf5) rfl rfl
end Go.Proofs.YtggkkjnfonbpkaaGreatDoor
