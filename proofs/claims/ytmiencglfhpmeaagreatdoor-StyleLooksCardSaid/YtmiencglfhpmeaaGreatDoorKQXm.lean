/- The contract of the reader's next: the walk. -/
import Derived.Test.YtmiencglfhpmeaaGreatDoorKQXl
open List renaming length_cons → zA, length_take → zB, take_succ_cons → zC
open Bool renaming and_eq_true → zD
open Go.Lib renaming hid → zE, indexByte → zF
set_option linter.unusedSimpArgs false
set_option linter.unusedVariables false
namespace Go.Proofs.YtmiencglfhpmeaaGreatDoor
open Go.RowKit Hach
theorem take_one {c:UInt8}{u:List UInt8}:(c::u).take 1=[c]:=rfl
theorem rd_of {w:World}{b:Nat}{s:List UInt8}{B:ByteArray}(h:VarAt 179 w b (.string B)) (e:(⟨s.toArray⟩:ByteArray)=B):RdAt w b s:=by subst e;exact h
theorem u8_back (c:UInt8):((c.toNat:Nat):Int).toNat.toUInt8=c:=by simp
theorem ret_emp (D:ByteArray):Ending.returned (.string ((⟨#[]⟩:ByteArray)++D))=.returned (.string D):=by
 have:(⟨#[]⟩:ByteArray)++D=D:=by
  have h:((⟨#[]⟩:ByteArray)++D).data=D.data:=by rw[ByteArray.data_append];simp
  calc (⟨#[]⟩:ByteArray)++D=⟨((⟨#[]⟩:ByteArray)++D).data⟩:=rfl
   _=⟨D.data⟩:=by rw[h]
   _=D:=rfl
 rw[this]
set_option maxRecDepth 100000 in
set_option maxHeartbeats 8000000 in
theorem next_any (s:List UInt8) (b:Nat) (w:World) (hV:RdAt w b s) (hs:s.length<4294967296) :
  Calls Tryz.prog 162 #[.pointer (some ⟨b,0,none⟩)] w (NextP s b w):=by
 obtain⟨r,hr⟩ :∃r,skip s=r:=⟨_,rfl⟩
 have hrl:r.length<4294967296:=by have:=skip_len s;rw[hr]at this;omega
 have hbl:w.grownBy (w.setCell ⟨b,0,none⟩ (.string ⟨r.toArray⟩)) (some b):=grown_set _ _ _ _
 have SB:Calls Tryz.prog 180 #[.pointer (some ⟨b,0,none⟩),.func (.func 181) #[] #[]] w fun e w' =>∃p,e=.returned (.string p)∧RdAt w' b r∧w.grownBy w' (some b):=by
  refine(span_blank s b w hV hs).mono ?_
  rintro e w' ⟨rfl,rfl⟩
  have hr':s.drop (spn isBl s)=r:=hr
  rw[hr']
  exact⟨_,rfl,hV.set _,hbl⟩
 have HSB:=zE SB
 have HR:=zE hr
 clear hV hs SB hbl hr
 go_enter Tryz.func162,Tryz.ntmps162
 go_wp2_with fail
 refine HSB.out.mono ?_
 rintro e w1 ⟨p,rfl,hV1,hG1⟩
 obtain⟨hc,hf⟩:=hV1.cell
 cases r with
 | nil=>
  have HN:=zE (show nx s=some ([],[]) by unfold nx;rw[HR.out,if_pos rfl])
  go_wp2_with fail
  go_ret
  exact NextP.ok [] [] HN.out hG1 rfl hV1
 | cons c u=>
  have hsz:=toArr_size (c::u)
  obtain⟨R,hR⟩ :∃R:ByteArray,(⟨(c::u).toArray⟩:ByteArray)=R:=⟨_,rfl⟩
  have HRR:=zE hR
  have hR0 :∀h,R[0]'h=c:=by
   intro h
   subst hR
   exact ba_get (c::u) 0 h
  have hem:R.toList=(c::u):=by rw[←hR,ByteArray.toList_eq]
  have hne:(R.toList == [])=false:=by rw[hem];rfl
  have hne2:R.toList.isEmpty=false:=by rw[hem];rfl
  have HL:=zE hsz
  rw[hR]at hsz hc
  simp only[zA]at hsz
  rw[zA]at hrl
  clear hR hem
  by_cases h1:isLet c=true
  ·have HN:=zE (show tokLen (c::u)=spn isLet (c::u)∧spn isLet (c::u)≠0 by rw[tokLen_cons,if_pos h1];simp[spn,h1];omega)
   have SP:=zE (span_letter (c::u) b w1 hV1 (by rw[zA];omega))
   go_wp2_with fail
   refine(letter_any c _).mono ?_
   rintro e w' ⟨rfl,rfl⟩
   rw[h1]
   go_wp2_with fail
   refine SP.out.mono ?_
   rintro e w' ⟨rfl,rfl⟩
   go_wp2_with fail
   go_ret
   exact NextP.tok HR.out (by simp) _ HN.out.1 HN.out.2 (grown_trans hG1 (grown_set _ _ _ _)) rfl (hV1.set _)
  ·have h1':isLet c=false:=by simpa using h1
   by_cases h2:isDig c=true
   ·obtain⟨m,hmm⟩ :∃m,spn isDig (c::u)=m:=⟨_,rfl⟩
    have hm1:m=spn isDig u+1:=by rw[←hmm];simp[spn,h2]
    have hm:spn isMin (c::u)=0:=by
     unfold isDig at h2
     simp only[zD,decide_eq_true_eq]at h2
     have:isMin c=false:=by unfold isMin;rw[decide_eq_false (by omega)]
     simp[spn,this]
    have hms:m≤u.length+1:=by have:=spn_le isDig (c::u);rw[hmm,zA]at this;exact this
    have SM:=zE (show Calls Tryz.prog 180 #[.pointer (some ⟨b,0,none⟩),.func (.func 184) #[] #[]] w1 fun e w'=>e=.returned (.string ⟨#[]⟩)∧RdAt w' b (c::u)∧w1.grownBy w' (some b) by
     refine(span_minus (c::u) b w1 hV1 (by rw[zA];omega)).mono ?_
     rintro e w' ⟨rfl,rfl⟩
     refine⟨?_,?_,grown_set _ _ _ _⟩
     ·rw[hm];rfl
     ·have:=hV1.set (.string ⟨((c::u).drop (spn isMin (c::u))).toArray⟩)
      rw[hm]at this
      rw[hm]
      exact this)
    have SD:=zE (show ∀W,RdAt W b (c::u)→Calls Tryz.prog 180 #[.pointer (some ⟨b,0,none⟩),.func (.func 183) #[] #[]] W fun e w'=>e=.returned (.string ⟨((c::u).take m).toArray⟩)∧RdAt w' b ((c::u).drop m)∧W.grownBy w' (some b) from fun W hW=>by
     refine(span_digit (c::u) b W hW (by simp only[zA]at *;omega)).mono ?_
     rintro e w' ⟨rfl,rfl⟩
     rw[hmm]
     exact⟨rfl,hW.set _,grown_set _ _ _ _⟩)
    have hDs:=toArr_size ((c::u).take m)
    have hDl:((c::u).take m).length=m:=by rw[zB];have:=spn_le isDig (c::u);omega
    rw[hDl]at hDs
    obtain⟨D,hD⟩ :∃D:ByteArray,(⟨((c::u).take m).toArray⟩:ByteArray)=D:=⟨_,rfl⟩
    have HDD:=zE hD
    have hD0 :∀h,D[0]'h=c:=by
     intro h
     subst hD
     rw[ba_get]
     obtain⟨k,hk⟩ :∃k,m=k+1:=⟨m-1,by omega⟩
     rw[hk]
     rfl
    have hDq:(D.toList == [48])=decide ((c::u).take m=[48]):=by
     rw[←hD,ByteArray.toList_eq]
     show((c::u).take m == [48])=_
     by_cases hq:(c::u).take m=[48]
     ·rw[hq];rfl
     ·rw[decide_eq_false hq];simpa using hq
    rw[hD]at SD hDs
    clear hD hDl
    have HTL:=zE (show tokLen (c::u)=if m≤10∧(c.toNat≠48∨m=1) then m else 0 by
     rw[tokLen_cons,if_neg h1,if_pos h2]
     by_cases hq:spn isDig u≤9∧(c.toNat≠48∨spn isDig u=0)
     ·rw[if_pos hq,if_pos ⟨by omega,by omega⟩];omega
     ·rw[if_neg hq,if_neg (by omega)])
    have hmp:0<m:=by omega
    clear hm hmm
    by_cases h10:m≤10
    ·have t10:decide ((m:Int)≤10)=true:=by simp;omega
     by_cases h48:c.toNat=48
     ·have t48:((c.toNat:Int) != 48)=false:=by rw[h48];rfl
      have hc48:c=48:=u8_eq (n:=48) h48 (by decide)
      by_cases hm2:m=1
      ·have HT2:=zE (show tokLen (c::u)=m by rw[HTL.out,if_pos ⟨h10,.inr hm2⟩])
       have hDq2:(D.toList == [48])=true:=by rw[hDq,hm2,take_one,hc48];rfl
       clear hDq h48 hc48 hm1 h10
       go_wp2_with fail
       refine(letter_any c _).mono ?_
       rintro e w' ⟨rfl,rfl⟩
       rw[h1']
       go_wp2_with fail
       refine(digit_any c _).mono ?_
       rintro e w' ⟨rfl,rfl⟩
       rw[h2]
       go_wp2_with fail
       refine SM.out.mono ?_
       rintro e w2 ⟨rfl,hV2,hG2⟩
       go_wp2_with fail
       refine(SD.out _ hV2).mono ?_
       rintro e w3 ⟨rfl,hV3,hG3⟩
       have hG:=grown_trans (grown_trans hG1 hG2) hG3
       go_wp2_with fail
       refine(need_yes _).mono ?_
       rintro e w' ⟨rfl,rfl⟩
       go_wp2_with fail
       go_ret
       exact NextP.tok HR.out (by simp) m HT2.out (by omega) hG (by rw[HDD.out];exact ret_emp D) hV3
      ·have HT2:=zE (show tokLen (c::u)=0 by rw[HTL.out,if_neg (by omega)])
       have hDq2:(D.toList == [48])=false:=by
        rw[hDq]
        refine decide_eq_false fun e=>?_
        have h3:=congrArg List.length e
        rw[zB]at h3
        simp at h3
        omega
       clear hDq h48 hc48 hm1 h10
       go_wp2_with fail
       refine(letter_any c _).mono ?_
       rintro e w' ⟨rfl,rfl⟩
       rw[h1']
       go_wp2_with fail
       refine(digit_any c _).mono ?_
       rintro e w' ⟨rfl,rfl⟩
       rw[h2]
       go_wp2_with fail
       refine SM.out.mono ?_
       rintro e w2 ⟨rfl,hV2,hG2⟩
       go_wp2_with fail
       refine(SD.out _ hV2).mono ?_
       rintro e w3 ⟨rfl,hV3,hG3⟩
       have hG:=grown_trans (grown_trans hG1 hG2) hG3
       go_wp2_with fail
       refine(need_no _).mono ?_
       rintro e w' ⟨rfl,rfl⟩
       exact⟨rfl,NextP.bad HR.out (by simp) HT2.out hG rfl hV3⟩
     ·have t48:((c.toNat:Int) != 48)=true:=by rw[bne_iff_ne];omega
      have HT2:=zE (show tokLen (c::u)=m by rw[HTL.out,if_pos ⟨h10,.inl h48⟩])
      clear hDq h48 hm1 h10
      go_wp2_with fail
      refine(letter_any c _).mono ?_
      rintro e w' ⟨rfl,rfl⟩
      rw[h1']
      go_wp2_with fail
      refine(digit_any c _).mono ?_
      rintro e w' ⟨rfl,rfl⟩
      rw[h2]
      go_wp2_with fail
      refine SM.out.mono ?_
      rintro e w2 ⟨rfl,hV2,hG2⟩
      go_wp2_with fail
      refine(SD.out _ hV2).mono ?_
      rintro e w3 ⟨rfl,hV3,hG3⟩
      have hG:=grown_trans (grown_trans hG1 hG2) hG3
      go_wp2_with fail
      refine(need_yes _).mono ?_
      rintro e w' ⟨rfl,rfl⟩
      go_wp2_with fail
      go_ret
      exact NextP.tok HR.out (by simp) m HT2.out (by omega) hG (by rw[HDD.out];exact ret_emp D) hV3
    ·have t10:decide ((m:Int)≤10)=false:=by simp;omega
     have HT2:=zE (show tokLen (c::u)=0 by rw[HTL.out,if_neg (by omega)])
     clear hDq hm1 h10
     go_wp2_with fail
     refine(letter_any c _).mono ?_
     rintro e w' ⟨rfl,rfl⟩
     rw[h1']
     go_wp2_with fail
     refine(digit_any c _).mono ?_
     rintro e w' ⟨rfl,rfl⟩
     rw[h2]
     go_wp2_with fail
     refine SM.out.mono ?_
     rintro e w2 ⟨rfl,hV2,hG2⟩
     go_wp2_with fail
     refine(SD.out _ hV2).mono ?_
     rintro e w3 ⟨rfl,hV3,hG3⟩
     have hG:=grown_trans (grown_trans hG1 hG2) hG3
     go_wp2_with fail
     refine(need_no _).mono ?_
     rintro e w' ⟨rfl,rfl⟩
     exact⟨rfl,NextP.bad HR.out (by simp) HT2.out hG rfl hV3⟩
   ·have h2':isDig c=false:=by simpa using h2
    by_cases h3:c.toNat=45
    ·have u45:((c.toNat:Int) == 45)=true:=by rw[h3];rfl
     have u34:((c.toNat:Int) == 34)=false:=by rw[h3];rfl
     have HX1:=zE (show R.extract 0 1=⟨((c::u).take 1).toArray⟩ by rw[←HRR.out];exact ba_take (c::u) 1)
     have HX2:=zE (show(⟨((c::u).drop 1).toArray⟩:ByteArray)=R.extract 1 (u.length+1) by rw[←HRR.out];exact(ba_drop (c::u) 1).symm)
     have hsg:(isSg c||decide (c.toNat=45))=true:=by rw[decide_eq_true h3];simp
     cases u with
     | nil=>
      have HTL:=zE (show tokLen [c]=1 by rw[tokLen_cons,if_neg h1,if_neg h2,if_pos h3])
      have hi:decide (0≤zF [40,41,61,60,43,45,42] c)=true:=by rw[idx_sg];exact hsg
      have SI:=zE (show ∀W,Calls Tryz.prog 185 #[.string ⟨#[40,41,61,60,43,45,42]⟩,.int .u8 (c.toNat:Nat)] W fun e w'=>e=.returned (.int .i64 (zF [40,41,61,60,43,45,42] c))∧w'=W from fun W=>by
       have h:=Tryz.strings_IndexByte ⟨#[40,41,61,60,43,45,42]⟩ (c.toNat:Nat) W
       rw[u8_back]at h
       exact h)
      clear hsg
      generalize zF [40,41,61,60,43,45,42] c=i at *
      clear h1 h2 h3
      go_wp2_with fail
      refine(letter_any c _).mono ?_
      rintro e w' ⟨rfl,rfl⟩
      rw[h1']
      go_wp2_with fail
      refine(digit_any c _).mono ?_
      rintro e w' ⟨rfl,rfl⟩
      rw[h2']
      go_wp2_with fail
      refine(SI.out _).mono ?_
      rintro e w' ⟨rfl,rfl⟩
      go_wp2_with fail
      refine(need_yes _).mono ?_
      rintro e w' ⟨rfl,rfl⟩
      go_wp2_with fail
      go_ret
      exact NextP.tok HR.out (by simp) 1 HTL.out (by simp) (grown_trans hG1 (grown_set _ _ _ _)) (by rw[←HX1.out];rfl) (by first|exact rd_of (hV1.set _) HX2.out|exact hV1.set (.string ByteArray.empty))
     | cons d v=>
      have hR1 :∀h,R[1]'h=d:=by
       intro h
       have:=HRR.out
       subst this
       exact ba_get (c::d::v) 1 h
      simp only[zA]at hsz hrl
      have u1:decide ((1:Int)<(v.length:Int)+1+1)=true:=by simp;omega
      by_cases h4:isDig d=true
      ·obtain⟨m,hmm⟩ :∃m,spn isDig (d::v)=m:=⟨_,rfl⟩
       have hm1:m=spn isDig v+1:=by rw[←hmm];simp[spn,h4]
       have hdm:isMin d=false:=by
        unfold isDig at h4
        simp only[zD,decide_eq_true_eq]at h4
        unfold isMin;rw[decide_eq_false (by omega)]
       have hcm:isMin c=true:=by unfold isMin;rw[h3];rfl
       have hm:spn isMin (c::d::v)=1:=by simp[spn,hcm,hdm]
       have hc45:c=45:=u8_eq (n:=45) h3 (by decide)
       have hms:m≤v.length+1:=by have:=spn_le isDig (d::v);rw[hmm,zA]at this;exact this
       have SM:=zE (show Calls Tryz.prog 180 #[.pointer (some ⟨b,0,none⟩),.func (.func 184) #[] #[]] w1 fun e w'=>e=.returned (.string ⟨#[45]⟩)∧RdAt w' b (d::v)∧w1.grownBy w' (some b) by
        refine(span_minus (c::d::v) b w1 hV1 (by rw[zA];omega)).mono ?_
        rintro e w' ⟨rfl,rfl⟩
        refine⟨?_,?_,grown_set _ _ _ _⟩
        ·rw[hm,hc45];rfl
        ·have:=hV1.set (.string ⟨((c::d::v).drop (spn isMin (c::d::v))).toArray⟩)
         rw[hm]at this
         rw[hm]
         exact this)
       have SD:=zE (show ∀W,RdAt W b (d::v)→Calls Tryz.prog 180 #[.pointer (some ⟨b,0,none⟩),.func (.func 183) #[] #[]] W fun e w'=>e=.returned (.string ⟨((d::v).take m).toArray⟩)∧RdAt w' b ((d::v).drop m)∧W.grownBy w' (some b) from fun W hW=>by
        refine(span_digit (d::v) b W hW (by simp only[zA]at *;omega)).mono ?_
        rintro e w' ⟨rfl,rfl⟩
        rw[hmm]
        exact⟨rfl,hW.set _,grown_set _ _ _ _⟩)
       have hDs:=toArr_size ((d::v).take m)
       have hDl:((d::v).take m).length=m:=by rw[zB];have:=spn_le isDig (d::v);omega
       rw[hDl]at hDs
       obtain⟨D,hD⟩ :∃D:ByteArray,(⟨((d::v).take m).toArray⟩:ByteArray)=D:=⟨_,rfl⟩
       have HDD:=zE hD
       have hD0 :∀h,D[0]'h=d:=by
        intro h
        subst hD
        rw[ba_get]
        obtain⟨k,hk⟩ :∃k,m=k+1:=⟨m-1,by omega⟩
        rw[hk]
        rfl
       have hDq:(D.toList == [48])=decide ((d::v).take m=[48]):=by
        rw[←hD,ByteArray.toList_eq]
        show((d::v).take m == [48])=_
        by_cases hq:(d::v).take m=[48]
        ·rw[hq];rfl
        ·rw[decide_eq_false hq];simpa using hq
       rw[hD]at SD hDs
       clear hD hDl
       have HTL:=zE (show tokLen (c::d::v)=if m≤10∧d.toNat≠48 then m+1 else 0 by
        rw[tokLen_cons,if_neg h1,if_neg h2,if_pos h3]
        simp only
        rw[if_pos h4]
        by_cases hq:spn isDig v≤9∧d.toNat≠48
        ·rw[if_pos hq,if_pos ⟨by omega,by omega⟩];omega
        ·rw[if_neg hq,if_neg (by omega)])
       have HDV:=zE (show(⟨((c::d::v).take (m+1)).toArray⟩:ByteArray)=⟨#[45]⟩++D by
        rw[←HDD.out,zC,hc45]
        exact(ba_append [45] ((d::v).take m)).symm)
       have k1:(⟨#[45]⟩:ByteArray).size≤1:=by decide
       have hmp:0<m:=by omega
       clear hm hmm hcm hdm hc45 h1 h2 h3
       by_cases h10:m≤10
       ·have t10:decide ((m:Int)≤10)=true:=by simp;omega
        by_cases h48:d.toNat=48
        ·have t48:((d.toNat:Int) != 48)=false:=by rw[h48];rfl
         have HT2:=zE (show tokLen (c::d::v)=0 by rw[HTL.out,if_neg (by omega)])
         cases hDb:decide ((d::v).take m=[48])
         all_goals
          rw[hDb]at hDq
          clear hDb h48 hm1 h10
          go_wp2_with fail
          refine(letter_any c _).mono ?_
          rintro e w' ⟨rfl,rfl⟩
          rw[h1']
          go_wp2_with fail
          refine(digit_any c _).mono ?_
          rintro e w' ⟨rfl,rfl⟩
          rw[h2']
          go_wp2_with fail
          refine(digit_any d _).mono ?_
          rintro e w' ⟨rfl,rfl⟩
          rw[h4]
          go_wp2_with fail
          refine SM.out.mono ?_
          rintro e w2 ⟨rfl,hV2,hG2⟩
          go_wp2_with fail
          refine(SD.out _ hV2).mono ?_
          rintro e w3 ⟨rfl,hV3,hG3⟩
          have hG:=grown_trans (grown_trans hG1 hG2) hG3
          go_wp2_with fail
          refine(need_no _).mono ?_
          rintro e w' ⟨rfl,rfl⟩
          exact⟨rfl,NextP.bad HR.out (by simp) HT2.out hG rfl hV3⟩
        ·have t48:((d.toNat:Int) != 48)=true:=by rw[bne_iff_ne];omega
         have HT2:=zE (show tokLen (c::d::v)=m+1 by rw[HTL.out,if_pos ⟨h10,h48⟩])
         clear hDq h48 hm1 h10
         go_wp2_with fail
         refine(letter_any c _).mono ?_
         rintro e w' ⟨rfl,rfl⟩
         rw[h1']
         go_wp2_with fail
         refine(digit_any c _).mono ?_
         rintro e w' ⟨rfl,rfl⟩
         rw[h2']
         go_wp2_with fail
         refine(digit_any d _).mono ?_
         rintro e w' ⟨rfl,rfl⟩
         rw[h4]
         go_wp2_with fail
         refine SM.out.mono ?_
         rintro e w2 ⟨rfl,hV2,hG2⟩
         go_wp2_with fail
         refine(SD.out _ hV2).mono ?_
         rintro e w3 ⟨rfl,hV3,hG3⟩
         have hG:=grown_trans (grown_trans hG1 hG2) hG3
         go_wp2_with fail
         refine(need_yes _).mono ?_
         rintro e w' ⟨rfl,rfl⟩
         go_wp2_with fail
         go_ret
         exact NextP.tok HR.out (by simp) (m+1) HT2.out (by omega) hG (by rw[HDV.out];rfl) hV3
       ·have t10:decide ((m:Int)≤10)=false:=by simp;omega
        have HT2:=zE (show tokLen (c::d::v)=0 by rw[HTL.out,if_neg (by omega)])
        clear hDq hm1 h10
        go_wp2_with fail
        refine(letter_any c _).mono ?_
        rintro e w' ⟨rfl,rfl⟩
        rw[h1']
        go_wp2_with fail
        refine(digit_any c _).mono ?_
        rintro e w' ⟨rfl,rfl⟩
        rw[h2']
        go_wp2_with fail
        refine(digit_any d _).mono ?_
        rintro e w' ⟨rfl,rfl⟩
        rw[h4]
        go_wp2_with fail
        refine SM.out.mono ?_
        rintro e w2 ⟨rfl,hV2,hG2⟩
        go_wp2_with fail
        refine(SD.out _ hV2).mono ?_
        rintro e w3 ⟨rfl,hV3,hG3⟩
        have hG:=grown_trans (grown_trans hG1 hG2) hG3
        go_wp2_with fail
        refine(need_no _).mono ?_
        rintro e w' ⟨rfl,rfl⟩
        exact⟨rfl,NextP.bad HR.out (by simp) HT2.out hG rfl hV3⟩
      ·have h4':isDig d=false:=by simpa using h4
       have HTL:=zE (show tokLen (c::d::v)=1 by
        rw[tokLen_cons,if_neg h1,if_neg h2,if_pos h3]
        simp only
        rw[if_neg h4])
       have hi:decide (0≤zF [40,41,61,60,43,45,42] c)=true:=by rw[idx_sg];exact hsg
       have SI:=zE (show ∀W,Calls Tryz.prog 185 #[.string ⟨#[40,41,61,60,43,45,42]⟩,.int .u8 (c.toNat:Nat)] W fun e w'=>e=.returned (.int .i64 (zF [40,41,61,60,43,45,42] c))∧w'=W from fun W=>by
        have h:=Tryz.strings_IndexByte ⟨#[40,41,61,60,43,45,42]⟩ (c.toNat:Nat) W
        rw[u8_back]at h
        exact h)
       clear hsg
       generalize zF [40,41,61,60,43,45,42] c=i at *
       clear h1 h2 h3 h4
       go_wp2_with fail
       refine(letter_any c _).mono ?_
       rintro e w' ⟨rfl,rfl⟩
       rw[h1']
       go_wp2_with fail
       refine(digit_any c _).mono ?_
       rintro e w' ⟨rfl,rfl⟩
       rw[h2']
       go_wp2_with fail
       refine(digit_any d _).mono ?_
       rintro e w' ⟨rfl,rfl⟩
       rw[h4']
       go_wp2_with fail
       refine(SI.out _).mono ?_
       rintro e w' ⟨rfl,rfl⟩
       go_wp2_with fail
       refine(need_yes _).mono ?_
       rintro e w' ⟨rfl,rfl⟩
       go_wp2_with fail
       go_ret
       exact NextP.tok HR.out (by simp) 1 HTL.out (by simp) (grown_trans hG1 (grown_set _ _ _ _)) (by rw[←HX1.out];rfl) (by first|exact rd_of (hV1.set _) HX2.out|exact hV1.set (.string ByteArray.empty))
    ·by_cases h5:c.toNat=34
     ·have u45:((c.toNat:Int) == 45)=false:=by rw[h5];rfl
      have u34:((c.toNat:Int) == 34)=true:=by rw[h5];rfl
      have HTL:=zE (show tokLen (c::u)=if spn notQ u<u.length∧(u.take (spn notQ u)).all okQ=true then spn notQ u+2 else 0 by rw[tokLen_cons,if_neg h1,if_neg h2,if_neg h3,if_pos h5])
      have hX:R.extract 1 (u.length+1)=⟨u.toArray⟩:=by rw[←HRR.out];exact ba_drop (c::u) 1
      have SI:=zE (show ∀W,Calls Tryz.prog 185 #[.string (R.extract 1 (u.length+1)),.int .u8 34] W fun e w'=>e=.returned (.int .i64 (if spn notQ u<u.length then(spn notQ u:Int) else -1))∧w'=W from fun W=>by
       rw[hX]
       have h:=Tryz.strings_IndexByte ⟨u.toArray⟩ 34 W
       rw[←idx_notQ]
       exact h)
      have hc34:c=34:=u8_eq (n:=34) h5 (by decide)
      obtain⟨q,hq⟩ :∃q,spn notQ u=q:=⟨_,rfl⟩
      by_cases hlt:q<u.length
      ·have hstop:=spn_stop notQ u (by rw[hq];exact hlt)
       have hat:u[q]=34:=by
        have h9:notQ (u[q])=false:=by simp only[hq]at hstop;exact hstop
        exact u8_eq (n:=34) (by simpa[notQ]using h9) (by decide)
       rw[hq]at HTL
       simp only[hq,if_pos hlt]at SI
       obtain⟨g,hg⟩ :∃g,(u.take q).all okQ=g:=⟨_,rfl⟩
       have HTL2:=zE (show tokLen (c::u)=if g=true then q+2 else 0 by
        rw[HTL.out,hg]
        cases g<;>simp[hlt])
       have IQ:=zE (show ∀W,Calls Tryz.prog 119 #[.string (R.extract 0 (q+2)),.func (.func 186) #[] #[]] W fun e w' =>∃i:Int,e=.returned (.int .i64 i)∧decide (i<0)=g∧Ext W w' from fun W=>by
        have e1:R.extract 0 (q+2)=⟨((c::u).take (q+2)).toArray⟩:=by rw[←HRR.out];exact ba_take _ _
        rw[e1]
        have e2:((c::u).take (q+2)).all okQ=g:=by
         rw[zC,List.take_succ_eq_append_getElem hlt,List.all_cons,List.all_append,hg,hat,hc34]
         cases g<;>rfl
        rw[←e2]
        exact idxq_any _ W)
       have HX1:=zE (show R.extract 0 (q+2)=⟨((c::u).take (q+2)).toArray⟩ by rw[←HRR.out];exact ba_take _ _)
       have HX2:=zE (show(⟨((c::u).drop (q+2)).toArray⟩:ByteArray)=R.extract (q+2) (u.length+1) by rw[←HRR.out];exact(ba_drop (c::u) (q+2)).symm)
       clear hat hstop hg hq hX hc34 h1 h2 h3 h5 HTL
       cases g with
       | true=>
        go_wp2_with fail
        refine(letter_any c _).mono ?_
        rintro e w' ⟨rfl,rfl⟩
        rw[h1']
        go_wp2_with fail
        refine(digit_any c _).mono ?_
        rintro e w' ⟨rfl,rfl⟩
        rw[h2']
        go_wp2_with fail
        refine(SI.out _).mono ?_
        rintro e w' ⟨rfl,rfl⟩
        go_wp2_with fail
        refine(need_yes _).mono ?_
        rintro e w' ⟨rfl,rfl⟩
        go_wp2_with fail
        refine(IQ.out _).mono ?_
        rintro e w2 ⟨i,rfl,hi,hE2⟩
        have hV2:=hV1.ext hE2
        obtain⟨hc2,hf2⟩:=hV2.cell
        rw[HRR.out]at hc2
        go_wp2_with fail
        refine(need_yes _).mono ?_
        rintro e w' ⟨rfl,rfl⟩
        go_wp2_with fail
        go_ret
        exact NextP.tok HR.out (by simp) (q+2) HTL2.out (by omega) (grown_trans (grown_trans hG1 (grown_of hE2 _)) (grown_set _ _ _ _)) (by rw[←HX1.out];rfl) (rd_of (hV2.set _) HX2.out)
       | false=>
        go_wp2_with fail
        refine(letter_any c _).mono ?_
        rintro e w' ⟨rfl,rfl⟩
        rw[h1']
        go_wp2_with fail
        refine(digit_any c _).mono ?_
        rintro e w' ⟨rfl,rfl⟩
        rw[h2']
        go_wp2_with fail
        refine(SI.out _).mono ?_
        rintro e w' ⟨rfl,rfl⟩
        go_wp2_with fail
        refine(need_yes _).mono ?_
        rintro e w' ⟨rfl,rfl⟩
        go_wp2_with fail
        refine(IQ.out _).mono ?_
        rintro e w2 ⟨i,rfl,hi,hE2⟩
        have hV2:=hV1.ext hE2
        obtain⟨hc2,hf2⟩:=hV2.cell
        rw[HRR.out]at hc2
        go_wp2_with fail
        refine(need_no _).mono ?_
        rintro e w' ⟨rfl,rfl⟩
        exact⟨rfl,NextP.bad HR.out (by simp) HTL2.out (grown_trans hG1 (grown_of hE2 _)) rfl hV2⟩
      ·rw[hq]at HTL
       simp only[hq,if_neg hlt]at SI
       have HTL2:=zE (show tokLen (c::u)=0 by rw[HTL.out,if_neg (fun e=>hlt e.1)])
       clear hq hX hc34 h1 h2 h3 h5 HTL hlt
       go_wp2_with fail
       refine(letter_any c _).mono ?_
       rintro e w' ⟨rfl,rfl⟩
       rw[h1']
       go_wp2_with fail
       refine(digit_any c _).mono ?_
       rintro e w' ⟨rfl,rfl⟩
       rw[h2']
       go_wp2_with fail
       refine(SI.out _).mono ?_
       rintro e w' ⟨rfl,rfl⟩
       go_wp2_with fail
       refine(need_no _).mono ?_
       rintro e w' ⟨rfl,rfl⟩
       exact⟨rfl,NextP.bad HR.out (by simp) HTL2.out hG1 rfl hV1⟩
     ·have u45:((c.toNat:Int) == 45)=false:=by rw[beq_eq_false_iff_ne];omega
      have u34:((c.toNat:Int) == 34)=false:=by rw[beq_eq_false_iff_ne];omega
      by_cases h6:isSg c=true
      ·have HTL:=zE (show tokLen (c::u)=1 by rw[tokLen_cons,if_neg h1,if_neg h2,if_neg h3,if_neg h5,if_pos h6])
       have hsg:(isSg c||decide (c.toNat=45))=true:=by rw[h6];rfl
       have HX1:=zE (show R.extract 0 1=⟨((c::u).take 1).toArray⟩ by rw[←HRR.out];exact ba_take (c::u) 1)
       have HX2:=zE (show(⟨((c::u).drop 1).toArray⟩:ByteArray)=R.extract 1 (u.length+1) by rw[←HRR.out];exact(ba_drop (c::u) 1).symm)
       have hi:decide (0≤zF [40,41,61,60,43,45,42] c)=true:=by rw[idx_sg];exact hsg
       have SI:=zE (show ∀W,Calls Tryz.prog 185 #[.string ⟨#[40,41,61,60,43,45,42]⟩,.int .u8 (c.toNat:Nat)] W fun e w'=>e=.returned (.int .i64 (zF [40,41,61,60,43,45,42] c))∧w'=W from fun W=>by
        have h:=Tryz.strings_IndexByte ⟨#[40,41,61,60,43,45,42]⟩ (c.toNat:Nat) W
        rw[u8_back]at h
        exact h)
       clear hsg
       generalize zF [40,41,61,60,43,45,42] c=i at *
       clear h1 h2 h3 h5 h6
       go_wp2_with fail
       refine(letter_any c _).mono ?_
       rintro e w' ⟨rfl,rfl⟩
       rw[h1']
       go_wp2_with fail
       refine(digit_any c _).mono ?_
       rintro e w' ⟨rfl,rfl⟩
       rw[h2']
       go_wp2_with fail
       refine(SI.out _).mono ?_
       rintro e w' ⟨rfl,rfl⟩
       go_wp2_with fail
       refine(need_yes _).mono ?_
       rintro e w' ⟨rfl,rfl⟩
       go_wp2_with fail
       go_ret
       exact NextP.tok HR.out (by simp) 1 HTL.out (by simp) (grown_trans hG1 (grown_set _ _ _ _)) (by rw[←HX1.out];rfl) (by first|exact rd_of (hV1.set _) HX2.out|exact hV1.set (.string ByteArray.empty))
      ·have HTL:=zE (show tokLen (c::u)=0 by rw[tokLen_cons,if_neg h1,if_neg h2,if_neg h3,if_neg h5,if_neg h6])
       have hsg:(isSg c||decide (c.toNat=45))=false:=by rw[decide_eq_false h3];simpa using h6
       have hi:decide (0≤zF [40,41,61,60,43,45,42] c)=false:=by rw[idx_sg];exact hsg
       have SI:=zE (show ∀W,Calls Tryz.prog 185 #[.string ⟨#[40,41,61,60,43,45,42]⟩,.int .u8 (c.toNat:Nat)] W fun e w'=>e=.returned (.int .i64 (zF [40,41,61,60,43,45,42] c))∧w'=W from fun W=>by
        have h:=Tryz.strings_IndexByte ⟨#[40,41,61,60,43,45,42]⟩ (c.toNat:Nat) W
        rw[u8_back]at h
        exact h)
       clear hsg
       generalize zF [40,41,61,60,43,45,42] c=i at *
       clear h1 h2 h3 h5 h6
       go_wp2_with fail
       refine(letter_any c _).mono ?_
       rintro e w' ⟨rfl,rfl⟩
       rw[h1']
       go_wp2_with fail
       refine(digit_any c _).mono ?_
       rintro e w' ⟨rfl,rfl⟩
       rw[h2']
       go_wp2_with fail
       refine(SI.out _).mono ?_
       rintro e w' ⟨rfl,rfl⟩
       go_wp2_with fail
       refine(need_no _).mono ?_
       rintro e w' ⟨rfl,rfl⟩
       exact⟨rfl,NextP.bad HR.out (by simp) HTL.out hG1 rfl hV1⟩
end Go.Proofs.YtmiencglfhpmeaaGreatDoor
namespace Go.Proofs.YtmiencglfhpmeaaGreatDoor
open Go.RowKit Hach
def RS (w:World) (b:Nat) (ts:List Tok) (bad:Bool):Prop :=∃s,RdAt w b s∧lt s=(ts,bad)∧s.length≤4096
theorem RS.lt {w:World}{b:Nat}{ts:List Tok}{bad:Bool}(h:RS w b ts bad):b<w.heap.size:=by
 obtain⟨s,h,_⟩:=h;exact VarAt.lt h
theorem RS.own {w w':World}{b:Nat}{ts:List Tok}{bad:Bool}{r:Option Nat}(h:RS w b ts bad) (hg:w.grownBy w' r) (hb:some b≠r):RS w' b ts bad:=by
 obtain⟨s,h1,h2,h3⟩:=h;exact⟨s,VarAt.own h1 hg hb,h2,h3⟩
theorem RS.ext {w w':World}{b:Nat}{ts:List Tok}{bad:Bool}(h:RS w b ts bad) (hE:Ext w w'):RS w' b ts bad:=h.own (grown_of hE none) (by simp)
theorem RS.toks {w:World}{b:Nat}{ts:List Tok}{bad:Bool}(h:RS w b ts bad):(∀t∈ts,IsTok t∧t.length≤4096)∧ts.length≤4096:=by
 obtain⟨s,h1,h2,h3⟩:=h
 obtain⟨i1,i2⟩:=lt_toks s.length s (Nat.le_refl _)
 rw[h2]at i1 i2
 simp only at i2
 exact⟨fun t ht=>⟨(i1 t ht).1,by have:=(i1 t ht).2;omega⟩,by omega⟩
def Pan (b:Nat) (w:World) (e:Ending) (w':World):Prop:=e=.panicked wrong∧w.grownBy w' (some b)
abbrev rp (b:Nat):Value:=.pointer (some ⟨b,0,none⟩)
def bs (t:Tok):Value:=.string ⟨t.toArray⟩
theorem next_tok {b:Nat}{w:World}{t:Tok}{ts:List Tok}{bad:Bool}(h:RS w b (t::ts) bad):Calls Tryz.prog 162 #[rp b] w fun e w'=>e=.returned (bs t)∧RS w' b ts bad∧w.grownBy w' (some b):=by
 obtain⟨s,h1,h2,h3⟩:=h
 refine(next_any s b w h1 (by omega)).mono ?_
 rintro e w' ⟨hg,hp⟩
 obtain⟨s',q1,q2,q3,q4,q5⟩:=nx_tok h2
 rw[q1]at hp
 exact⟨hp.1,⟨s',hp.2,q2,by omega⟩,hg⟩
theorem next_end {b:Nat}{w:World}(h:RS w b [] false):Calls Tryz.prog 162 #[rp b] w fun e w'=>e=.returned (bs [])∧RS w' b [] false∧w.grownBy w' (some b):=by
 obtain⟨s,h1,h2,h3⟩:=h
 refine(next_any s b w h1 (by omega)).mono ?_
 rintro e w' ⟨hg,hp⟩
 rw[nx_end h2]at hp
 exact⟨hp.1,⟨[],hp.2,rfl,by simp⟩,hg⟩
theorem next_bad {b:Nat}{w:World}(h:RS w b [] true):Calls Tryz.prog 162 #[rp b] w (Pan b w):=by
 obtain⟨s,h1,h2,h3⟩:=h
 refine(next_any s b w h1 (by omega)).mono ?_
 rintro e w' ⟨hg,hp⟩
 rw[nx_bad h2]at hp
 exact⟨hp.1,hg⟩
def TkP (t u:Tok) (A B:Prop):Prop:=(t=u→A)∧(t≠u→B)
def hd (ts:List Tok):Tok:=ts.headD []
set_option maxHeartbeats 1000000 in
theorem peek_ok {b:Nat}{w:World}{ts:List Tok}{bad:Bool}(h:RS w b ts bad) (hok:ts≠[]∨bad=false):Calls Tryz.prog 161 #[rp b] w fun e w'=>e=.returned (bs (hd ts))∧RS w' b ts bad∧w.grownBy w' (some b):=by
 have HN:Hid (Calls Tryz.prog 162 #[rp b] w fun e w'=>e=.returned (bs (hd ts))∧(∃ts',RS w' b ts' bad)∧w.grownBy w' (some b)):=zE (by
  cases ts with
  | nil=>
   rcases hok with hok|hok
   ·exact absurd rfl hok
   ·subst hok
    exact(next_end h).mono fun e w' ⟨a,q,c⟩=>⟨a,⟨_,q⟩,c⟩
  | cons t r=>exact(next_tok h).mono fun e w' ⟨a,q,c⟩=>⟨a,⟨_,q⟩,c⟩)
 obtain⟨s,h1,h2,h3⟩:=h
 obtain⟨hc,hf⟩:=h1.cell
 have H2:=zE h2
 clear h2 hok
 generalize hd ts=t at *
 unfold bs rp at *
 go_enter Tryz.func161,Tryz.ntmps161
 go_wp2_with fail
 refine HN.out.mono ?_
 rintro e w1 ⟨rfl,⟨ts',s',q1,_⟩,hg⟩
 obtain⟨hc1,hf1⟩:=VarAt.cell q1
 go_wp2_with fail
 go_ret
 exact⟨rfl,⟨s,VarAt.set q1 _,H2.out,h3⟩,grown_trans hg (grown_set _ _ _ _)⟩
set_option maxHeartbeats 1000000 in
theorem peek_bad {b:Nat}{w:World}(h:RS w b [] true):Calls Tryz.prog 161 #[rp b] w (Pan b w):=by
 have HN:=zE (next_bad h)
 obtain⟨s,h1,h2,h3⟩:=h
 obtain⟨hc,hf⟩:=h1.cell
 clear h2 h3
 unfold rp at *
 go_enter Tryz.func161,Tryz.ntmps161
 go_wp2_with fail
 refine HN.out.mono ?_
 rintro e w1 ⟨rfl,hg⟩
 exact⟨rfl,rfl,hg⟩
theorem bs_eq (t u:Tok) (D E:ByteArray) (hD:⟨t.toArray⟩=D) (hE:⟨u.toArray⟩=E):(D.toList == E.toList)=decide (t=u):=by
 subst hD;subst hE;exact bytes_beq t u
theorem bs_list (t u:Tok) (D:ByteArray) (hD:⟨t.toArray⟩=D):(D.toList == u)=decide (t=u):=by
 subst hD
 rw[ByteArray.toList_eq]
 show(t == u)=_
 by_cases h:t=u
 ·subst h;simp
 ·rw[decide_eq_false h];simpa using h
set_option maxHeartbeats 1000000 in
theorem take_tok {b:Nat}{w:World}{t:Tok}{ts:List Tok}{bad:Bool}(h:RS w b (t::ts) bad) (u:Tok):Calls Tryz.prog 139 #[rp b,bs u] w fun e w'=>TkP t u (e=.returned (.tuple #[])∧RS w' b ts bad) (e=.panicked wrong)∧w.grownBy w' (some b):=by
 have HN:=zE (next_tok h)
 clear h
 unfold bs rp at *
 obtain⟨D,hD⟩ :∃D:ByteArray,⟨t.toArray⟩=D:=⟨_,rfl⟩
 obtain⟨E,hE⟩ :∃E:ByteArray,⟨u.toArray⟩=E:=⟨_,rfl⟩
 have hq:=bs_eq t u D E hD hE
 rw[hD]at HN
 rw[hE]
 clear hD hE
 by_cases htu:t=u
 ·rw[decide_eq_true htu]at hq
  have HT:=zE htu
  clear htu
  go_enter Tryz.func139,Tryz.ntmps139
  go_wp2_with fail
  refine HN.out.mono ?_
  rintro e w1 ⟨rfl,hr,hg⟩
  go_wp2_with fail
  refine(need_yes _).mono ?_
  rintro e w' ⟨rfl,rfl⟩
  go_wp2_with fail
  go_end0
  exact⟨⟨fun _=>⟨rfl,hr⟩,fun hn=>absurd HT.out hn⟩,hg⟩
 ·rw[decide_eq_false htu]at hq
  have HT:=zE htu
  clear htu
  go_enter Tryz.func139,Tryz.ntmps139
  go_wp2_with fail
  refine HN.out.mono ?_
  rintro e w1 ⟨rfl,hr,hg⟩
  go_wp2_with fail
  refine(need_no _).mono ?_
  rintro e w' ⟨rfl,rfl⟩
  exact⟨rfl,⟨fun ht=>absurd ht HT.out,fun _=>rfl⟩,hg⟩
set_option maxHeartbeats 1000000 in
theorem take_end {b:Nat}{w:World}(h:RS w b [] false) (u:Tok):Calls Tryz.prog 139 #[rp b,bs u] w fun e w'=>TkP u [] (e=.returned (.tuple #[])) (e=.panicked wrong)∧w.grownBy w' (some b):=by
 have HN:=zE (next_end h)
 clear h
 unfold bs rp at *
 obtain⟨D,hD⟩ :∃D:ByteArray,⟨([]:List UInt8).toArray⟩=D:=⟨_,rfl⟩
 obtain⟨E,hE⟩ :∃E:ByteArray,⟨u.toArray⟩=E:=⟨_,rfl⟩
 have hq:=bs_eq [] u D E hD hE
 rw[hD]at HN
 rw[hE]
 clear hD hE
 by_cases htu:u=[]
 ·rw[decide_eq_true htu.symm]at hq
  have HT:=zE htu
  clear htu
  go_enter Tryz.func139,Tryz.ntmps139
  go_wp2_with fail
  refine HN.out.mono ?_
  rintro e w1 ⟨rfl,hr,hg⟩
  go_wp2_with fail
  refine(need_yes _).mono ?_
  rintro e w' ⟨rfl,rfl⟩
  go_wp2_with fail
  go_end0
  exact⟨⟨fun _=>rfl,fun hn=>absurd HT.out hn⟩,hg⟩
 ·rw[decide_eq_false (fun e=>htu e.symm)]at hq
  have HT:=zE htu
  clear htu
  go_enter Tryz.func139,Tryz.ntmps139
  go_wp2_with fail
  refine HN.out.mono ?_
  rintro e w1 ⟨rfl,hr,hg⟩
  go_wp2_with fail
  refine(need_no _).mono ?_
  rintro e w' ⟨rfl,rfl⟩
  exact⟨rfl,⟨fun ht=>absurd ht HT.out,fun _=>rfl⟩,hg⟩
set_option maxHeartbeats 1000000 in
theorem take_bad {b:Nat}{w:World}(h:RS w b [] true) (u:Tok):Calls Tryz.prog 139 #[rp b,bs u] w (Pan b w):=by
 have HN:=zE (next_bad h)
 clear h
 unfold bs rp at *
 go_enter Tryz.func139,Tryz.ntmps139
 go_wp2_with fail
 refine HN.out.mono ?_
 rintro e w1 ⟨rfl,hg⟩
 exact⟨rfl,rfl,hg⟩
theorem take_any {b:Nat}{w:World}{ts:List Tok}{bad:Bool}(h:RS w b ts bad) (u:Tok) (hu:u≠[]):Calls Tryz.prog 139 #[rp b,bs u] w fun e w'=>(match takeT u ts with|some r=>e=.returned (.tuple #[])∧RS w' b r bad|none=>e=.panicked wrong)∧w.grownBy w' (some b):=by
 cases ts with
 | nil=>
  cases bad with
  | true=>exact(take_bad h u).mono fun e w' ⟨a,q⟩=>⟨a,q⟩
  | false=>
   refine(take_end h u).mono fun e w' ⟨a,q⟩=>⟨?_,q⟩
   exact a.2 hu
 | cons t r=>
  refine(take_tok h u).mono fun e w' ⟨a,q⟩=>⟨?_,q⟩
  by_cases htu:t=u
  ·rw[show takeT u (t::r)=some r from if_pos htu]
   exact a.1 htu
  ·rw[show takeT u (t::r)=none from if_neg htu]
   exact a.2 htu
end Go.Proofs.YtmiencglfhpmeaaGreatDoor
