/- The reference's Take of a query: its walk. The reference's step taken: plain laws, and what is held while it reads. registrarref22.Take: its walk. The reference's lines, and its scripts read letter by letter: plain laws. registrarref22.line: its walk. registrarref22.Parse: its walk. The law ScriptParses: its walk. -/
import Derived.Laws.EntriesVeiled
import Derived.Test.YtocpcnmnhckcpaaGreatYScriptParses1
import Derived.Test.YtocpcnmnhckcpaaGreatYScriptParses2
import Derived.Test.YtocpcnmnhckcpaaGreatYScriptParses3
import Derived.Test.YtocpcnmnhckcpaaGreatYScriptParses4
import Derived.Test.YtocpcnmnhckcpaaGreatYScriptParses5
import Derived.Test.YtocpcnmnhckcpaaGreatYScriptParses6
set_option linter.unusedVariables false
set_option linter.unusedSimpArgs false
namespace Go.Proofs.YtocpcnmnhckcpaaGreat.Prt
open RowKit YtocpcnmnhckcpaaGreatW.PrintWords YtocpcnmnhckcpaaGreatW.PrintLast YtocpcnmnhckcpaaGreatW.PrintMore YtocpcnmnhckcpaaGreat.Num YtocpcnmnhckcpaaGreat.Nam
theorem S_turnN {α:Type} {d:Kd α} {e:Nat} {w w1:World} {base g t N:Nat} {v:Value} {xs:List α} {cells:Array Value} (h:Kd.S d e w base (fun k=>k < N) v xs) (hb:w.heap[g]? = some (.cells cells t (0,0))) (ht:∀ q,q ∈ e :: d.E→q≠t) (hk:KeepBut w w1 g none):Kd.S d e w1 base (fun k=>k < N) v xs:=
 Kd.S_mono (Kd.S_keep (Kd.S_types h hb ht) hk (fun k hk=>hk.2)) (fun k hk=>hk.1)
set_option maxRecDepth 100000 in
theorem refQ_calls (P:Nat→Prop) (w:World) (g:Nat) (l:List Int) (bad:Bool) (hI:Rd 60 P w g l bad) (hb:isBytes l) (hP:∀ k,P k→k < w.heap.size) (r:List S96 × Int × List Int × Bool) (hr:refQ l bad=r) :
  Calls Tryz.prog 26 #[.pointer (some ⟨g,0,none⟩)] w fun e w'=>∃ v,e = .returned (.tuple #[.agg #[v],.int .i64 r.2.1])∧Kd.S k96 96 w' w.heap.size (fun _=>True) v r.1∧Lw w w' P g l.length r.2.2:=by
 obtain ⟨x,hx⟩:∃ x,numOf l=x:=⟨_,rfl⟩
 have hri:=numOf_i64 hb
 rw [hx] at hri
 obtain ⟨hr1,hr2⟩:=hri
 unfold refQ at hr
 rw [hx] at hr
 have HAB:=Ak (And.intro (aft_bytes hb) (aft_len l hb))
 have HFIT:=Ak (fun i y hy=>fitC_iff.2 (⟨fun s hs=>Nat.le_trans (((refCs_left (b:=badOf l bad) HAB.out.1 i).2.2 y hy).1 s hs) (Nat.le_trans HAB.out.2 hI.len),fun s hs=>Nat.le_trans (((refCs_left (b:=badOf l bad) HAB.out.1 i).2.2 y hy).2 s hs) (Nat.le_trans HAB.out.2 hI.len)⟩))
 have HPP:=Ak hP
 have HGW:=Ak hI.lt
 have HR:=Ak hr
 have HX:=Ak hx
 have HL0:=Ak (Lw.mk (n:=l.length) (q:=(l,bad)) hI hb (Nat.le_refl _) (Below.refl g w) (KeepBut.refl w g none))
 clear hI hb hx hP hr
 have hu32:=Tryz.underlying32
 have hu96:=Tryz.underlying96
 have hu60:=Tryz.underlying60
 go_enter Tryz.func26,Tryz.ntmps26
 go_upto_region 1 with (((with_reducible refine gate_dst (N:=2) rfl ?_);(try (refine gate_guard (by rfl) ?_;dsimp only));refine box_event ?hg (N:=2) ?hd (cs:=#[.slice none 0 0]) (t:=32) ?hr ?_;(case hd=>rfl);(case hg=>rfl);(case hr=>(go_simp;done));intro Q hg_ w1 hbox_ hb_;have HQ:=Ak hbox_;have HQN:=Ak hg_;have HQB:=Ak hb_;clear hbox_ hg_ hb_))
 have HQW:=Ak (show w.heap.size≤Q∧Q≠g by have h1:=HQN.out;have h2:=HGW.out;omega)
 have HL1:=Ak (HL0.out.up HQB.out)
 clear HL0 HQN HQB
 go_wp2_with fail
 refine (refNum_calls' x P w1 g l bad HL1.out.rd HL1.out.by_ HX.out).mono ?_
 rintro e w2 ⟨rfl,hI,hb,hk⟩
 have HL2:=Ak (HL1.out.trans (Lw.mk (n:=l.length) (q:=(aft l,badOf l bad)) hI HAB.out.1 HAB.out.2 hb hk) (Nat.le_refl _))
 have HQ2:=Ak (hk.blk HQ.out HQW.out.2 (by simp))
 clear hI hb hk HL1 HQ
 go_upto_region 3 with (((with_reducible refine gate_dst (N:=5) rfl ?_);(try (refine gate_guard (by rfl) ?_;dsimp only));refine box_event ?hg (N:=5) ?hd (cs:=#[.slice none 0 0]) (t:=32) ?hr ?_;(case hd=>rfl);(case hg=>rfl);(case hr=>(go_simp;done));intro E hg_ w3 hbox_ hb_;have HE:=Ak hbox_;have HEN:=Ak hg_;have HEB:=Ak hb_;clear hbox_ hg_ hb_;have he0:=blk_cell HE.out 0;have hf0:=blk_frozen HE.out 0))
 have HEW:=Ak (show w.heap.size≤E∧E≠g∧E≠Q by
  have h1:=HEN.out
  have h2:=HGW.out
  have h3:=HL2.out.keep.1
  have h4:=blk_lt HQ2.out
  omega)
 have n1_:=Ak ((HL2.out.up HEB.out).set HGW.out HPP.out HEW.out.1 0 (.slice none 0 0))
 have n2_:=Ak (blk_far (blk_below HQ2.out HEB.out) (Ne.symm HEW.out.2.2) (p:=⟨E,0,none⟩) (.slice none 0 0))
 have n3_:=Ak (blk_put (cs':=#[.slice none 0 0]) HE.out 0 (.slice none 0 0) rfl)
 clear HL2 HQ2 HE HEN HEB he0 hf0
 generalize w3.setCell ⟨E,0,none⟩ (.slice none 0 0)=w4 at n1_ n2_ n3_ ⊢
 go_wp2_with fail
 go_loopg [6] 6 (fun k v6 w'=>∃ (i:Nat) (v:Value),v6 = .int .i64 (i:Int)∧Aside0 (i+k=6)∧Aside0 (i≤cnt x)∧Aside0 (Kd.S k96 96 w' w.heap.size (fun _=>True) v (refCs i (aft l) (badOf l bad)).1)∧Aside0 (Lw w w' P g l.length (refCs i (aft l) (badOf l bad)).2)∧Aside0 (w'.heap[E]? = some (.cells #[v] 32 (0,0)))∧Aside0 (w'.heap[Q]? = some (.cells #[.slice none 0 0] 32 (0,0))))
 case atStart=>exact ⟨0,.slice none 0 0,rfl,⟨by omega⟩,⟨Nat.zero_le _⟩,⟨Kd.S_nil _ _ _ _ _⟩,n1_,n3_,n2_⟩
 case round=>
  clear n1_ n2_ n3_
  obtain ⟨i,v,rfl,HK,HC,HS,HL,HE,HQ⟩:=hrel
  by_cases hgo:(i:Int) < x∧i≤4
  ·have d1:decide ((i:Int) < x)=true:=decide_eq_true hgo.1
   have d2:decide ((i:Int)≤4)=true:=decide_eq_true (by omega)
   have HGO:=Ak hgo
   have HLEN:=Ak (refCs_len (aft l) (badOf l bad) i)
   obtain ⟨⟨acc,l1,b1⟩,hq⟩:∃ q,refCs i (aft l) (badOf l bad)=q:=⟨_,rfl⟩
   rw [hq] at HS HL HLEN
   have HQQ:=Ak (show refCs (i+1) (aft l) (badOf l bad)=(acc++[(refC l1 b1).1],(refC l1 b1).2) by rw [refCs,hq])
   have hlen:acc.length≤1000:=by have h1:=HLEN.out;have h2:=hgo.2;simp only at h1;omega
   obtain ⟨A5,c5,e5⟩:=Kd.S_slice HS.out
   subst e5
   obtain ⟨⟨m0,l2,b2⟩,hq0⟩:∃ q,refT l1 b1=q:=⟨_,rfl⟩
   obtain ⟨⟨m1,l3,b3⟩,hq1⟩:∃ q,refT l2 b2=q:=⟨_,rfl⟩
   have HRC:=Ak (show refC l1 b1=(⟨m0,m1⟩,l3,b3) by unfold refC;rw [hq0];simp only;rw [hq1])
   have HQ0:=Ak hq0
   have HQ1:=Ak hq1
   have HWR:=Ak HL.out.keep.1
   clear hgo hq hq0 hq1 HLEN
   go_wp2_with fail
   refine (refTaken_calls P wr g l1 b1 HL.out.rd HL.out.by_ (fun k hk=>Nat.lt_of_lt_of_le (HPP.out k hk) HWR.out) _ HQ0.out).mono ?_
   rintro e w5 ⟨v0,rfl,h0,hL⟩
   obtain ⟨A0,c0,e0⟩:=Kd.R_slice h0
   subst e0
   have HS5:Aside0 (Kd.S k96 96 w5 w.heap.size (fun k=>k < wr.heap.size) (.slice A5 acc.length c5) acc):=⟨by
    obtain ⟨A',c',hblk,_⟩:=HL.out.rd
    exact S_turnG HS.out hblk (by decide) hL.keep⟩
   have H0:=Ak h0
   have HSZ:=Ak hL.keep.1
   have HE5:=Ak (hL.keep.blk HE.out HEW.out.2.1 (by simp))
   have HQ5:=Ak (hL.keep.blk HQ.out HQW.out.2 (by simp))
   have HL5:=Ak (HL.out.trans hL HL.out.len)
   clear h0 hL HS HL HE HQ
   go_upto_region 7 with (((with_reducible refine gate_dst (N:=7) rfl ?_);(try (refine gate_guard (by rfl) ?_;dsimp only));refine box_event ?hg (N:=7) ?hd (cs:=#[.slice none 0 0,.slice none 0 0]) (t:=96) ?hr ?_;(case hd=>rfl);(case hg=>rfl);(case hr=>(go_simp;done));intro B hg_ w6 hbox_ hb_;have HB:=Ak hbox_;have HBN:=Ak hg_;have HBB:=Ak hb_;clear hbox_ hg_ hb_;have hq0:=blk_cell HB.out 0;have hf0:=blk_frozen HB.out 0;have hq1:=blk_cell HB.out 1;have hf1:=blk_frozen HB.out 1))
   have HBG:Aside0 (wr.heap.size≤B∧w.heap.size≤B∧B≠g∧B≠E∧B≠Q):=⟨by
    have h1:=HBN.out
    have h2:=HSZ.out
    have h3:=HWR.out
    have h4:=HGW.out
    have h5:=blk_lt HE5.out
    have h6:=blk_lt HQ5.out
    omega⟩
   have n1_:=Ak (Kd.S_far (p:=⟨B,1,none⟩) (Kd.S_far (p:=⟨B,0,none⟩) (Kd.S_below HS5.out HBB.out) (fun k hk=>by have:=HBG.out.1;show k≠B;omega) (.slice A0 m0.length c0)) (fun k hk=>by have:=HBG.out.1;show k≠B;omega) (.slice none 0 0))
   have n2_:=Ak (R_setA2 (Kd.R_below H0.out HBB.out) HB.out (by decide) (.slice A0 m0.length c0) (.slice none 0 0))
   have n3_:=Ak (((HL5.out.up HBB.out).set HGW.out HPP.out HBG.out.2.1 0 (.slice A0 m0.length c0)).set HGW.out HPP.out HBG.out.2.1 1 (.slice none 0 0))
   have n4_:=Ak (blk_far (blk_far (blk_below HE5.out HBB.out) (Ne.symm HBG.out.2.2.2.1) (p:=⟨B,0,none⟩) (.slice A0 m0.length c0)) (Ne.symm HBG.out.2.2.2.1) (p:=⟨B,1,none⟩) (.slice none 0 0))
   have n5_:=Ak (blk_far (blk_far (blk_below HQ5.out HBB.out) (Ne.symm HBG.out.2.2.2.2) (p:=⟨B,0,none⟩) (.slice A0 m0.length c0)) (Ne.symm HBG.out.2.2.2.2) (p:=⟨B,1,none⟩) (.slice none 0 0))
   have n6_:=Ak (blk_put (cs':=#[.slice A0 m0.length c0,.slice none 0 0]) (blk_put (cs':=#[.slice A0 m0.length c0,.slice none 0 0]) HB.out 0 (.slice A0 m0.length c0) rfl) 1 (.slice none 0 0) rfl)
   have HSZ6:=Ak (Nat.le_trans HSZ.out HBB.out.size)
   clear HS5 H0 HL5 HE5 HQ5 HB HBN HBB hq0 hq1 hf0 hf1
   generalize hw7:(w6.setCell ⟨B,0,none⟩ (.slice A0 m0.length c0)).setCell ⟨B,1,none⟩ (.slice none 0 0)=w7 at n1_ n2_ n3_ n4_ n5_ n6_ ⊢
   have HSZ7:=Ak (show wr.heap.size≤w7.heap.size by rw [←hw7];simpa using HSZ6.out)
   clear hw7 HSZ HSZ6
   go_wp2_with fail
   refine (refTaken_calls P w7 g l2 b2 n3_.out.rd n3_.out.by_ (fun k hk=>Nat.lt_of_lt_of_le (HPP.out k hk) n3_.out.keep.1) _ HQ1.out).mono ?_
   rintro e w8 ⟨v1,rfl,h1,hL⟩
   obtain ⟨A1,c1,e1⟩:=Kd.R_slice h1
   subst e1
   have HS8:Aside0 (Kd.S k96 96 w8 w.heap.size (fun k=>k < wr.heap.size) (.slice A5 acc.length c5) acc):=⟨by
    obtain ⟨A',c',hblk,_⟩:=n3_.out.rd
    exact S_turnN n1_.out hblk (by decide) hL.keep⟩
   have H1:=Ak (Kd.R_lower h1 HSZ7.out)
   have H0:=Ak (R_off' n2_.out (Nat.lt_of_lt_of_le HGW.out HWR.out) hL.keep)
   have HE8:=Ak (hL.keep.blk n4_.out HEW.out.2.1 (by simp))
   have HQ8:=Ak (hL.keep.blk n5_.out HQW.out.2 (by simp))
   have HB8:=Ak (hL.keep.blk n6_.out HBG.out.2.2.1 (by simp))
   have HL8:=Ak (n3_.out.trans hL n3_.out.len)
   clear h1 hL n1_ n2_ n3_ n4_ n5_ n6_
   have hq1:=blk_cell HB8.out 1
   have hf1:=blk_frozen HB8.out 1
   go_upto_region 8 with (fail)
   have n1_:=Ak (Kd.S_far (p:=⟨B,1,none⟩) HS8.out (fun k hk=>by have:=HBG.out.1;show k≠B;omega) (.slice A1 m1.length c1))
   have n2_:=Ak (R_set H0.out HB8.out (by decide) 1 (.slice A1 m1.length c1))
   have n2b_:=Ak (R_set H1.out HB8.out (by decide) 1 (.slice A1 m1.length c1))
   have n3_:=Ak (HL8.out.set HGW.out HPP.out HBG.out.2.1 1 (.slice A1 m1.length c1))
   have n4_:=Ak (blk_far HE8.out (Ne.symm HBG.out.2.2.2.1) (p:=⟨B,1,none⟩) (.slice A1 m1.length c1))
   have n5_:=Ak (blk_far HQ8.out (Ne.symm HBG.out.2.2.2.2) (p:=⟨B,1,none⟩) (.slice A1 m1.length c1))
   have n6_:=Ak (blk_put (cs':=#[.slice A0 m0.length c0,.slice A1 m1.length c1]) HB8.out 1 (.slice A1 m1.length c1) rfl)
   clear HS8 H0 H1 HE8 HQ8 HB8 HL8 hq1 hf1
   generalize w8.setCell ⟨B,1,none⟩ (.slice A1 m1.length c1)=w9 at n1_ n2_ n2b_ n3_ n4_ n5_ n6_ ⊢
   have he0:=blk_cell n4_.out 0
   have hfe:=blk_frozen n4_.out 0
   have hq0:=blk_cell n6_.out 0
   have hq1:=blk_cell n6_.out 1
   have HAP:Aside0 (∀ k,wr.heap.size≤k→True∧some k≠(Value.slice A5 acc.length c5).ownBlock):=⟨fun k hk=>⟨trivial,fun e_=>by have h_:=(Kd.S_R n1_.out).1 k e_.symm;omega⟩⟩
   have HAQ:Aside0 (Kd.S k96 96 w9 w.heap.size (fun k=>True∧¬wr.heap.size≤k) (.slice A5 acc.length c5) acc):=⟨Kd.S_mono n1_.out (fun k hk=>⟨trivial,by omega⟩)⟩
   have HMK:Aside0 ((k96).M w9 w.heap.size (fun k=>wr.heap.size≤k) ⟨m0,m1⟩ [.slice A0 m0.length c0,.slice A1 m1.length c1]):=⟨k96_mkM _ _ _ ⟨m0,m1⟩ (Kd.R_lower (Kd.R_mono (Kd.R_bound n2_.out) (fun k hk=>hk.2.1)) HWR.out) (Kd.R_lower (Kd.R_mono (Kd.R_bound n2b_.out) (fun k hk=>hk.2.1)) HWR.out)⟩
   go_upto_region 5 with (((with_reducible refine gate_builtin (b:=.append) (xs:=#[.tmp 27,.tmp 29]) rfl ?_);at_builtin;refine Kd.S_append k96 (w0:=w9) w.heap.size rfl (.tmp 27) (.tmp 29) 30 96 (.agg #[.slice none 0 0,.slice none 0 0]) 48 rfl Tryz.underlying30 info_cla rfl (by decide) (by omega) (.slice A5 acc.length c5) acc ⟨m0,m1⟩ [.slice A0 m0.length c0,.slice A1 m1.length c1] (fun _=>True) (fun k=>wr.heap.size≤k) rfl rfl HMK.out HAP.out (fun _ _=>trivial) HAQ.out (Below.refl _ _) n3_.out.keep.1 (by omega) ?_;intro v wa ho hb hg hat;have HO:=Ak ho;have HG:=Ak hg;have HBA:=Ak hb;clear ho hb hg hat;have HEA:=Ak (blk_grown n4_.out HG.out (Kd.S_ne n1_.out n4_.out (by decide)));obtain ⟨Av,cv,ev_⟩:=Kd.S_slice HO.out;subst ev_;clear he0 hfe hq0 hq1;have he0:=blk_cell HEA.out 0;have hfe:=blk_frozen HEA.out 0))
   have u1_:=Ak (by have h:=S_set HO.out HEA.out (by decide) 0 (.slice Av (acc.length+1) cv);rw [List.length_append,List.length_singleton] at h;exact h)
   have u2_:=Ak ((n3_.out.grown HGW.out HPP.out HG.out (Kd.S_base n1_.out) (n3_.out.below.trans (HBA.out.mono (Nat.le_of_lt HGW.out)))).set HGW.out HPP.out HEW.out.1 0 (.slice Av (acc.length+1) cv))
   have u3_:=Ak (blk_put (cs':=#[.slice Av (acc.length+1) cv]) HEA.out 0 (.slice Av (acc.length+1) cv) rfl)
   have u4_:=Ak (blk_far (blk_grown n5_.out HG.out (Kd.S_ne n1_.out n5_.out (by decide))) (Ne.symm HEW.out.2.2) (p:=⟨E,0,none⟩) (.slice Av (acc.length+1) cv))
   clear he0 hfe n1_ n2_ n2b_ n3_ n4_ n5_ n6_ HO HG HBA HEA HAP HAQ HMK
   generalize wa.setCell ⟨E,0,none⟩ (.slice Av (acc.length+1) cv)=wb at u1_ u2_ u3_ u4_ ⊢
   have hi4:=HGO.out.2
   go_wp2_with fail
   go_roundg (6 - (i+1))
   case measure=>have:=HK.out;omega
   case rel=>exact ⟨i+1,_,by go_num,⟨by have:=HK.out;have:=HGO.out.2;omega⟩,⟨by have h:=HGO.out;unfold cnt;omega⟩,⟨by rw [HQQ.out,HRC.out];exact u1_.out⟩,⟨by rw [HQQ.out,HRC.out];exact u2_.out⟩,u3_,u4_⟩
  ·by_cases hin:(i:Int) < x
   ·have d1:decide ((i:Int) < x)=true:=decide_eq_true hin
    have d2:decide ((i:Int)≤4)=false:=decide_eq_false (by omega)
    have hi:i=cnt x:=by have h:=HC.out;unfold cnt at h ⊢;omega
    have HI:=Ak hi
    clear hgo hin hi
    obtain ⟨⟨acc,l1,b1⟩,hq⟩:∃ q,refCs i (aft l) (badOf l bad)=q:=⟨_,rfl⟩
    rw [hq] at HS HL
    have HR2:Aside0 ((if x < 0∨b1=true∨mayQ acc≠0 then ([],2,(l1,b1)) else (acc,0,(l1,b1)))=r):=⟨by have h:=HR.out;rw [←HI.out,hq] at h;exact h⟩
    have HFT:=Ak (show q06_MayG.f acc=some (mayQ acc) from if_pos (List.all_eq_true.2 fun y hy=>HFIT.out i y (by rw [hq];exact hy)))
    clear hq
    obtain ⟨A5,c5,e5⟩:=Kd.S_slice HS.out
    subst e5
    by_cases hneg:x < 0
    ·have d3:decide (x < 0)=true:=decide_eq_true hneg
     have HS2:=Ak ((if_pos (.inl hneg)).symm.trans HR2.out)
     have hq0:=blk_cell HQ.out 0
     have hf0:=blk_frozen HQ.out 0
     go_wp2_with fail
     have HE9:=blk_put (cs':=#[.slice none 0 0]) HQ.out 0 (.slice none 0 0) rfl
     refine bodyPost_ret (results_ct rfl _ _ Q 32 _ (0,0) _ rfl HE9 Tryz.underlying32 rfl (by kernel_rfl)) rfl ?_
     rw [←HS2.out]
     exact ⟨.slice none 0 0,rfl,Kd.S_nil _ _ _ _ _,HL.out.set HGW.out HPP.out HQW.out.1 0 _⟩
    have d3:decide (x < 0)=false:=decide_eq_false hneg
    obtain ⟨A',c',hblk,_⟩:∃ A' c',wr.heap[g]? = some (.cells #[.slice A' l1.length c',.bool b1] 60 (0,0))∧True:=by
     obtain ⟨A',c',hblk,_⟩:=HL.out.rd
     exact ⟨A',c',hblk,trivial⟩
    have hc1:=blk_cell hblk 1
    clear hblk
    cases b1 with
    | true=>
     have HS2:=Ak ((if_pos (.inr (.inl rfl))).symm.trans HR2.out)
     have hq0:=blk_cell HQ.out 0
     have hf0:=blk_frozen HQ.out 0
     go_wp2_with fail
     have HE9:=blk_put (cs':=#[.slice none 0 0]) HQ.out 0 (.slice none 0 0) rfl
     refine bodyPost_ret (results_ct rfl _ _ Q 32 _ (0,0) _ rfl HE9 Tryz.underlying32 rfl (by kernel_rfl)) rfl ?_
     rw [←HS2.out]
     exact ⟨.slice none 0 0,rfl,Kd.S_nil _ _ _ _ _,HL.out.set HGW.out HPP.out HQW.out.1 0 _⟩
    | false=>
     obtain ⟨-,hcl,hC⟩:=Kd.S_reads' HS.out
     have HM:=Ak (q06_MayG.calls A5 c5 acc (mayQ acc) wr hC hcl HFT.out)
     have he0:=blk_cell HE.out 0
     clear hC hcl
     go_wp2_with fail
     refine HM.out.mono ?_
     rintro e w8 ⟨rfl,hb8⟩
     have HS8:=Ak (Kd.S_below HS.out hb8)
     have HQ8:=Ak (blk_below HQ.out hb8)
     have HL8:=Ak (HL.out.up hb8)
     have HE8:=Ak (blk_below HE.out hb8)
     clear hb8 HS HQ HL HE HM he0 hc1
     by_cases h0:mayQ acc=0
     ·have hbn:(mayQ acc != 0)=false:=bne_eq_false_iff_eq.mpr h0
      have HS2:=Ak ((if_neg (by rintro (h | h | h);(· omega);(· cases h);exact h h0)).symm.trans HR2.out)
      clear h0
      have hq0:=blk_cell HQ8.out 0
      have hf0:=blk_frozen HQ8.out 0
      have he0:=blk_cell HE8.out 0
      go_wp2_with fail
      have HE9:=blk_put (cs':=#[.slice A5 acc.length c5]) HQ8.out 0 (.slice A5 acc.length c5) rfl
      refine bodyPost_ret (results_ct rfl _ _ Q 32 _ (0,0) _ rfl HE9 Tryz.underlying32 rfl (by kernel_rfl)) rfl ?_
      rw [←HS2.out]
      exact ⟨.slice A5 acc.length c5,rfl,S_set HS8.out HQ8.out (by decide) 0 _,HL8.out.set HGW.out HPP.out HQW.out.1 0 _⟩
     ·have hbn:(mayQ acc != 0)=true:=bne_iff_ne.mpr h0
      have HS2:=Ak ((if_pos (.inr (.inr h0))).symm.trans HR2.out)
      clear h0
      have hq0:=blk_cell HQ8.out 0
      have hf0:=blk_frozen HQ8.out 0
      go_wp2_with fail
      have HE9:=blk_put (cs':=#[.slice none 0 0]) HQ8.out 0 (.slice none 0 0) rfl
      refine bodyPost_ret (results_ct rfl _ _ Q 32 _ (0,0) _ rfl HE9 Tryz.underlying32 rfl (by kernel_rfl)) rfl ?_
      rw [←HS2.out]
      exact ⟨.slice none 0 0,rfl,Kd.S_nil _ _ _ _ _,HL8.out.set HGW.out HPP.out HQW.out.1 0 _⟩
   ·have d1:decide ((i:Int) < x)=false:=decide_eq_false hin
    have hi:i=cnt x:=by have h:=HC.out;unfold cnt at h ⊢;omega
    have HI:=Ak hi
    clear hgo hin hi
    obtain ⟨⟨acc,l1,b1⟩,hq⟩:∃ q,refCs i (aft l) (badOf l bad)=q:=⟨_,rfl⟩
    rw [hq] at HS HL
    have HR2:Aside0 ((if x < 0∨b1=true∨mayQ acc≠0 then ([],2,(l1,b1)) else (acc,0,(l1,b1)))=r):=⟨by have h:=HR.out;rw [←HI.out,hq] at h;exact h⟩
    have HFT:=Ak (show q06_MayG.f acc=some (mayQ acc) from if_pos (List.all_eq_true.2 fun y hy=>HFIT.out i y (by rw [hq];exact hy)))
    clear hq
    obtain ⟨A5,c5,e5⟩:=Kd.S_slice HS.out
    subst e5
    by_cases hneg:x < 0
    ·have d3:decide (x < 0)=true:=decide_eq_true hneg
     have HS2:=Ak ((if_pos (.inl hneg)).symm.trans HR2.out)
     have hq0:=blk_cell HQ.out 0
     have hf0:=blk_frozen HQ.out 0
     go_wp2_with fail
     have HE9:=blk_put (cs':=#[.slice none 0 0]) HQ.out 0 (.slice none 0 0) rfl
     refine bodyPost_ret (results_ct rfl _ _ Q 32 _ (0,0) _ rfl HE9 Tryz.underlying32 rfl (by kernel_rfl)) rfl ?_
     rw [←HS2.out]
     exact ⟨.slice none 0 0,rfl,Kd.S_nil _ _ _ _ _,HL.out.set HGW.out HPP.out HQW.out.1 0 _⟩
    have d3:decide (x < 0)=false:=decide_eq_false hneg
    obtain ⟨A',c',hblk,_⟩:∃ A' c',wr.heap[g]? = some (.cells #[.slice A' l1.length c',.bool b1] 60 (0,0))∧True:=by
     obtain ⟨A',c',hblk,_⟩:=HL.out.rd
     exact ⟨A',c',hblk,trivial⟩
    have hc1:=blk_cell hblk 1
    clear hblk
    cases b1 with
    | true=>
     have HS2:=Ak ((if_pos (.inr (.inl rfl))).symm.trans HR2.out)
     have hq0:=blk_cell HQ.out 0
     have hf0:=blk_frozen HQ.out 0
     go_wp2_with fail
     have HE9:=blk_put (cs':=#[.slice none 0 0]) HQ.out 0 (.slice none 0 0) rfl
     refine bodyPost_ret (results_ct rfl _ _ Q 32 _ (0,0) _ rfl HE9 Tryz.underlying32 rfl (by kernel_rfl)) rfl ?_
     rw [←HS2.out]
     exact ⟨.slice none 0 0,rfl,Kd.S_nil _ _ _ _ _,HL.out.set HGW.out HPP.out HQW.out.1 0 _⟩
    | false=>
     obtain ⟨-,hcl,hC⟩:=Kd.S_reads' HS.out
     have HM:=Ak (q06_MayG.calls A5 c5 acc (mayQ acc) wr hC hcl HFT.out)
     have he0:=blk_cell HE.out 0
     clear hC hcl
     go_wp2_with fail
     refine HM.out.mono ?_
     rintro e w8 ⟨rfl,hb8⟩
     have HS8:=Ak (Kd.S_below HS.out hb8)
     have HQ8:=Ak (blk_below HQ.out hb8)
     have HL8:=Ak (HL.out.up hb8)
     have HE8:=Ak (blk_below HE.out hb8)
     clear hb8 HS HQ HL HE HM he0 hc1
     by_cases h0:mayQ acc=0
     ·have hbn:(mayQ acc != 0)=false:=bne_eq_false_iff_eq.mpr h0
      have HS2:=Ak ((if_neg (by rintro (h | h | h);(· omega);(· cases h);exact h h0)).symm.trans HR2.out)
      clear h0
      have hq0:=blk_cell HQ8.out 0
      have hf0:=blk_frozen HQ8.out 0
      have he0:=blk_cell HE8.out 0
      go_wp2_with fail
      have HE9:=blk_put (cs':=#[.slice A5 acc.length c5]) HQ8.out 0 (.slice A5 acc.length c5) rfl
      refine bodyPost_ret (results_ct rfl _ _ Q 32 _ (0,0) _ rfl HE9 Tryz.underlying32 rfl (by kernel_rfl)) rfl ?_
      rw [←HS2.out]
      exact ⟨.slice A5 acc.length c5,rfl,S_set HS8.out HQ8.out (by decide) 0 _,HL8.out.set HGW.out HPP.out HQW.out.1 0 _⟩
     ·have hbn:(mayQ acc != 0)=true:=bne_iff_ne.mpr h0
      have HS2:=Ak ((if_pos (.inr (.inr h0))).symm.trans HR2.out)
      clear h0
      have hq0:=blk_cell HQ8.out 0
      have hf0:=blk_frozen HQ8.out 0
      go_wp2_with fail
      have HE9:=blk_put (cs':=#[.slice none 0 0]) HQ8.out 0 (.slice none 0 0) rfl
      refine bodyPost_ret (results_ct rfl _ _ Q 32 _ (0,0) _ rfl HE9 Tryz.underlying32 rfl (by kernel_rfl)) rfl ?_
      rw [←HS2.out]
      exact ⟨.slice none 0 0,rfl,Kd.S_nil _ _ _ _ _,HL8.out.set HGW.out HPP.out HQW.out.1 0 _⟩
def BadNil (l:List Int) (b:Bool):Prop:=b=true→l=[]
theorem BadNil.num {l:List Int} {b:Bool} (h:BadNil l b):BadNil (aft l) (badOf l b):=fun hb=>by
 unfold badOf at hb
 rw [Bool.or_eq_true] at hb
 rcases hb with hb | hb
 ·rw [h hb];rfl
 ·unfold aft
  cases hd:dec l with
  | none=>rfl
  | some q=>rw [hd] at hb;cases hb
theorem BadNil.text {l:List Int} {b:Bool} (h:BadNil l b):BadNil (aftT l) (badT l b):=fun hb=>by
 unfold badT at hb
 rw [Bool.or_eq_true] at hb
 rcases hb with hb | hb
 ·rw [h hb];rfl
 ·unfold aftT
  cases hd:decT l with
  | none=>rfl
  | some q=>rw [hd] at hb;cases hb
theorem BadNil.one {l:List Int} {b:Bool} (h:BadNil l b) (h1:numOf l=1):badOf l b=false:=by
 unfold numOf at h1
 unfold badOf
 cases hd:dec l with
 | none=>rw [hd] at h1;cases h1
 | some q=>
  cases b with
  | false=>rfl
  | true=>rw [h rfl] at hd;cases hd
theorem head_nil (l:List Int):BadNil (headA l) (headB l):=by
 unfold headA headB
 exact BadNil.text (BadNil.num (BadNil.num (BadNil.num (BadNil.num (fun h=>by cases h)))))
def EvR (lh:List Int) (bh:Bool) (V:S29) (l1:List Int) (b1:Bool):Prop:=
 (numOf lh=1→∃ c l' b',takeE (aft lh) false=(V,c,l',b')∧(c=0→l1=l'∧b1=b'))∧(numOf lh≠1→V=z29∧l1=aft lh∧b1=badOf lh bh)
def QrR (l1:List Int) (b1:Bool) (Q:List S96) (b2:Bool):Prop:=
 (numOf l1=1→∃ f l2,refQ (aft l1) (badOf l1 b1)=(Q,f,l2,b2))∧(numOf l1≠1→Q=[]∧b2=badOf l1 b1)
theorem EvR.may {lh:List Int} {bh:Bool} {V:S29} {l1:List Int} {b1:Bool} (h:EvR lh bh V l1 b1) (hb:isBytes lh):mayV V=0:=by
 by_cases h1:numOf lh=1
 ·obtain ⟨c,l',b',hx,-⟩:=h.1 h1
  rcases takeE_code (aft lh) false with hc | ⟨-,hc⟩
  ·rw [hx] at hc
   simp only at hc
   subst hc
   exact mayV_of (takeE_good (aft_bytes hb) hx).2.2.1
  ·rw [hx] at hc
   simp only at hc
   rw [hc];exact mayV_zero
 ·rw [(h.2 h1).1];exact mayV_zero
theorem QrR.may {l1:List Int} {b1:Bool} {Q:List S96} {b2:Bool} (h:QrR l1 b1 Q b2) (hb:isBytes l1):mayW Q=0:=by
 by_cases h1:numOf l1=1
 ·obtain ⟨f,l2,hx⟩:=h.1 h1
  rcases refQ_code (aft l1) (badOf l1 b1) with hc | ⟨-,hc⟩
  ·rw [hx] at hc
   simp only at hc
   subst hc
   exact mayW_of (refQ_good (aft_bytes hb) hx).2.2.1
  ·rw [hx] at hc
   simp only at hc
   rw [hc];rfl
 ·rw [(h.2 h1).1];rfl
theorem EvR.enc {e:S29} (he:mayV e=0) {r:List Int} {V:S29} {l1:List Int} {b1:Bool} (h:EvR (encV e++r) false V l1 b1):V=e∧l1=r∧b1=false:=by
 unfold encV at h
 by_cases h0:noV e=true
 ·rw [if_pos h0] at h
  obtain ⟨a1,a2,a3⟩:=numOf_enc (x:=0) ⟨by decide,by decide⟩ r false
  obtain ⟨h1,h2,h3⟩:=h.2 (by rw [a1];decide)
  exact ⟨h1.trans ((noV_iff e).1 h0).symm,h2.trans a2,h3.trans a3⟩
 ·rw [if_neg h0,List.append_assoc] at h
  obtain ⟨a1,a2,a3⟩:=numOf_enc (x:=1) ⟨by decide,by decide⟩ (encEv e.f0 e.f1 e.f2 e.f3++r) false
  obtain ⟨c,l',b',hx,hc⟩:=h.1 a1
  rw [a2,takeE_enc (mayV_ok he h0) r] at hx
  simp only [Prod.mk.injEq] at hx
  obtain ⟨rfl,rfl,rfl,rfl⟩:=hx
  obtain ⟨h1,h2⟩:=hc rfl
  exact ⟨rfl,h1,h2⟩
theorem QrR.enc {q:List S96} (hq:mayW q=0) {r:List Int} {Q:List S96} {b2:Bool} (h:QrR (encW q++r) false Q b2):Q=q∧b2=false:=by
 unfold encW at h
 by_cases h0:q.length=0
 ·rw [if_pos h0] at h
  obtain ⟨a1,a2,a3⟩:=numOf_enc (x:=0) ⟨by decide,by decide⟩ r false
  obtain ⟨h1,h2⟩:=h.2 (by rw [a1];decide)
  exact ⟨h1.trans (List.eq_nil_of_length_eq_zero h0).symm,h2.trans a3⟩
 ·rw [if_neg h0,List.append_assoc] at h
  obtain ⟨a1,a2,a3⟩:=numOf_enc (x:=1) ⟨by decide,by decide⟩ (encQ q++r) false
  obtain ⟨f,l2,hx⟩:=h.1 a1
  rw [a2,a3,refQ_enc (mayW_ok hq h0) r] at hx
  simp only [Prod.mk.injEq] at hx
  exact ⟨hx.1.symm,hx.2.2.2.symm⟩
theorem ref_plain {l:List Int} (hb:isBytes l) (hl:l.length≤1000000000) {V:S29} {l1:List Int} {b1:Bool} {Q:List S96} {b2:Bool} (hV:EvR (headA l) (headB l) V l1 b1) (hQ:QrR l1 b1 Q b2) (h1:isBytes l1) :
  OkS (stepOf l V Q)∧(stepOf l V Q).f4.size≤1000000000∧takeS l=if b2=true∨encS (stepOf l V Q)≠l then (z34,240) else (stepOf l V Q,0):=by
 have hm1:=hV.may (headA_bytes hb)
 have hm2:=hQ.may h1
 obtain ⟨g1,g2,g3,g4,g5⟩:=takeT_ok hb (by omega)
 have hok:OkS (stepOf l V Q):=⟨g1,g2,g3,g4,Nat.le_trans g5 (by omega),hm1,hm2⟩
 refine ⟨hok,Nat.le_trans g5 hl,?_⟩
 rcases takeS_code l with hc | ⟨u,hu⟩
 ·rw [hc]
  by_cases hcond:b2=true∨encS (stepOf l V Q)≠l
  ·rw [if_pos hcond]
  ·rw [not_or,Classical.not_not] at hcond
   have h2:=takeS_enc hok
   rw [hcond.2,hc] at h2
   simp at h2
 ·rw [hu]
  obtain ⟨hou,rfl⟩:=takeS_good hb (by omega) hu
  obtain ⟨t0,t1,t2,t3,t4,t5,⟨t6⟩⟩:=u
  obtain ⟨k0,k1,k2,k3,k4,hv,hq⟩:=hou
  simp only at k0 k1 k2 k3 k4 hv hq
  have e:encS ⟨t0,t1,t2,t3,t4,t5,⟨t6⟩⟩=enc t0++(enc t1++(enc t2++(enc t3++(encT (bytesOf t4)++(encV t5++(encW t6++[])))))):=by
   unfold encS encK
   simp only [List.append_assoc,List.append_nil]
  obtain ⟨a1,a2,a3⟩:=numOf_enc k0 (enc t1++(enc t2++(enc t3++(encT (bytesOf t4)++(encV t5++(encW t6++[])))))) false
  obtain ⟨b1',b2',b3'⟩:=numOf_enc k1 (enc t2++(enc t3++(encT (bytesOf t4)++(encV t5++(encW t6++[]))))) false
  obtain ⟨c1,c2,c3⟩:=numOf_enc k2 (enc t3++(encT (bytesOf t4)++(encV t5++(encW t6++[])))) false
  obtain ⟨d1,d2,d3⟩:=numOf_enc k3 (encT (bytesOf t4)++(encV t5++(encW t6++[]))) false
  obtain ⟨f1,f2,f3⟩:=textOf_enc k4 (encV t5++(encW t6++[])) false
  have hA:headA (encS ⟨t0,t1,t2,t3,t4,t5,⟨t6⟩⟩)=encV t5++(encW t6++[]):=by
   rw [e];unfold headA;rw [a2,b2',c2,d2,f2]
  have hB:headB (encS ⟨t0,t1,t2,t3,t4,t5,⟨t6⟩⟩)=false:=by
   rw [e];unfold headB;rw [a2,a3,b2',b3',c2,c3,d2,d3,f3]
  rw [hA,hB] at hV
  obtain ⟨rfl,rfl,rfl⟩:=hV.enc hv
  obtain ⟨rfl,rfl⟩:=hQ.enc hq
  have hs:stepOf (encS ⟨t0,t1,t2,t3,t4,V,⟨Q⟩⟩) V Q=⟨t0,t1,t2,t3,t4,V,⟨Q⟩⟩:=by
   rw [e];unfold stepOf;rw [a1,a2,b1',b2',c1,c2,d1,d2,f1]
  rw [hs,if_neg (by rintro (h | h);(· cases h);· exact h rfl)]
def Rw (w w':World) (P:Nat→Prop) (g:Nat) (q:List Int × Bool):Prop:=∃ n,Lw w w' P g n q
section
variable {w w1 w2 : World} {P : Nat → Prop} {g : Nat} {q q1 : List Int × Bool}
theorem Rw.mk {n:Nat} (h:Lw w w1 P g n q):Rw w w1 P g q:=⟨n,h⟩
theorem Rw.of (h1:Rd 60 P w1 g q.1 q.2) (h2:isBytes q.1) (h3:Below g w w1) (h4:KeepBut w w1 g none):Rw w w1 P g q:=⟨q.1.length,h1,h2,Nat.le_refl _,h3,h4⟩
theorem Rw.rd (h:Rw w w1 P g q):Rd 60 P w1 g q.1 q.2:=h.elim fun _ h=>h.rd
theorem Rw.by_ (h:Rw w w1 P g q):isBytes q.1:=h.elim fun _ h=>h.by_
theorem Rw.below (h:Rw w w1 P g q):Below g w w1:=h.elim fun _ h=>h.below
theorem Rw.keep (h:Rw w w1 P g q):KeepBut w w1 g none:=h.elim fun _ h=>h.keep
theorem Rw.trans (h:Rw w w1 P g q) (k:Rw w1 w2 P g q1):Rw w w2 P g q1:=Rw.of k.rd k.by_ (h.below.trans k.below) (h.keep.trans k.keep (.inl rfl))
theorem Rw.up (h:Rw w w1 P g q) (hb:Below w1.heap.size w1 w2):Rw w w2 P g q:=h.elim fun n h=>⟨n,h.up hb⟩
theorem Rw.set (h:Rw w w1 P g q) (hg:g < w.heap.size) (hP:∀ k,P k→k < w.heap.size) {Q:Nat} (hQ:w.heap.size≤Q) (i:Nat) (u:Value):Rw w (w1.setCell ⟨Q,i,none⟩ u) P g q:=h.elim fun n h=>⟨n,h.set hg hP hQ i u⟩
end
theorem numRw (P:Nat→Prop) (w:World) (g:Nat) (l:List Int) (b:Bool) (hI:Rd 60 P w g l b) (hb:isBytes l) (x:Int) (hx:numOf l=x) :
  Calls Tryz.prog 23 #[.pointer (some ⟨g,0,none⟩)] w fun e w'=>e = .returned (.int .i64 x)∧Rw w w' P g (aft l,badOf l b):=
 (refNum_calls' x P w g l b hI hb hx).mono (by
  rintro e w' ⟨rfl,h1,h2,h3⟩
  exact ⟨rfl,Rw.of h1 (aft_bytes hb) h2 h3⟩)
theorem textRw (P:Nat→Prop) (w:World) (g:Nat) (l:List Int) (b:Bool) (hI:Rd 60 P w g l b) (hb:isBytes l) :
  Calls Tryz.prog 24 #[.pointer (some ⟨g,0,none⟩)] w fun e w'=>e = .returned (.string (textOf l))∧Rw w w' P g (aftT l,badT l b):=
 (refText_calls P w g l b hI hb).mono (by
  rintro e w' ⟨rfl,h1,h2,h3⟩
  exact ⟨rfl,Rw.of h1 (aftT_bytes hb) h2 h3⟩)
theorem eventRw (P:Nat→Prop) (w:World) (g:Nat) (l:List Int) (b:Bool) (hbad:b=false) (hI:Rd 60 P w g l b) (hb:isBytes l) (hP:∀ k,P k→k < w.heap.size) (x:S29) (c:Int) (l':List Int) (b':Bool) (hx:takeE l false=(x,c,l',b')) :
  Calls Tryz.prog 25 #[.pointer (some ⟨g,0,none⟩)] w fun e w'=>∃ v2 v3 l2 b2,e = .returned (.tuple #[.agg #[.string x.f0,.string x.f1,v2,v3],.int .i64 c])∧Kd.string.R 9 w' w.heap.size (fun _=>True) v2 x.f2∧k90.R 90 w' w.heap.size (fun _=>True) v3 x.f3∧Rw w w' P g (l2,b2)∧(c=0→l2=l'∧b2=b'):=by
 subst hbad
 refine (refTake_walk P w g l hI hb hP x c l' b' hx).mono ?_
 rintro e w' ⟨v2,v3,l2,b2,rfl,h2,h3,h4,h5,h6,h7,h8⟩
 exact ⟨v2,v3,l2,b2,rfl,h2,h3,Rw.of h4 h5 h7 h8,h6⟩
theorem queryRw (P:Nat→Prop) (w:World) (g:Nat) (l:List Int) (b:Bool) (hI:Rd 60 P w g l b) (hb:isBytes l) (hP:∀ k,P k→k < w.heap.size) (r:List S96 × Int × List Int × Bool) (hr:refQ l b=r) :
  Calls Tryz.prog 26 #[.pointer (some ⟨g,0,none⟩)] w fun e w'=>∃ v,e = .returned (.tuple #[.agg #[v],.int .i64 r.2.1])∧Kd.S k96 96 w' w.heap.size (fun _=>True) v r.1∧Rw w w' P g r.2.2:=
 (refQ_calls P w g l b hI hb hP r hr).mono (by
  rintro e w' ⟨v,rfl,h1,h2⟩
  exact ⟨v,rfl,h1,Rw.mk h2⟩)
structure Tu (w w1 W:World) (P:Nat→Prop) (g Z X:Nat) (q:List Int × Bool) (cs:Array Value):Prop where
 hL:Rw w1 W P g q
 hZ:W.heap[Z]? = some (.cells #[.int .i64 0,.int .i64 0,.int .i64 0,.int .i64 0,.string ⟨#[]⟩,.string ⟨#[]⟩,.string ⟨#[]⟩,.slice none 0 0,.slice none 0 0,.slice none 0 0] 34 (0,0))
 hX:W.heap[X]? = some (.cells cs 34 (0,0))
 hB:Below w.heap.size w W
 z1:w.heap.size≤Z
 z2:Z < w1.heap.size
 z3:Z≠g
 x1:w1.heap.size≤X
 g1:w.heap.size≤g
 g2:g < w1.heap.size
 p1:∀ k,P k→k < w1.heap.size
 s1:w.heap.size≤w1.heap.size
section
variable {w w1 W W' : World} {P : Nat → Prop} {g Z X : Nat} {q : List Int × Bool} {cs : Array Value}
theorem Tu.hP (h:Tu w w1 W P g Z X q cs):∀ k,P k→k < W.heap.size:=fun k hk=>Nat.lt_of_lt_of_le (h.p1 k hk) h.hL.keep.1
theorem Tu.lo (h:Tu w w1 W P g Z X q cs):w.heap.size≤W.heap.size:=h.hB.size
theorem Tu.read (h:Tu w w1 W P g Z X q cs) {q':List Int × Bool} (hl:Rw W W' P g q'):Tu w w1 W' P g Z X q' cs:=
 ⟨h.hL.trans hl,hl.keep.blk h.hZ h.z3 (by simp),hl.keep.blk h.hX (by have:=h.x1;have:=h.g2;omega) (by simp),below_weaken h.hB h.g1 hl.below,h.z1,h.z2,h.z3,h.x1,h.g1,h.g2,h.p1,h.s1⟩
theorem Tu.up (h:Tu w w1 W P g Z X q cs) (hb:Below W.heap.size W W'):Tu w w1 W' P g Z X q cs:=
 ⟨h.hL.up hb,blk_below h.hZ hb,blk_below h.hX hb,below_step h.hB hb,h.z1,h.z2,h.z3,h.x1,h.g1,h.g2,h.p1,h.s1⟩
theorem Tu.set (h:Tu w w1 W P g Z X q cs) (i:Nat) (u:Value) {cs':Array Value} (e:cs.setIfInBounds i u=cs'):Tu w w1 (W.setCell ⟨X,i,none⟩ u) P g Z X q cs':=
 ⟨h.hL.set h.g2 h.p1 h.x1 i u,blk_far h.hZ (p:=⟨X,i,none⟩) (by have:=h.x1;have:=h.z2;show Z≠X;omega) u,blk_put h.hX i u e,h.hB.setCell (p:=⟨X,i,none⟩) (by have:=h.x1;have:=h.s1;show w.heap.size≤X;omega) u,h.z1,h.z2,h.z3,h.x1,h.g1,h.g2,h.p1,h.s1⟩
theorem Tu.blk (h:Tu w w1 W P g Z X q cs):∃ c,W.heap[g]? = some (.cells c 60 (0,0)):=by
 obtain ⟨A,c,hb,_⟩:=h.hL.rd
 exact ⟨_,hb⟩
theorem Tu.turnR {α:Type} {d:Kd α} {e:Nat} {v:Value} {xs:List α} {q':List Int × Bool} (h:Tu w w1 W P g Z X q cs) (hr:Kd.R d e W w.heap.size (fun _=>True) v xs) (hl:Rw W W' P g q') (ht:∀ q,q ∈ e :: d.E→q≠60):Kd.R d e W' w.heap.size (fun _=>True) v xs:=by
 obtain ⟨c,hb⟩:=h.blk
 exact R_turnT hr hb ht hl.keep
end
end Go.Proofs.YtocpcnmnhckcpaaGreat.Prt
namespace Go.Proofs.YtocpcnmnhckcpaaGreat.Prt
open RowKit YtocpcnmnhckcpaaGreatW.PrintWords YtocpcnmnhckcpaaGreatW.PrintLast YtocpcnmnhckcpaaGreatW.PrintMore YtocpcnmnhckcpaaGreat.Num YtocpcnmnhckcpaaGreat.Nam
set_option maxRecDepth 100000 in
set_option maxHeartbeats 4000000 in
theorem refTake_calls22 (A0:Option Addr) (c0:Nat) (l0:List Int) (w:World) (hr0:Kd.C (Kd.int .u8) w A0 l0.length l0) (hc0:l0.length≤c0) (hby:isBytes l0) (hlen:l0.length≤1000000000) (r:S34) (re:Int) (h:takeS l0=(r,re)) :
  Calls Tryz.prog 8 #[.slice A0 l0.length c0] w fun e w'=>∃ v7 v8 v9,e = .returned (.tuple #[.agg #[.int .i64 r.f0,.int .i64 r.f1,.int .i64 r.f2,.int .i64 r.f3,.string r.f4,.string r.f5.f0,.string r.f5.f1,v7,v8,v9],.int .i64 re])∧Kd.string.R 9 w' w.heap.size (fun _=>True) v7 r.f5.f2∧k90.R 90 w' w.heap.size (fun _=>True) v8 r.f5.f3∧Kd.S k96 96 w' w.heap.size (fun _=>True) v9 r.f6.f0∧Below w.heap.size w w':=by
 have HST:=Ak h
 have HR0:=Ak hr0
 have HC0:=Ak hc0
 have HBY:=Ak hby
 have HLN:=Ak hlen
 clear hr0 hc0 hby h
 have hu34:=Tryz.underlying34
 have hu29:=Tryz.underlying29
 have hu32:=Tryz.underlying32
 have hu60:=Tryz.underlying60
 go_enter Tryz.func8,Tryz.ntmps8
 go_upto_region 1 with (((with_reducible refine gate_dst (N:=2) rfl ?_);(try (refine gate_guard (by rfl) ?_;dsimp only));refine box_event ?hg (N:=2) ?hd (cs:=#[.int .i64 0,.int .i64 0,.int .i64 0,.int .i64 0,.string ⟨#[]⟩,.string ⟨#[]⟩,.string ⟨#[]⟩,.slice none 0 0,.slice none 0 0,.slice none 0 0]) (t:=34) ?hr ?_;(case hd=>rfl);(case hg=>rfl);(case hr=>(go_simp;done));intro Z hg_ wz hbox_ hb_;have HZ:=Ak hbox_;have HZN:=Ak hg_;have HZB:=Ak hb_;clear hbox_ hg_ hb_))
 have HLB:=Ak (Kd.C_below HR0.out HZB.out)
 have HL:=Ak (Below.refl wz.heap.size wz)
 go_upto_region 2 with (first | ((with_reducible refine gate_dst (N:=8) rfl ?_);refine Kd.R_lit (Kd.int .u8) (w0:=wz) wz.heap.size 5 ?hg (N:=8) ?hd (xs:=[]) (inner:=[]) (ok:=fun _=>True) (okp:=fun _=>True) ?hr ?hp (fun _ hk=>hk) trivial ?hB ?hS (by simp) ?_;(case hd=>rfl);(case hg=>rfl);(case hr=>(go_simp;done));(case hp=>exact (Reps.none _ _));(case hB=>exact HL.out);(case hS=>exact (below_size HL.out));intro v7 w7 ho hb hg hat;have n0_:=Ak (hb);have n1_:=Ak (ho);clear HL;have HL:=n0_;have HO7:=n1_;clear n0_ n1_;clear ho hb hg hat) | ((with_reducible refine gate_builtin (b:=.append) (xs:=#[.tmp 8,.tmp 9]) rfl ?_);at_builtin;refine Kd.R_append_rows (Kd.int .u8) (w0:=wz) wz.heap.size rfl (.tmp 8) (.tmp 9) 23 5 (.int .u8 0) 1 rfl Tryz.underlying23 info_u8 rfl (by decide) (by omega) v7 [] l0 _ _ _ (fun _=>True) (fun _=>False) rfl rfl ?aO ?aR (fun _ _ h=>h) (fun _ h=>h.elim) ?aF ?aB ?aS ?aL ?_;(case aR=>exact (by repeat (exact (Kd.C_below HLB.out HL.out))));(case aB=>exact HL.out);(case aF=>exact (fun _ _=>trivial));(case aO=>exact HO7.out);(case aS=>exact (below_size HL.out));(case aL=>simp only [List.length_nil];omega);intro v8 w8 ho hb hg hat;have n0_:=Ak (hb);have n1_:=Ak (ho);clear HL;clear HO7;have HL:=n0_;have HO8:=n1_;clear n0_ n1_;clear ho hb hg hat;obtain ⟨A4,c4,e4,hc4,hC4⟩:=Kd.R_reads HO8.out;subst e4;have HC4:=Ak (by rw [List.nil_append] at hC4;exact hC4:Kd.C (Kd.int .u8) w8 A4 l0.length l0);have HK4:=Ak (by rw [List.nil_append] at hc4;exact hc4:l0.length≤c4);clear hC4 hc4;try rw [List.nil_append]) | ((with_reducible refine gate_dst (N:=12) rfl ?_);(try (refine gate_guard (by rfl) ?_;dsimp only));refine box_event ?hg (N:=12) ?hd (cs:=#[.slice A4 l0.length c4,.bool false]) (t:=60) ?hr ?_;(case hd=>rfl);(case hg=>rfl);(case hr=>(go_simp;done));intro g hg_ w1 hbox_ hb_;have HBX:=Ak hbox_;have HGN:=Ak hg_;have HGB:=Ak hb_;clear hbox_ hg_ hb_))
 have HL9:=Ak (below_step (HL.out:Below wz.heap.size wz w8) HGB.out)
 have HSZ8:=Ak ((HL.out:Below wz.heap.size wz w8).size)
 have HI1:Aside0 (Rd 60 (fun k=>k < g) w1 g l0 false):=⟨⟨A4,c4,HBX.out,HK4.out,Kd.C_below HC4.out HGB.out,fun ad e hn=>by
  have h2:ad.block < w8.heap.size:=Kd.C_lt (e ▸ HC4.out) hn (by decide)
  have h3:g=w8.heap.size:=HGN.out
  show ad.block < g
  omega,Nat.lt_irrefl g⟩⟩
 have HZ1:=Ak (blk_below HZ.out HL9.out)
 have HB1:=Ak (below_then HZB.out HZB.out.size HL9.out)
 have HGF:=Ak (show w.heap.size≤Z∧Z < wz.heap.size∧wz.heap.size≤g∧g < w1.heap.size∧w.heap.size≤wz.heap.size by
  have h1:=HZN.out
  have h2:=blk_lt HZ.out
  have h3:=HGN.out
  have h4:=blk_lt HBX.out
  have h5:=HZB.out.size
  have h6:=HSZ8.out
  omega)
 clear HLB HL HO8 HC4 HK4 HBX HGN HGB HL9 HSZ8 HZ HZN HZB
 obtain ⟨n0,h0⟩:∃ x,numOf (stl l0 0)=x:=⟨_,rfl⟩
 have HN:=Ak (numRw _ w1 g l0 false HI1.out HBY.out n0 h0)
 have HN0:=Ak h0
 clear h0
 go_wp2_with fail
 refine HN.out.mono ?_
 rintro e wa ⟨rfl,hl⟩
 have HLA:=Ak hl
 have HZA:=Ak (hl.keep.blk HZ1.out (by have:=HGF.out;omega) (by simp))
 have HBA:=Ak (below_weaken HB1.out (by have:=HGF.out;omega) hl.below)
 clear hl HN HI1 HZ1 HB1
 go_upto_region 3 with (((with_reducible refine gate_dst (N:=5) rfl ?_);(try (refine gate_guard (by rfl) ?_;dsimp only));refine box_event ?hg (N:=5) ?hd (cs:=#[.int .i64 0,.int .i64 0,.int .i64 0,.int .i64 0,.string ⟨#[]⟩,.string ⟨#[]⟩,.string ⟨#[]⟩,.slice none 0 0,.slice none 0 0,.slice none 0 0]) (t:=34) ?hr ?_;(case hd=>rfl);(case hg=>rfl);(case hr=>(go_simp;done));intro X hg_ wb hbox_ hb_;have HX:=Ak hbox_;have HXN:=Ak hg_;have HXB:=Ak hb_;clear hbox_ hg_ hb_;obtain ⟨hc0,hc1,hc2,hc3,hc4,hc5,hc6,hc7,hc8,hc9⟩:=cl10 HX.out;obtain ⟨hf0,hf1,hf2,hf3,hf4,hf5,hf6,hf7,hf8,hf9⟩:=fr10 HX.out))
 have HXG:=Ak (show w1.heap.size≤X∧w.heap.size≤X by
  have h1:=HXN.out
  have h2:=HLA.out.keep.1
  have h3:=HBA.out.size
  omega)
 have HT1:Aside0 (Tu w w1 wb (fun k=>k < g) g Z X (stl l0 1,stb l0 1) #[.int .i64 0,.int .i64 0,.int .i64 0,.int .i64 0,.string ⟨#[]⟩,.string ⟨#[]⟩,.string ⟨#[]⟩,.slice none 0 0,.slice none 0 0,.slice none 0 0]):=⟨by
  have h:=HGF.out
  exact ⟨HLA.out.up HXB.out,blk_below HZA.out HXB.out,HX.out,below_step HBA.out HXB.out,h.1,by omega,by omega,HXG.out.1,by omega,h.2.2.2.1,fun k hk=>by omega,by omega⟩⟩
 clear HLA HZA HBA HX HXN HXB
 have n1_:=Ak ((((((((((HT1.out.set 0 (.int .i64 n0) (cs':=#[.int .i64 n0,.int .i64 0,.int .i64 0,.int .i64 0,.string ⟨#[]⟩,.string ⟨#[]⟩,.string ⟨#[]⟩,.slice none 0 0,.slice none 0 0,.slice none 0 0]) rfl).set 1 (.int .i64 0) (cs':=#[.int .i64 n0,.int .i64 0,.int .i64 0,.int .i64 0,.string ⟨#[]⟩,.string ⟨#[]⟩,.string ⟨#[]⟩,.slice none 0 0,.slice none 0 0,.slice none 0 0]) rfl).set 2 (.int .i64 0) (cs':=#[.int .i64 n0,.int .i64 0,.int .i64 0,.int .i64 0,.string ⟨#[]⟩,.string ⟨#[]⟩,.string ⟨#[]⟩,.slice none 0 0,.slice none 0 0,.slice none 0 0]) rfl).set 3 (.int .i64 0) (cs':=#[.int .i64 n0,.int .i64 0,.int .i64 0,.int .i64 0,.string ⟨#[]⟩,.string ⟨#[]⟩,.string ⟨#[]⟩,.slice none 0 0,.slice none 0 0,.slice none 0 0]) rfl).set 4 (.string ⟨#[]⟩) (cs':=#[.int .i64 n0,.int .i64 0,.int .i64 0,.int .i64 0,.string ⟨#[]⟩,.string ⟨#[]⟩,.string ⟨#[]⟩,.slice none 0 0,.slice none 0 0,.slice none 0 0]) rfl).set 5 (.string ⟨#[]⟩) (cs':=#[.int .i64 n0,.int .i64 0,.int .i64 0,.int .i64 0,.string ⟨#[]⟩,.string ⟨#[]⟩,.string ⟨#[]⟩,.slice none 0 0,.slice none 0 0,.slice none 0 0]) rfl).set 6 (.string ⟨#[]⟩) (cs':=#[.int .i64 n0,.int .i64 0,.int .i64 0,.int .i64 0,.string ⟨#[]⟩,.string ⟨#[]⟩,.string ⟨#[]⟩,.slice none 0 0,.slice none 0 0,.slice none 0 0]) rfl).set 7 (.slice none 0 0) (cs':=#[.int .i64 n0,.int .i64 0,.int .i64 0,.int .i64 0,.string ⟨#[]⟩,.string ⟨#[]⟩,.string ⟨#[]⟩,.slice none 0 0,.slice none 0 0,.slice none 0 0]) rfl).set 8 (.slice none 0 0) (cs':=#[.int .i64 n0,.int .i64 0,.int .i64 0,.int .i64 0,.string ⟨#[]⟩,.string ⟨#[]⟩,.string ⟨#[]⟩,.slice none 0 0,.slice none 0 0,.slice none 0 0]) rfl).set 9 (.slice none 0 0) (cs':=#[.int .i64 n0,.int .i64 0,.int .i64 0,.int .i64 0,.string ⟨#[]⟩,.string ⟨#[]⟩,.string ⟨#[]⟩,.slice none 0 0,.slice none 0 0,.slice none 0 0]) rfl)
 clear HT1 hc0 hf0 hc1 hf1 hc2 hf2 hc3 hf3 hc4 hf4 hc5 hf5 hc6 hf6 hc7 hf7 hc8 hf8 hc9 hf9
 generalize ((((((((((wb.setCell ⟨X,0,none⟩ (.int .i64 n0)).setCell ⟨X,1,none⟩ (.int .i64 0)).setCell ⟨X,2,none⟩ (.int .i64 0)).setCell ⟨X,3,none⟩ (.int .i64 0)).setCell ⟨X,4,none⟩ (.string ⟨#[]⟩)).setCell ⟨X,5,none⟩ (.string ⟨#[]⟩)).setCell ⟨X,6,none⟩ (.string ⟨#[]⟩)).setCell ⟨X,7,none⟩ (.slice none 0 0)).setCell ⟨X,8,none⟩ (.slice none 0 0)).setCell ⟨X,9,none⟩ (.slice none 0 0))=wc0 at n1_ ⊢
 have HT:=n1_
 clear n1_
 obtain ⟨n1,h0⟩:∃ x,numOf (stl l0 1)=x:=⟨_,rfl⟩
 have HN:=Ak (numRw _ wc0 g (stl l0 1) (stb l0 1) HT.out.hL.rd HT.out.hL.by_ n1 h0)
 have HN1:=Ak h0
 clear h0
 go_wp2_with fail
 refine HN.out.mono ?_
 rintro e wd1 ⟨rfl,hl⟩
 have HT4:=Ak (HT.out.read hl)
 have hf:=blk_frozen HT4.out.hX 1
 have hc:=blk_cell HT4.out.hX 1
 clear HT HN hl
 go_upto_region 4 with (fail)
 have n1_:Aside0 (Tu w w1 (wd1.setCell ⟨X,1,none⟩ (.int .i64 n1)) (fun k=>k < g) g Z X (stl l0 2,stb l0 2) #[.int .i64 n0,.int .i64 n1,.int .i64 0,.int .i64 0,.string ⟨#[]⟩,.string ⟨#[]⟩,.string ⟨#[]⟩,.slice none 0 0,.slice none 0 0,.slice none 0 0]):=⟨HT4.out.set 1 (.int .i64 n1) rfl⟩
 clear HT4 hf hc
 generalize wd1.setCell ⟨X,1,none⟩ (.int .i64 n1)=wc1 at n1_ ⊢
 have HT:=n1_
 clear n1_
 obtain ⟨n2,h0⟩:∃ x,numOf (stl l0 2)=x:=⟨_,rfl⟩
 have HN:=Ak (numRw _ wc1 g (stl l0 2) (stb l0 2) HT.out.hL.rd HT.out.hL.by_ n2 h0)
 have HN2:=Ak h0
 clear h0
 go_wp2_with fail
 refine HN.out.mono ?_
 rintro e wd2 ⟨rfl,hl⟩
 have HT4:=Ak (HT.out.read hl)
 have hf:=blk_frozen HT4.out.hX 2
 have hc:=blk_cell HT4.out.hX 2
 clear HT HN hl
 go_upto_region 5 with (fail)
 have n1_:Aside0 (Tu w w1 (wd2.setCell ⟨X,2,none⟩ (.int .i64 n2)) (fun k=>k < g) g Z X (stl l0 3,stb l0 3) #[.int .i64 n0,.int .i64 n1,.int .i64 n2,.int .i64 0,.string ⟨#[]⟩,.string ⟨#[]⟩,.string ⟨#[]⟩,.slice none 0 0,.slice none 0 0,.slice none 0 0]):=⟨HT4.out.set 2 (.int .i64 n2) rfl⟩
 clear HT4 hf hc
 generalize wd2.setCell ⟨X,2,none⟩ (.int .i64 n2)=wc2 at n1_ ⊢
 have HT:=n1_
 clear n1_
 obtain ⟨n3,h0⟩:∃ x,numOf (stl l0 3)=x:=⟨_,rfl⟩
 have HN:=Ak (numRw _ wc2 g (stl l0 3) (stb l0 3) HT.out.hL.rd HT.out.hL.by_ n3 h0)
 have HN3:=Ak h0
 clear h0
 go_wp2_with fail
 refine HN.out.mono ?_
 rintro e wd3 ⟨rfl,hl⟩
 have HT4:=Ak (HT.out.read hl)
 have hf:=blk_frozen HT4.out.hX 3
 have hc:=blk_cell HT4.out.hX 3
 clear HT HN hl
 go_upto_region 6 with (fail)
 have n1_:Aside0 (Tu w w1 (wd3.setCell ⟨X,3,none⟩ (.int .i64 n3)) (fun k=>k < g) g Z X (stl l0 4,stb l0 4) #[.int .i64 n0,.int .i64 n1,.int .i64 n2,.int .i64 n3,.string ⟨#[]⟩,.string ⟨#[]⟩,.string ⟨#[]⟩,.slice none 0 0,.slice none 0 0,.slice none 0 0]):=⟨HT4.out.set 3 (.int .i64 n3) rfl⟩
 clear HT4 hf hc
 generalize wd3.setCell ⟨X,3,none⟩ (.int .i64 n3)=wc3 at n1_ ⊢
 have HT:=n1_
 clear n1_
 have HTX:=Ak (textRw _ wc3 g (stl l0 4) (stb l0 4) HT.out.hL.rd HT.out.hL.by_)
 go_wp2_with fail
 refine HTX.out.mono ?_
 rintro e w4 ⟨rfl,hl⟩
 have HT4:=Ak (HT.out.read hl)
 have hf:=blk_frozen HT4.out.hX 4
 have hc:=blk_cell HT4.out.hX 4
 obtain ⟨st,hst⟩:∃ st,st=textOf (stl l0 4):=⟨_,rfl⟩
 rw [←hst]
 have HSS:=Ak hst
 clear HT hl hst HTX
 go_upto_region 7 with (fail)
 obtain ⟨lh,hlh⟩:∃ lh,lh=headA l0:=⟨_,rfl⟩
 obtain ⟨bh,hbh⟩:∃ bh,bh=headB l0:=⟨_,rfl⟩
 have n2_:Aside0 (Tu w w1 (w4.setCell ⟨X,4,none⟩ (.string st)) (fun k=>k < g) g Z X (lh,bh) #[.int .i64 n0,.int .i64 n1,.int .i64 n2,.int .i64 n3,.string st,.string ⟨#[]⟩,.string ⟨#[]⟩,.slice none 0 0,.slice none 0 0,.slice none 0 0]):=⟨by rw [hlh,hbh];exact HT4.out.set 4 (.string st) rfl⟩
 clear HT4 hf hc
 generalize w4.setCell ⟨X,4,none⟩ (.string st)=w5 at n2_ ⊢
 have HBN:=Ak (show BadNil lh bh by rw [hlh,hbh];exact head_nil l0)
 have HLH:=Ak (And.intro hlh hbh)
 clear hlh hbh
 have HT5:=n2_
 clear n2_
 obtain ⟨x,hx⟩:∃ x,numOf lh=x:=⟨_,rfl⟩
 have HN:=Ak (numRw _ w5 g lh bh HT5.out.hL.rd HT5.out.hL.by_ x hx)
 have HBL:=Ak HT5.out.hL.by_
 go_wp2_with fail
 refine HN.out.mono ?_
 rintro e w6 ⟨rfl,hl⟩
 have HT6:=Ak (HT5.out.read hl)
 have HXX:=Ak hx
 clear HT5 hl HN hx
 go_upto_if 30 with (fail)
 go_cut [] (fun wc=>∃ (V:S29) (v7 v8:Value) (l1:List Int) (b1:Bool),Aside0 (EvR lh bh V l1 b1)∧Aside0 (Tu w w1 wc (fun k=>k < g) g Z X (l1,b1) #[.int .i64 n0,.int .i64 n1,.int .i64 n2,.int .i64 n3,.string st,.string V.f0,.string V.f1,v7,v8,.slice none 0 0])∧Aside0 (Kd.string.R 9 wc w.heap.size (fun _=>True) v7 V.f2)∧Aside0 (k90.R 90 wc w.heap.size (fun _=>True) v8 V.f3))
 case first=>
  by_cases hx1:x=1
  ·subst hx1
   obtain ⟨V,ec,l',b',hq⟩:∃ V ec l' b',takeE (aft lh) false=(V,ec,l',b'):=⟨_,_,_,_,rfl⟩
   have HQ:=Ak hq
   clear hq
   go_wp2_with fail
   refine (eventRw _ w6 g (aft lh) (badOf lh bh) (HBN.out.one HXX.out) HT6.out.hL.rd HT6.out.hL.by_ HT6.out.hP V ec l' b' HQ.out).mono ?_
   rintro e_ w7 ⟨v7,v8,l1,b1,rfl,h7,h8,hl,hlb⟩
   have HTV:Aside0 (EvR lh bh V l1 b1):=⟨fun _=>⟨ec,l',b',HQ.out,hlb⟩,fun h=>absurd HXX.out h⟩
   have HT7:=Ak (HT6.out.read hl)
   have H7:=Ak (Kd.R_lower h7 HT6.out.lo)
   have H8:=Ak (Kd.R_lower h8 HT6.out.lo)
   obtain ⟨A7,c7,e7⟩:=Kd.R_slice h7
   obtain ⟨A8,c8,e8⟩:=Kd.R_slice h8
   subst e7
   subst e8
   have hf5:=blk_frozen HT7.out.hX 5
   have hf6:=blk_frozen HT7.out.hX 6
   have hf7:=blk_frozen HT7.out.hX 7
   have hf8:=blk_frozen HT7.out.hX 8
   have hc5:=blk_cell HT7.out.hX 5
   have hc6:=blk_cell HT7.out.hX 6
   have hc7:=blk_cell HT7.out.hX 7
   have hc8:=blk_cell HT7.out.hX 8
   clear HT6 h7 h8 hl HQ hlb
   go_wp2
   go_meet
   case rel=>
    refine ⟨V,.slice A7 V.f2.length c7,.slice A8 V.f3.length c8,l1,b1,HTV,⟨((((HT7.out.set 5 (.string V.f0) rfl).set 6 (.string V.f1) rfl).set 7 (.slice A7 V.f2.length c7) rfl).set 8 (.slice A8 V.f3.length c8) rfl)⟩,⟨?_⟩,⟨?_⟩⟩
    ·exact (R_setA (R_setA (R_setA (R_setA H7.out ⟨_,HT7.out.hX⟩ (by decide) 5 (.string V.f0)).1 (R_setA H7.out ⟨_,HT7.out.hX⟩ (by decide) 5 (.string V.f0)).2 (by decide) 6 (.string V.f1)).1 (R_setA (R_setA H7.out ⟨_,HT7.out.hX⟩ (by decide) 5 (.string V.f0)).1 (R_setA H7.out ⟨_,HT7.out.hX⟩ (by decide) 5 (.string V.f0)).2 (by decide) 6 (.string V.f1)).2 (by decide) 7 (.slice A7 V.f2.length c7)).1 (R_setA (R_setA (R_setA H7.out ⟨_,HT7.out.hX⟩ (by decide) 5 (.string V.f0)).1 (R_setA H7.out ⟨_,HT7.out.hX⟩ (by decide) 5 (.string V.f0)).2 (by decide) 6 (.string V.f1)).1 (R_setA (R_setA H7.out ⟨_,HT7.out.hX⟩ (by decide) 5 (.string V.f0)).1 (R_setA H7.out ⟨_,HT7.out.hX⟩ (by decide) 5 (.string V.f0)).2 (by decide) 6 (.string V.f1)).2 (by decide) 7 (.slice A7 V.f2.length c7)).2 (by decide) 8 (.slice A8 V.f3.length c8)).1
    ·exact (R_setA (R_setA (R_setA (R_setA H8.out ⟨_,HT7.out.hX⟩ (by decide) 5 (.string V.f0)).1 (R_setA H8.out ⟨_,HT7.out.hX⟩ (by decide) 5 (.string V.f0)).2 (by decide) 6 (.string V.f1)).1 (R_setA (R_setA H8.out ⟨_,HT7.out.hX⟩ (by decide) 5 (.string V.f0)).1 (R_setA H8.out ⟨_,HT7.out.hX⟩ (by decide) 5 (.string V.f0)).2 (by decide) 6 (.string V.f1)).2 (by decide) 7 (.slice A7 V.f2.length c7)).1 (R_setA (R_setA (R_setA H8.out ⟨_,HT7.out.hX⟩ (by decide) 5 (.string V.f0)).1 (R_setA H8.out ⟨_,HT7.out.hX⟩ (by decide) 5 (.string V.f0)).2 (by decide) 6 (.string V.f1)).1 (R_setA (R_setA H8.out ⟨_,HT7.out.hX⟩ (by decide) 5 (.string V.f0)).1 (R_setA H8.out ⟨_,HT7.out.hX⟩ (by decide) 5 (.string V.f0)).2 (by decide) 6 (.string V.f1)).2 (by decide) 7 (.slice A7 V.f2.length c7)).2 (by decide) 8 (.slice A8 V.f3.length c8)).1
  ·have hd:decide (x=1)=false:=decide_eq_false hx1
   have hd2:(x == 1)=false:=beq_eq_false_iff_ne.mpr hx1
   have HTV:Aside0 (EvR lh bh z29 (aft lh) (badOf lh bh)):=⟨fun h=>absurd (HXX.out.symm.trans h) hx1,fun _=>⟨rfl,rfl,rfl⟩⟩
   go_wp2
   go_meet
   case rel=>exact ⟨z29,.slice none 0 0,.slice none 0 0,_,_,HTV,HT6,⟨Kd.R_nil _ _ _ _ _⟩,⟨Kd.R_nil _ _ _ _ _⟩⟩
 case rest=>
 obtain ⟨V,v7,v8,l1,b1,HTV,HT7,H7,H8⟩:=hcut
 clear HT6 HXX
 obtain ⟨y,hy⟩:∃ y,numOf l1=y:=⟨_,rfl⟩
 have HN:=Ak (numRw _ wc g l1 b1 HT7.out.hL.rd HT7.out.hL.by_ y hy)
 have HL1:=Ak HT7.out.hL.by_
 have HYY:=Ak hy
 clear hy
 go_wp2_with fail
 refine HN.out.mono ?_
 rintro e_ w8_ ⟨rfl,hl⟩
 have HT8:=Ak (HT7.out.read hl)
 have H72:=Ak (HT7.out.turnR H7.out hl (by decide))
 have H82:=Ak (HT7.out.turnR H8.out hl (by decide))
 clear HT7 H7 H8 hl HN
 go_upto_if 39 with (fail)
 go_cut [] (fun wc=>∃ (Q:List S96) (v9:Value) (l2:List Int) (b2:Bool),Aside0 (QrR l1 b1 Q b2)∧Aside0 (Tu w w1 wc (fun k=>k < g) g Z X (l2,b2) #[.int .i64 n0,.int .i64 n1,.int .i64 n2,.int .i64 n3,.string st,.string V.f0,.string V.f1,v7,v8,v9])∧Aside0 (Kd.string.R 9 wc w.heap.size (fun _=>True) v7 V.f2)∧Aside0 (k90.R 90 wc w.heap.size (fun _=>True) v8 V.f3)∧Aside0 (Kd.S k96 96 wc w.heap.size (fun _=>True) v9 Q))
 case first=>
  by_cases hy1:y=1
  ·subst hy1
   obtain ⟨⟨Q,f,l2,b2⟩,hq⟩:∃ q,refQ (aft l1) (badOf l1 b1)=q:=⟨_,rfl⟩
   have HQ:=Ak hq
   have HTW:Aside0 (QrR l1 b1 Q b2):=⟨fun _=>⟨f,l2,hq⟩,fun h=>absurd HYY.out h⟩
   clear hq
   go_wp2_with fail
   refine (queryRw _ w8_ g (aft l1) (badOf l1 b1) HT8.out.hL.rd HT8.out.hL.by_ HT8.out.hP _ HQ.out).mono ?_
   rintro e_ w9 ⟨v9,rfl,h9,hl⟩
   have HT9:=Ak (HT8.out.read hl)
   have H73:=Ak (HT8.out.turnR H72.out hl (by decide))
   have H83:=Ak (HT8.out.turnR H82.out hl (by decide))
   have H9:=Ak (Kd.S_lower h9 HT8.out.lo)
   obtain ⟨A9,c9,e9⟩:=Kd.S_slice h9
   subst e9
   have hf9:=blk_frozen HT9.out.hX 9
   have hc9:=blk_cell HT9.out.hX 9
   clear HT8 H72 H82 h9 hl HQ
   go_wp2
   go_meet
   case rel=>exact ⟨Q,.slice A9 Q.length c9,l2,b2,HTW,⟨HT9.out.set 9 (.slice A9 Q.length c9) rfl⟩,⟨R_set H73.out HT9.out.hX (by decide) 9 _⟩,⟨R_set H83.out HT9.out.hX (by decide) 9 _⟩,⟨S_set H9.out HT9.out.hX (by decide) 9 _⟩⟩
  ·have hd:decide (y=1)=false:=decide_eq_false hy1
   have hd2:(y == 1)=false:=beq_eq_false_iff_ne.mpr hy1
   have HTW:Aside0 (QrR l1 b1 [] (badOf l1 b1)):=⟨fun h=>absurd (HYY.out.symm.trans h) hy1,fun _=>⟨rfl,rfl⟩⟩
   go_wp2
   go_meet
   case rel=>exact ⟨[],.slice none 0 0,_,_,HTW,HT8,H72,H82,⟨Kd.S_nil _ _ _ _ _⟩⟩
 case rest=>
 obtain ⟨Q,v9,l2,b2,HTW,HT9,H7,H8,H9⟩:=hcut
 clear HT8 HYY H72 H82
 obtain ⟨A7,c7,e7⟩:=Kd.R_slice H7.out
 subst e7
 obtain ⟨A8,c8,e8⟩:=Kd.R_slice H8.out
 subst e8
 obtain ⟨A9,c9,e9⟩:=Kd.S_slice H9.out
 subst e9
 have hTT:stepOf l0 V Q=⟨n0,n1,n2,n3,st,V,⟨Q⟩⟩:=by
  have h0:=HN0.out
  have h1:=HN1.out
  have h2:=HN2.out
  have h3:=HN3.out
  have h4:=HSS.out
  rw [←h0,←h1,←h2,←h3,h4]
  rfl
 obtain ⟨hok,hsz,hst⟩:=ref_plain HBY.out HLN.out (by rw [←HLH.out.1,←HLH.out.2];exact HTV.out) HTW.out HL1.out
 rw [hTT] at hok hsz hst
 rw [HST.out] at hst
 simp only at hsz
 have HFIT:FitS ⟨n0,n1,n2,n3,st,V,⟨Q⟩⟩:=hok.fit hsz
 have HSC:StC wc ⟨n0,n1,n2,n3,st,V,⟨Q⟩⟩ A7 c7 A8 c8 A9 c9:=by
  obtain ⟨-,a1,a2⟩:=Kd.R_reads' H7.out
  obtain ⟨-,a3,a4⟩:=Kd.R_reads' H8.out
  obtain ⟨-,a5,a6⟩:=Kd.S_reads' H9.out
  exact ⟨a2,a1,a4,a3,a6,a5⟩
 obtain ⟨pp,hpp⟩:∃ pp,pp=encS ⟨n0,n1,n2,n3,st,V,⟨Q⟩⟩:=⟨_,rfl⟩
 have HPB:Aside0 (isBytes pp):=⟨by rw [hpp];exact encS_bytes _⟩
 have HP:=Ak (show Calls Tryz.prog 11 #[.agg #[.int .i64 n0,.int .i64 n1,.int .i64 n2,.int .i64 n3,.string st,.string V.f0,.string V.f1,.slice A7 V.f2.length c7,.slice A8 V.f3.length c8,.slice A9 Q.length c9]] wc fun e w'=>∃ A' c',e = .returned (.tuple #[.slice A' pp.length c',.int .i64 0])∧pp.length≤c'∧Kd.C (Kd.int .u8) w' A' pp.length pp∧Below wc.heap.size wc w' from refPut_calls22 ⟨n0,n1,n2,n3,st,V,⟨Q⟩⟩ A7 c7 A8 c8 A9 c9 wc HSC HFIT pp 0 (by rw [hpp];exact putS_ok hok.hv hok.hq))
 rw [←hpp] at hst
 have HST2:=Ak hst.symm
 clear HST HTV HTW HN0 HN1 HN2 HN3 HSS HLH hTT hst hok hsz HFIT HSC hpp HBN HBL HL1
 obtain ⟨hx0,hx1,hx2,hx3,hx4,hx5,hx6,hx7,hx8,hx9⟩:=cl10 HT9.out.hX
 go_wp2_with fail
 refine HP.out.mono ?_
 rintro e_ w10 ⟨Ap,cp,rfl,hcp,hCp,hb⟩
 have HT10:=Ak (HT9.out.up hb)
 have H7b:=Ak (Kd.R_below H7.out hb)
 have H8b:=Ak (Kd.R_below H8.out hb)
 have H9b:=Ak (Kd.S_below H9.out hb)
 clear HP HT9 H7 H8 H9 hb hcp hx0 hx1 hx2 hx3 hx4 hx5 hx6 hx7 hx8 hx9
 have HPC:=Ak hCp
 have HRC:=Ak (Kd.C_below HR0.out HT10.out.hB)
 clear hCp
 have CV1:=Kd.C_string (P:=Tryz.prog) (c:=cp) Tryz.underlying23 Tryz.underlying5 Tryz.underlying9 HPC.out
 have CV2:=Kd.C_string (P:=Tryz.prog) (c:=c0) Tryz.underlying23 Tryz.underlying5 Tryz.underlying9 HRC.out
 have hbad:w10.cell? ⟨g,1,none⟩=some (.bool b2):=Rd.isBad HT10.out.hL.rd
 have hbe:=str_beq HPB.out HBY.out
 cases b2 with
 | true=>
  have HS2:=Ak (ite_yes HST2.out (.inl rfl))
  clear HST2
  go_upto_region 13 with fail
  clear hbad CV1 CV2 hbe
  obtain ⟨hz0,hz1,hz2,hz3,hz4,hz5,hz6,hz7,hz8,hz9⟩:=cl10 HT10.out.hZ;obtain ⟨hf0,hf1,hf2,hf3,hf4,hf5,hf6,hf7,hf8,hf9⟩:=fr10 HT10.out.hZ
  go_wp2_with fail
  have HE9:=(bp10 HT10.out.hZ (.int .i64 0) (.int .i64 0) (.int .i64 0) (.int .i64 0) (.string ⟨#[]⟩) (.string ⟨#[]⟩) (.string ⟨#[]⟩) (.slice none 0 0) (.slice none 0 0) (.slice none 0 0))
  refine bodyPost_ret (results_ct rfl _ _ Z 34 _ (0,0) _ rfl HE9 Tryz.underlying34 rfl (by kernel_rfl)) rfl ?_
  obtain ⟨rfl,rfl⟩:=Prod.mk.inj HS2.out
  exact ⟨.slice none 0 0,.slice none 0 0,.slice none 0 0,rfl,Kd.R_nil _ _ _ _ _,Kd.R_nil _ _ _ _ _,Kd.S_nil _ _ _ _ _,(bb10 HT10.out.hB HT10.out.z1 (.int .i64 0) (.int .i64 0) (.int .i64 0) (.int .i64 0) (.string ⟨#[]⟩) (.string ⟨#[]⟩) (.string ⟨#[]⟩) (.slice none 0 0) (.slice none 0 0) (.slice none 0 0))⟩
 | false=>
  by_cases hpl:pp=l0
  ·have b4:((strOfNums pp).toList == (strOfNums l0).toList)=true:=hbe.trans (decide_eq_true hpl)
   have HS2:=Ak (ite_no HST2.out (by rw [not_or];exact ⟨by simp,fun h=>h hpl⟩))
   clear hbe hpl HST2
   go_upto_region 14 with fail
   clear hbad CV1 CV2 b4
   obtain ⟨hz0,hz1,hz2,hz3,hz4,hz5,hz6,hz7,hz8,hz9⟩:=cl10 HT10.out.hZ;obtain ⟨hf0,hf1,hf2,hf3,hf4,hf5,hf6,hf7,hf8,hf9⟩:=fr10 HT10.out.hZ
   obtain ⟨hx0,hx1,hx2,hx3,hx4,hx5,hx6,hx7,hx8,hx9⟩:=cl10 HT10.out.hX
   go_wp2_with fail
   have HE9:=(bp10 HT10.out.hZ (.int .i64 n0) (.int .i64 n1) (.int .i64 n2) (.int .i64 n3) (.string st) (.string V.f0) (.string V.f1) (.slice A7 V.f2.length c7) (.slice A8 V.f3.length c8) (.slice A9 Q.length c9))
   refine bodyPost_ret (results_ct rfl _ _ Z 34 _ (0,0) _ rfl HE9 Tryz.underlying34 rfl (by kernel_rfl)) rfl ?_
   obtain ⟨rfl,rfl⟩:=Prod.mk.inj HS2.out
   have HKB:=(kb10 w10 Z (.int .i64 n0) (.int .i64 n1) (.int .i64 n2) (.int .i64 n3) (.string st) (.string V.f0) (.string V.f1) (.slice A7 V.f2.length c7) (.slice A8 V.f3.length c8) (.slice A9 Q.length c9))
   exact ⟨.slice A7 V.f2.length c7,.slice A8 V.f3.length c8,.slice A9 Q.length c9,rfl,R_turnT H7b.out HT10.out.hZ (by decide) HKB,R_turnT H8b.out HT10.out.hZ (by decide) HKB,S_turnT H9b.out HT10.out.hZ (by decide) HKB,(bb10 HT10.out.hB HT10.out.z1 (.int .i64 n0) (.int .i64 n1) (.int .i64 n2) (.int .i64 n3) (.string st) (.string V.f0) (.string V.f1) (.slice A7 V.f2.length c7) (.slice A8 V.f3.length c8) (.slice A9 Q.length c9))⟩
  ·have b4:((strOfNums pp).toList == (strOfNums l0).toList)=false:=hbe.trans (decide_eq_false hpl)
   clear hbe
   have HS2:=Ak (ite_yes HST2.out (.inr hpl))
   clear HST2
   go_upto_region 13 with fail
   clear hbad CV1 CV2 b4 hpl
   obtain ⟨hz0,hz1,hz2,hz3,hz4,hz5,hz6,hz7,hz8,hz9⟩:=cl10 HT10.out.hZ;obtain ⟨hf0,hf1,hf2,hf3,hf4,hf5,hf6,hf7,hf8,hf9⟩:=fr10 HT10.out.hZ
   go_wp2_with fail
   have HE9:=(bp10 HT10.out.hZ (.int .i64 0) (.int .i64 0) (.int .i64 0) (.int .i64 0) (.string ⟨#[]⟩) (.string ⟨#[]⟩) (.string ⟨#[]⟩) (.slice none 0 0) (.slice none 0 0) (.slice none 0 0))
   refine bodyPost_ret (results_ct rfl _ _ Z 34 _ (0,0) _ rfl HE9 Tryz.underlying34 rfl (by kernel_rfl)) rfl ?_
   obtain ⟨rfl,rfl⟩:=Prod.mk.inj HS2.out
   exact ⟨.slice none 0 0,.slice none 0 0,.slice none 0 0,rfl,Kd.R_nil _ _ _ _ _,Kd.R_nil _ _ _ _ _,Kd.S_nil _ _ _ _ _,(bb10 HT10.out.hB HT10.out.z1 (.int .i64 0) (.int .i64 0) (.int .i64 0) (.int .i64 0) (.string ⟨#[]⟩) (.string ⟨#[]⟩) (.string ⟨#[]⟩) (.slice none 0 0) (.slice none 0 0) (.slice none 0 0))⟩
def dg (c:Int):Int:=if undig c < 0 then 0 else undig c
theorem dg_range (c:Int):0≤dg c∧dg c < 16:=by
 unfold dg
 by_cases h:undig c < 0
 ·rw [if_pos h];omega
 ·rw [if_neg h];exact (dig_undig h).2
def pairL:List Int→List Int
 | a :: b :: r=>(16 * dg a+dg b) :: pairL r
 | _=>[]
theorem pair_bytes:∀ l,isBytes (pairL l)
 | []=>nil_bytes
 | [_]=>nil_bytes
 | a :: b :: r=>fun c hc=>by
  rw [pairL] at hc
  have h1:=dg_range a
  have h2:=dg_range b
  rcases List.mem_cons.1 hc with rfl | hc
  ·omega
  ·exact pair_bytes r c hc
theorem dg_dig {n:Int} (h0:0≤n) (h1:n < 16):dg (dig n)=n:=by
 unfold dg
 rw [undig_dig h0 h1,if_neg (by omega)]
theorem pair_hex:∀ l:List Int,isBytes l→pairL (hexL l)=l
 | [],_=>rfl
 | c :: t,hb=>by
  have hc:=hb c (by simp)
  rw [hexL_cons,pairL,dg_dig (by omega) (by omega),dg_dig (by omega) (by omega),pair_hex t (fun x hx=>hb x (by simp [hx]))]
  congr 1
  omega
theorem lineS_pair (l:List Int):lineS l=if hexL (pairL l)=l then takeS (pairL l) else (z34,240):=by
 unfold lineS
 by_cases h:hexL (pairL l)=l
 ·have e:unhexL l=some (pairL l):=(congrArg unhexL h.symm).trans (unhex_hex _ (pair_bytes l))
  rw [if_pos h,e]
 ·rw [if_neg h]
  cases e:unhexL l with
  | none=>rfl
  | some m=>
   obtain ⟨h1,h2⟩:=unhex_sound l.length l m (Nat.le_refl _) e
   exact absurd (by rw [h1,pair_hex m h2]) h
theorem drop_two (l:List Int) (i:Nat) (h:i+1 < l.length):pairL (l.drop i)=(16 * dg (l.getD i 0)+dg (l.getD (i+1) 0)) :: pairL (l.drop (i+2)):=by
 rw [drop_cons l i (by omega),drop_cons l (i+1) h,pairL]
theorem drop_end (l:List Int) (i:Nat) (h:¬i+1 < l.length):pairL (l.drop i)=[]:=by
 have hl:(l.drop i).length≤1:=by rw [List.length_drop];omega
 match l.drop i,hl with
 | [],_=>rfl
 | [_],_=>rfl
 | a :: b :: r,hl=>simp at hl
theorem scan_more {l:List Int} {a i:Nat} (ha:a≤i) (hi:i < l.length) (h:(10:Int) ∉ (l.drop a).take (i - a)) (hc:¬l.getD i 0=10):(10:Int) ∉ (l.drop a).take (i+1 - a):=by
 have e:(l.drop a).take (i+1 - a)=(l.drop a).take (i - a)++[l.getD i 0]:=by
  rw [show i+1 - a=(i - a)+1 by omega,List.take_succ_eq_append_getElem (by rw [List.length_drop];omega)]
  rw [List.getElem_drop,List.getD_eq_getElem?_getD,List.getElem?_eq_getElem hi]
  simp only [Option.getD_some]
  congr 3
  omega
 rw [e]
 intro hm
 rcases List.mem_append.1 hm with h1 | h1
 ·exact h h1
 ·exact hc (List.mem_singleton.1 h1).symm
theorem scan_cut {l:List Int} {a i:Nat} (ha:a≤i) (hi:i < l.length) (hc:l.getD i 0=10):l.drop a=(l.drop a).take (i - a)++10 :: l.drop (i+1):=by
 have h1:=(List.take_append_drop (i - a) (l.drop a)).symm
 rw [List.drop_drop,show a+(i - a)=i by omega,drop_cons l i hi,hc] at h1
 exact h1
theorem scan_line {l:List Int} {acc:List S34} {a i n:Nat} {q:List S34 × Int × Int} (ha:a≤i) (hi:i < l.length) (hno:(10:Int) ∉ (l.drop a).take (i - a)) (hc:l.getD i 0=10) (hn:l.length - a < n) (h:parseF n (l.drop a) acc=q) :
  ∃ m,l.length - (i+1) < m∧(if (lineS ((l.drop a).take (i - a))).2≠0 then ([],(acc.length:Int)+1,240) else parseF m (l.drop (i+1)) (acc++[(lineS ((l.drop a).take (i - a))).1]))=q:=by
 obtain ⟨m,rfl⟩:∃ m,n=m+1:=⟨n - 1,by omega⟩
 refine ⟨m,by omega,?_⟩
 have e:=scan_cut ha hi hc
 have hl:((l.drop a).take (i - a)).length=i - a:=by rw [List.length_take,List.length_drop];omega
 have hh:headN (l.drop a)=(l.drop a).take (i - a):=by
  have h2:=headN_line hno (l.drop (i+1))
  rw [←e] at h2
  exact h2
 have hne:l.drop a≠[]:=by rw [e];simp
 have hd:(l.drop a).drop (i - a+1)=l.drop (i+1):=by rw [List.drop_drop];congr 1;omega
 rw [←h,parseF,if_neg hne,hh,hl,hd]
 have hlen:¬(i - a=(l.drop a).length):=by rw [List.length_drop];omega
 simp only [hlen,false_or]
theorem headN_all:∀ l:List Int,(10:Int) ∉ l→headN l=l
 | [],_=>rfl
 | a :: r,h=>by
  have ha:a≠10:=fun e=>h (by rw [e];simp)
  have hr:=headN_all r (fun e=>h (by simp [e]))
  unfold headN at hr ⊢
  rw [List.takeWhile_cons_of_pos (by simpa using ha),hr]
theorem scan_end {l:List Int} {acc:List S34} {a n:Nat} {q:List S34 × Int × Int} (ha:a≤l.length) (hno:(10:Int) ∉ l.drop a) (hn:l.length - a < n) (h:parseF n (l.drop a) acc=q) :
  q=if a=l.length then (acc,0,0) else ([],(acc.length:Int)+1,240):=by
 obtain ⟨m,rfl⟩:∃ m,n=m+1:=⟨n - 1,by omega⟩
 by_cases hz:a=l.length
 ·rw [if_pos hz,←h,hz,List.drop_length,parseF_nil]
 ·have hne:l.drop a≠[]:=fun e=>by
   have:=congrArg List.length e
   rw [List.length_drop] at this
   simp at this
   omega
  have hh:headN (l.drop a)=l.drop a:=by
   exact headN_all _ hno
  rw [if_neg hz,←h,parseF,if_neg hne,hh,if_pos (.inl rfl)]
theorem count_more (l:List Int) (i:Nat) (hi:i < l.length):(l.take (i+1)).count 10=(l.take i).count 10+if l.getD i 0=10 then 1 else 0:=by
 rw [List.take_succ_eq_append_getElem hi,List.count_append,List.count_singleton,List.getD_eq_getElem?_getD,List.getElem?_eq_getElem hi]
 simp only [Option.getD_some,beq_iff_eq]
def D47.T5:Bool × List (List Nat × List Nat):=(true,[([],[]),([],[]),([],[]),([1,2],[1,2]),([3],[3]),([4],[4]),([],[]),([],[]),([7],[7]),([6,8],[6,8]),([9,4],[9]),([5,10],[5,10]),([11],[11]),([0,12,10],[0,12]),([13,13,0,1,2,3,4,5,6,7,8,9,10,11,12,13],[0,13])])
def D47.B5:List Nat:=[0,0,0,6,14,30,0,0,128,448,990,2046,4094,8191,16383]
theorem D47.tab5:rtab .any (opsOf Tryz.f47 5)=D47.T5:=by kernel_rfl
theorem D47.bits5:waitsOk D47.T5.2 D47.B5=true:=by kernel_rfl
theorem digitC (c d:Int) (h0:0≤c) (h1:c < 256) (h:dg c=d) (w:World):Calls Tryz.prog 74 #[.int .u8 c] w fun e w'=>e = .returned (.int .u8 d)∧Below w.heap.size w w':=by
 subst h
 exact digit_calls22 c h0 h1 w
set_option maxRecDepth 100000 in
set_option maxHeartbeats 8000000 in
theorem refLine_calls22 (s:ByteArray) (w:World) (hz:s.size≤100000) (r:S34) (re:Int) (h:lineS (bytesOf s)=(r,re)) :
  Calls Tryz.prog 47 #[.string s] w fun e w'=>∃ v7 v8 v9,e = .returned (.tuple #[.agg #[.int .i64 r.f0,.int .i64 r.f1,.int .i64 r.f2,.int .i64 r.f3,.string r.f4,.string r.f5.f0,.string r.f5.f1,v7,v8,v9],.int .i64 re])∧Kd.string.R 9 w' w.heap.size (fun _=>True) v7 r.f5.f2∧k90.R 90 w' w.heap.size (fun _=>True) v8 r.f5.f3∧Kd.S k96 96 w' w.heap.size (fun _=>True) v9 r.f6.f0∧Below w.heap.size w w':=by
 have hbl:=bytes_length s
 rw [lineS_pair] at h
 have HH:=Ak h
 clear h
 have hu34:=Tryz.underlying34
 go_enter Tryz.func47,Tryz.ntmps47
 go_upto_region 1 with (((with_reducible refine gate_dst (N:=2) rfl ?_);(try (refine gate_guard (by rfl) ?_;dsimp only));refine box_event ?hg (N:=2) ?hd (cs:=#[.int .i64 0,.int .i64 0,.int .i64 0,.int .i64 0,.string ⟨#[]⟩,.string ⟨#[]⟩,.string ⟨#[]⟩,.slice none 0 0,.slice none 0 0,.slice none 0 0]) (t:=34) ?hr ?_;(case hd=>rfl);(case hg=>rfl);(case hr=>(go_simp;done));intro Z hg_ wz hbox_ hb_;have HZ:=Ak hbox_;have HZN:=Ak hg_;have HZB:=Ak hb_;clear hbox_ hg_ hb_))
 have HL:=Ak (Below.refl wz.heap.size wz)
 go_wp2_with (((with_reducible refine gate_dst (N:=6) rfl ?_);refine Kd.R_lit (Kd.int .u8) (w0:=wz) wz.heap.size 5 ?hg (N:=6) ?hd (xs:=[]) (inner:=[]) (ok:=fun _=>True) (okp:=fun _=>True) ?hr ?hp (fun _ hk=>hk) trivial ?hB ?hS (by simp) ?_;(case hd=>rfl);(case hg=>rfl);(case hr=>(go_simp;done));(case hp=>exact (Reps.none _ _));(case hB=>exact HL.out);(case hS=>exact (below_size HL.out));intro v7 w7 ho hb hg hat;have n0_:=Ak (hb);have n1_:=Ak (ho);clear HL;have HL:=n0_;have HO7:=n1_;clear n0_ n1_;clear ho hb hg hat))
 go_loopg [4,5] (s.size+2) (fun gk v4 v5 w'=>∃ (i:Nat) (acc:List Int),v5 = .int .i64 (i:Int)∧Aside0 (i+gk=s.size+2)∧Aside0 (i≤s.size)∧Aside0 (pairL (bytesOf s)=acc++pairL ((bytesOf s).drop i)∧acc.length≤i)∧Aside0 (Kd.R (Kd.int .u8) 5 w' wz.heap.size (fun _=>True) v4 acc)∧Aside0 (Below wz.heap.size wz w'))
 case atStart=>exact ⟨0,[],rfl,⟨by omega⟩,⟨Nat.zero_le _⟩,⟨rfl,Nat.le_refl _⟩,⟨HO7.out⟩,⟨HL.out⟩⟩
 case round=>
  clear HO7 HL
  obtain ⟨i,acc,rfl,HE,HI,HP,HO,HB⟩:=hrel
  have hi2:i≤100000:=by have:=HI.out;omega
  obtain ⟨A4,c4,e4⟩:=Kd.R_slice HO.out
  subst e4
  by_cases hlt:i+1 < s.size
  ·have hb1:decide ((i:Int)+1 < (s.size:Int))=true:=decide_eq_true (by omega)
   obtain ⟨ca,hca⟩:∃ c,c=(bytesOf s).getD i 0:=⟨_,rfl⟩
   obtain ⟨cb,hcb⟩:∃ c,c=(bytesOf s).getD (i+1) 0:=⟨_,rfl⟩
   obtain ⟨da,hda⟩:∃ d,dg ca=d:=⟨_,rfl⟩
   obtain ⟨db,hdb⟩:∃ d,dg cb=d:=⟨_,rfl⟩
   have hra:=dg_range ca
   have hrb:=dg_range cb
   rw [hda] at hra
   rw [hdb] at hrb
   have hx17:∀ h:i < s.size,((s[i]'h).toNat:Int)=ca:=fun h=>(bt_at s (i:Int) h).trans ((bt_getD s i h).trans hca.symm)
   have hx23:∀ h:i+1 < s.size,((s[i+1]'h).toNat:Int)=cb:=fun h=>(bt_at s ((i+1:Nat):Int) h).trans ((bt_getD s (i+1) h).trans hcb.symm)
   have hya:=bt_range s (i:Int)
   have hyb:=bt_range s ((i+1:Nat):Int)
   rw [bt_getD s i (by omega),←hca] at hya
   rw [bt_getD s (i+1) hlt,←hcb] at hyb
   have HCA:=Ak (show (0≤ca∧ca < 256)∧dg ca=da from ⟨by omega,hda⟩)
   have HCB:=Ak (show (0≤cb∧cb < 256)∧dg cb=db from ⟨by omega,hdb⟩)
   have HX:=Ak (drop_two (bytesOf s) i (by omega))
   rw [←hca,←hcb,hda,hdb] at HX
   have HW19:Aside0 (IntKind.u8.wrap (16 * da)=16 * da):=⟨by rw [IntKind.wrap_u8];omega⟩
   have HW25:Aside0 (IntKind.u8.wrap (16 * da+db)=16 * da+db):=⟨by rw [IntKind.wrap_u8];omega⟩
   have p17:(0≤(i:Int))=True:=eq_true (by omega)
   have q17:((i:Int) < (s.size:Int))=True:=eq_true (by omega)
   have p23:(0≤(i:Int)+1)=True:=eq_true (by omega)
   have q23:((i:Int)+1 < (s.size:Int))=True:=eq_true (by omega)
   have HW22:=Ak (wrap_small (n:=(i:Int)+1) (by omega) (by omega))
   clear hya hyb hca hcb hda hdb hra hrb
   go_wp2_with fail
   have HBB:=HB
   have HOO:=HO
   refine start_ (n:=15) (S:=fun w'=>True) (ds:=[]) #[false,false,false,false,false,false,false,false,false,false,false,false,false,false,false] (by kernel_rfl) rfl rfl trivial (fun hHeld=>?_);refine with_tabW D47.tab5 D47.bits5 (fun HT_ HW_=>?_)
   refine inv_at [0,1,2,3,4,5,6,7,8,9,10,11,12,13,14] (fun a0_ b a w'=>∃ (B1:Option Addr) (d1:Nat) (B2:Option Addr) (d2:Nat) (m12_:Value) (m13_:Value) (m14_:Value),a=putSel a0_ b [(0,14,.slice A4 acc.length c4),(1,15,.string s),(2,16,.int .i64 (i:Int)),(3,17,.int .u8 ca),(4,18,.int .u8 da),(5,19,.int .u8 (16 * da)),(6,20,.string s),(7,21,.int .i64 (i:Int)),(8,22,.int .i64 ((i:Int)+1)),(9,23,.int .u8 cb),(10,24,.int .u8 db),(11,25,.int .u8 (16 * da+db)),(12,26,m12_),(13,27,m13_),(14,4,m14_)]∧(Below wz.heap.size wz w')∧(b 13=false→(Kd.int .u8).R 5 w' wz.heap.size (fun _=>True) (.slice A4 acc.length c4) acc)∧(b 12=true→b 13=false→(Kd.int .u8).C w' B1 1 [16 * da+db])∧(b 13=true→(Kd.int .u8).R 5 w' wz.heap.size (fun _=>True) (.slice B2 (acc++[16 * da+db]).length d2) (acc++[16 * da+db]))∧(b 12=true→(m12_:Value) = .slice B1 1 d1)∧(b 13=true→(m13_:Value) = .slice B2 (acc++[16 * da+db]).length d2)∧(b 14=true→(m14_:Value) = .slice B2 (acc++[16 * da+db]).length d2)) HT_.out HW_.out (by kernel_rfl) (by kernel_rfl) ?_ ?_ ?_
   ·exact ⟨none,0,none,0,.bool false,.bool false,.bool false,by simp only [putSel,Bool.false_eq_true,if_false],(by repeat (with_reducible first | exact HBB.out | apply below_drew1)),fun _=>(by (with_reducible repeat (apply Kd.R_drew));exact HOO.out),fun h_=>absurd h_ (by decide),fun h_=>absurd h_ (by decide),fun h_=>absurd h_ (by decide),fun h_=>absurd h_ (by decide),fun h_=>absurd h_ (by decide)⟩
   ·clear HT_ HW_ hHeld
    clear HBB HOO
    refine steps_cons ?_ ?_
    ·intro b a w' hI_ hb_ hon hoff
     refine ⟨_,rfl,fun K hK=>?_⟩
     obtain ⟨B1,d1,B2,d2,m12_,m13_,m14_,ha,Q_HBB,Q_HOO,Q_HC26,Q_HF,Q_X12_,Q_X13_,Q_X14_⟩:=hI_
     have e4:a.tmps[4]? = some (.slice A4 acc.length c4):=by rw [ha];exact (putSel_not (hoff 14 (by kernel_rfl)) rfl).trans rfl
     replace ha:=Ak ha
     have HBB:=Ak Q_HBB
     have HOO:=Ak (Q_HOO (hoff 13 (by kernel_rfl)))
     refine value_ (w1:=w') (v:=.slice A4 acc.length c4) (by rfl) rfl ?_ ?_
     ·go_simp
      skip
     refine hK.out _ _ ⟨B1,d1,B2,d2,m12_,m13_,m14_,(by rw [ha.out];exact putSel_upk 0 hb_ rfl rfl rfl),Q_HBB,Q_HOO,Q_HC26,fun h0_=>absurd ((hoff 13 (by kernel_rfl)).symm.trans h0_) (by decide),Q_X12_,fun h0_=>absurd ((hoff 13 (by kernel_rfl)).symm.trans h0_) (by decide),fun h0_=>absurd ((hoff 14 (by kernel_rfl)).symm.trans h0_) (by decide)⟩
    refine steps_cons ?_ ?_
    ·intro b a w' hI_ hb_ hon hoff
     refine ⟨_,rfl,fun K hK=>?_⟩
     obtain ⟨B1,d1,B2,d2,m12_,m13_,m14_,ha,Q_HBB,Q_HOO,Q_HC26,Q_HF,Q_X12_,Q_X13_,Q_X14_⟩:=hI_
     have e0:a.tmps[0]? = some (.string s):=by rw [ha];exact (putSel_off rfl).trans rfl
     replace ha:=Ak ha
     have HBB:=Ak Q_HBB
     have HOO:=Ak (Q_HOO (hoff 13 (by kernel_rfl)))
     refine value_ (w1:=w') (v:=.string s) (by rfl) rfl ?_ ?_
     ·go_simp
      skip
     refine hK.out _ _ ⟨B1,d1,B2,d2,m12_,m13_,m14_,(by rw [ha.out];exact putSel_upk 1 hb_ rfl rfl rfl),Q_HBB,Q_HOO,fun h0_ _=>absurd ((hoff 12 (by kernel_rfl)).symm.trans h0_) (by decide),fun h0_=>absurd ((hoff 13 (by kernel_rfl)).symm.trans h0_) (by decide),fun h0_=>absurd ((hoff 12 (by kernel_rfl)).symm.trans h0_) (by decide),fun h0_=>absurd ((hoff 13 (by kernel_rfl)).symm.trans h0_) (by decide),fun h0_=>absurd ((hoff 14 (by kernel_rfl)).symm.trans h0_) (by decide)⟩
    refine steps_cons ?_ ?_
    ·intro b a w' hI_ hb_ hon hoff
     refine ⟨_,rfl,fun K hK=>?_⟩
     obtain ⟨B1,d1,B2,d2,m12_,m13_,m14_,ha,Q_HBB,Q_HOO,Q_HC26,Q_HF,Q_X12_,Q_X13_,Q_X14_⟩:=hI_
     have e5:a.tmps[5]? = some (.int .i64 (i:Int)):=by rw [ha];exact (putSel_off rfl).trans rfl
     replace ha:=Ak ha
     have HBB:=Ak Q_HBB
     have HOO:=Ak (Q_HOO (hoff 13 (by kernel_rfl)))
     refine value_ (w1:=w') (v:=.int .i64 (i:Int)) (by rfl) rfl ?_ ?_
     ·go_simp
      skip
     refine hK.out _ _ ⟨B1,d1,B2,d2,m12_,m13_,m14_,(by rw [ha.out];exact putSel_upk 2 hb_ rfl rfl rfl),Q_HBB,Q_HOO,fun h0_ _=>absurd ((hoff 12 (by kernel_rfl)).symm.trans h0_) (by decide),fun h0_=>absurd ((hoff 13 (by kernel_rfl)).symm.trans h0_) (by decide),fun h0_=>absurd ((hoff 12 (by kernel_rfl)).symm.trans h0_) (by decide),fun h0_=>absurd ((hoff 13 (by kernel_rfl)).symm.trans h0_) (by decide),fun h0_=>absurd ((hoff 14 (by kernel_rfl)).symm.trans h0_) (by decide)⟩
    refine steps_cons ?_ ?_
    ·intro b a w' hI_ hb_ hon hoff
     refine ⟨_,rfl,fun K hK=>?_⟩
     obtain ⟨B1,d1,B2,d2,m12_,m13_,m14_,ha,Q_HBB,Q_HOO,Q_HC26,Q_HF,Q_X12_,Q_X13_,Q_X14_⟩:=hI_
     have e15:a.tmps[15]? = some (.string s):=by rw [ha];exact putSel_on (e:=(1,15,.string s)) 1 rfl rfl (hon 1 (by kernel_rfl)) rfl
     have e16:a.tmps[16]? = some (.int .i64 (i:Int)):=by rw [ha];exact putSel_on (e:=(2,16,.int .i64 (i:Int))) 2 rfl rfl (hon 2 (by kernel_rfl)) rfl
     replace ha:=Ak ha
     have HBB:=Ak Q_HBB
     have HOO:=Ak (Q_HOO (hoff 13 (by kernel_rfl)))
     refine value_ (w1:=w') (v:=.int .u8 ca) (by rfl) rfl ?_ ?_
     ·go_simp
      skip
     refine hK.out _ _ ⟨B1,d1,B2,d2,m12_,m13_,m14_,(by rw [ha.out];exact putSel_upk 3 hb_ rfl rfl rfl),Q_HBB,Q_HOO,fun h0_ _=>absurd ((hoff 12 (by kernel_rfl)).symm.trans h0_) (by decide),fun h0_=>absurd ((hoff 13 (by kernel_rfl)).symm.trans h0_) (by decide),fun h0_=>absurd ((hoff 12 (by kernel_rfl)).symm.trans h0_) (by decide),fun h0_=>absurd ((hoff 13 (by kernel_rfl)).symm.trans h0_) (by decide),fun h0_=>absurd ((hoff 14 (by kernel_rfl)).symm.trans h0_) (by decide)⟩
    refine steps_cons ?_ ?_
    ·intro b a w' hI_ hb_ hon hoff
     refine ⟨_,rfl,fun K hK=>?_⟩
     obtain ⟨B1,d1,B2,d2,m12_,m13_,m14_,ha,Q_HBB,Q_HOO,Q_HC26,Q_HF,Q_X12_,Q_X13_,Q_X14_⟩:=hI_
     have e17:a.tmps[17]? = some (.int .u8 ca):=by rw [ha];exact putSel_on (e:=(3,17,.int .u8 ca)) 3 rfl rfl (hon 3 (by kernel_rfl)) rfl
     replace ha:=Ak ha
     have HBB:=Ak Q_HBB
     have HOO:=Ak (Q_HOO (hoff 13 (by kernel_rfl)))
     refine goes_ Tryz.func74 (by kernel_rfl) rfl #[.int .u8 ca] (by rfl) rfl rfl (by (simp only [List.map_toArray,List.map_cons,List.map_nil,Act.eval,Array.getD_eq_getD_getElem?,Option.getD_some,e17];done)) ?_
     with_reducible refine (digitC ca da HCA.out.1.1 HCA.out.1.2 HCA.out.2 _).mono ?_
     rintro e w3 ⟨rfl,hb_2⟩
     refine ⟨_,rfl,?_⟩
     refine hK.out _ _ ⟨B1,d1,B2,d2,m12_,m13_,m14_,(by rw [ha.out];exact putSel_upk 4 hb_ rfl rfl rfl),below_step HBB.out hb_2,fun _=>Kd.R_below HOO.out hb_2,fun h0_ _=>absurd ((hoff 12 (by kernel_rfl)).symm.trans h0_) (by decide),fun h0_=>absurd ((hoff 13 (by kernel_rfl)).symm.trans h0_) (by decide),fun h0_=>absurd ((hoff 12 (by kernel_rfl)).symm.trans h0_) (by decide),fun h0_=>absurd ((hoff 13 (by kernel_rfl)).symm.trans h0_) (by decide),fun h0_=>absurd ((hoff 14 (by kernel_rfl)).symm.trans h0_) (by decide)⟩
    refine steps_cons ?_ ?_
    ·intro b a w' hI_ hb_ hon hoff
     refine ⟨_,rfl,fun K hK=>?_⟩
     obtain ⟨B1,d1,B2,d2,m12_,m13_,m14_,ha,Q_HBB,Q_HOO,Q_HC26,Q_HF,Q_X12_,Q_X13_,Q_X14_⟩:=hI_
     have e18:a.tmps[18]? = some (.int .u8 da):=by rw [ha];exact putSel_on (e:=(4,18,.int .u8 da)) 4 rfl rfl (hon 4 (by kernel_rfl)) rfl
     replace ha:=Ak ha
     have HBB:=Ak Q_HBB
     have HOO:=Ak (Q_HOO (hoff 13 (by kernel_rfl)))
     have hw19:=HW19.out
     refine value_ (w1:=w') (v:=.int .u8 (16 * da)) (by rfl) rfl ?_ ?_
     ·go_simp
      skip
     refine hK.out _ _ ⟨B1,d1,B2,d2,m12_,m13_,m14_,(by rw [ha.out];exact putSel_upk 5 hb_ rfl rfl rfl),Q_HBB,Q_HOO,fun h0_ _=>absurd ((hoff 12 (by kernel_rfl)).symm.trans h0_) (by decide),fun h0_=>absurd ((hoff 13 (by kernel_rfl)).symm.trans h0_) (by decide),fun h0_=>absurd ((hoff 12 (by kernel_rfl)).symm.trans h0_) (by decide),fun h0_=>absurd ((hoff 13 (by kernel_rfl)).symm.trans h0_) (by decide),fun h0_=>absurd ((hoff 14 (by kernel_rfl)).symm.trans h0_) (by decide)⟩
    refine steps_cons ?_ ?_
    ·intro b a w' hI_ hb_ hon hoff
     refine ⟨_,rfl,fun K hK=>?_⟩
     obtain ⟨B1,d1,B2,d2,m12_,m13_,m14_,ha,Q_HBB,Q_HOO,Q_HC26,Q_HF,Q_X12_,Q_X13_,Q_X14_⟩:=hI_
     have e0:a.tmps[0]? = some (.string s):=by rw [ha];exact (putSel_off rfl).trans rfl
     replace ha:=Ak ha
     have HBB:=Ak Q_HBB
     have HOO:=Ak (Q_HOO (hoff 13 (by kernel_rfl)))
     refine value_ (w1:=w') (v:=.string s) (by rfl) rfl ?_ ?_
     ·go_simp
      skip
     refine hK.out _ _ ⟨B1,d1,B2,d2,m12_,m13_,m14_,(by rw [ha.out];exact putSel_upk 6 hb_ rfl rfl rfl),Q_HBB,Q_HOO,fun h0_ _=>absurd ((hoff 12 (by kernel_rfl)).symm.trans h0_) (by decide),fun h0_=>absurd ((hoff 13 (by kernel_rfl)).symm.trans h0_) (by decide),fun h0_=>absurd ((hoff 12 (by kernel_rfl)).symm.trans h0_) (by decide),fun h0_=>absurd ((hoff 13 (by kernel_rfl)).symm.trans h0_) (by decide),fun h0_=>absurd ((hoff 14 (by kernel_rfl)).symm.trans h0_) (by decide)⟩
    refine steps_cons ?_ ?_
    ·intro b a w' hI_ hb_ hon hoff
     refine ⟨_,rfl,fun K hK=>?_⟩
     obtain ⟨B1,d1,B2,d2,m12_,m13_,m14_,ha,Q_HBB,Q_HOO,Q_HC26,Q_HF,Q_X12_,Q_X13_,Q_X14_⟩:=hI_
     have e5:a.tmps[5]? = some (.int .i64 (i:Int)):=by rw [ha];exact (putSel_off rfl).trans rfl
     replace ha:=Ak ha
     have HBB:=Ak Q_HBB
     have HOO:=Ak (Q_HOO (hoff 13 (by kernel_rfl)))
     refine value_ (w1:=w') (v:=.int .i64 (i:Int)) (by rfl) rfl ?_ ?_
     ·go_simp
      skip
     refine hK.out _ _ ⟨B1,d1,B2,d2,m12_,m13_,m14_,(by rw [ha.out];exact putSel_upk 7 hb_ rfl rfl rfl),Q_HBB,Q_HOO,fun h0_ _=>absurd ((hoff 12 (by kernel_rfl)).symm.trans h0_) (by decide),fun h0_=>absurd ((hoff 13 (by kernel_rfl)).symm.trans h0_) (by decide),fun h0_=>absurd ((hoff 12 (by kernel_rfl)).symm.trans h0_) (by decide),fun h0_=>absurd ((hoff 13 (by kernel_rfl)).symm.trans h0_) (by decide),fun h0_=>absurd ((hoff 14 (by kernel_rfl)).symm.trans h0_) (by decide)⟩
    refine steps_cons ?_ ?_
    ·intro b a w' hI_ hb_ hon hoff
     refine ⟨_,rfl,fun K hK=>?_⟩
     obtain ⟨B1,d1,B2,d2,m12_,m13_,m14_,ha,Q_HBB,Q_HOO,Q_HC26,Q_HF,Q_X12_,Q_X13_,Q_X14_⟩:=hI_
     have e21:a.tmps[21]? = some (.int .i64 (i:Int)):=by rw [ha];exact putSel_on (e:=(7,21,.int .i64 (i:Int))) 7 rfl rfl (hon 7 (by kernel_rfl)) rfl
     replace ha:=Ak ha
     have HBB:=Ak Q_HBB
     have HOO:=Ak (Q_HOO (hoff 13 (by kernel_rfl)))
     have hw22:=HW22.out
     refine value_ (w1:=w') (v:=.int .i64 ((i:Int)+1)) (by rfl) rfl ?_ ?_
     ·go_simp
      skip
     refine hK.out _ _ ⟨B1,d1,B2,d2,m12_,m13_,m14_,(by rw [ha.out];exact putSel_upk 8 hb_ rfl rfl rfl),Q_HBB,Q_HOO,fun h0_ _=>absurd ((hoff 12 (by kernel_rfl)).symm.trans h0_) (by decide),fun h0_=>absurd ((hoff 13 (by kernel_rfl)).symm.trans h0_) (by decide),fun h0_=>absurd ((hoff 12 (by kernel_rfl)).symm.trans h0_) (by decide),fun h0_=>absurd ((hoff 13 (by kernel_rfl)).symm.trans h0_) (by decide),fun h0_=>absurd ((hoff 14 (by kernel_rfl)).symm.trans h0_) (by decide)⟩
    refine steps_cons ?_ ?_
    ·intro b a w' hI_ hb_ hon hoff
     refine ⟨_,rfl,fun K hK=>?_⟩
     obtain ⟨B1,d1,B2,d2,m12_,m13_,m14_,ha,Q_HBB,Q_HOO,Q_HC26,Q_HF,Q_X12_,Q_X13_,Q_X14_⟩:=hI_
     have e20:a.tmps[20]? = some (.string s):=by rw [ha];exact putSel_on (e:=(6,20,.string s)) 6 rfl rfl (hon 6 (by kernel_rfl)) rfl
     have e22:a.tmps[22]? = some (.int .i64 ((i:Int)+1)):=by rw [ha];exact putSel_on (e:=(8,22,.int .i64 ((i:Int)+1))) 8 rfl rfl (hon 8 (by kernel_rfl)) rfl
     replace ha:=Ak ha
     have HBB:=Ak Q_HBB
     have HOO:=Ak (Q_HOO (hoff 13 (by kernel_rfl)))
     refine value_ (w1:=w') (v:=.int .u8 cb) (by rfl) rfl ?_ ?_
     ·go_simp
      skip
     refine hK.out _ _ ⟨B1,d1,B2,d2,m12_,m13_,m14_,(by rw [ha.out];exact putSel_upk 9 hb_ rfl rfl rfl),Q_HBB,Q_HOO,fun h0_ _=>absurd ((hoff 12 (by kernel_rfl)).symm.trans h0_) (by decide),fun h0_=>absurd ((hoff 13 (by kernel_rfl)).symm.trans h0_) (by decide),fun h0_=>absurd ((hoff 12 (by kernel_rfl)).symm.trans h0_) (by decide),fun h0_=>absurd ((hoff 13 (by kernel_rfl)).symm.trans h0_) (by decide),fun h0_=>absurd ((hoff 14 (by kernel_rfl)).symm.trans h0_) (by decide)⟩
    refine steps_cons ?_ ?_
    ·intro b a w' hI_ hb_ hon hoff
     refine ⟨_,rfl,fun K hK=>?_⟩
     obtain ⟨B1,d1,B2,d2,m12_,m13_,m14_,ha,Q_HBB,Q_HOO,Q_HC26,Q_HF,Q_X12_,Q_X13_,Q_X14_⟩:=hI_
     have e23:a.tmps[23]? = some (.int .u8 cb):=by rw [ha];exact putSel_on (e:=(9,23,.int .u8 cb)) 9 rfl rfl (hon 9 (by kernel_rfl)) rfl
     replace ha:=Ak ha
     have HBB:=Ak Q_HBB
     have HOO:=Ak (Q_HOO (hoff 13 (by kernel_rfl)))
     refine goes_ Tryz.func74 (by kernel_rfl) rfl #[.int .u8 cb] (by rfl) rfl rfl (by (simp only [List.map_toArray,List.map_cons,List.map_nil,Act.eval,Array.getD_eq_getD_getElem?,Option.getD_some,e23];done)) ?_
     with_reducible refine (digitC cb db HCB.out.1.1 HCB.out.1.2 HCB.out.2 _).mono ?_
     rintro e w3 ⟨rfl,hb_2⟩
     refine ⟨_,rfl,?_⟩
     refine hK.out _ _ ⟨B1,d1,B2,d2,m12_,m13_,m14_,(by rw [ha.out];exact putSel_upk 10 hb_ rfl rfl rfl),below_step HBB.out hb_2,fun _=>Kd.R_below HOO.out hb_2,fun h0_ _=>absurd ((hoff 12 (by kernel_rfl)).symm.trans h0_) (by decide),fun h0_=>absurd ((hoff 13 (by kernel_rfl)).symm.trans h0_) (by decide),fun h0_=>absurd ((hoff 12 (by kernel_rfl)).symm.trans h0_) (by decide),fun h0_=>absurd ((hoff 13 (by kernel_rfl)).symm.trans h0_) (by decide),fun h0_=>absurd ((hoff 14 (by kernel_rfl)).symm.trans h0_) (by decide)⟩
    refine steps_cons ?_ ?_
    ·intro b a w' hI_ hb_ hon hoff
     refine ⟨_,rfl,fun K hK=>?_⟩
     obtain ⟨B1,d1,B2,d2,m12_,m13_,m14_,ha,Q_HBB,Q_HOO,Q_HC26,Q_HF,Q_X12_,Q_X13_,Q_X14_⟩:=hI_
     have e19:a.tmps[19]? = some (.int .u8 (16 * da)):=by rw [ha];exact putSel_on (e:=(5,19,.int .u8 (16 * da))) 5 rfl rfl (hon 5 (by kernel_rfl)) rfl
     have e24:a.tmps[24]? = some (.int .u8 db):=by rw [ha];exact putSel_on (e:=(10,24,.int .u8 db)) 10 rfl rfl (hon 10 (by kernel_rfl)) rfl
     replace ha:=Ak ha
     have HBB:=Ak Q_HBB
     have HOO:=Ak (Q_HOO (hoff 13 (by kernel_rfl)))
     have hw25:=HW25.out
     refine value_ (w1:=w') (v:=.int .u8 (16 * da+db)) (by rfl) rfl ?_ ?_
     ·go_simp
      skip
     refine hK.out _ _ ⟨B1,d1,B2,d2,m12_,m13_,m14_,(by rw [ha.out];exact putSel_upk 11 hb_ rfl rfl rfl),Q_HBB,Q_HOO,fun h0_ _=>absurd ((hoff 12 (by kernel_rfl)).symm.trans h0_) (by decide),fun h0_=>absurd ((hoff 13 (by kernel_rfl)).symm.trans h0_) (by decide),fun h0_=>absurd ((hoff 12 (by kernel_rfl)).symm.trans h0_) (by decide),fun h0_=>absurd ((hoff 13 (by kernel_rfl)).symm.trans h0_) (by decide),fun h0_=>absurd ((hoff 14 (by kernel_rfl)).symm.trans h0_) (by decide)⟩
    refine steps_cons ?_ ?_
    ·intro b a w' hI_ hb_ hon hoff
     refine ⟨_,rfl,fun K hK=>?_⟩
     obtain ⟨B1,d1,B2,d2,m12_,m13_,m14_,ha,Q_HBB,Q_HOO,Q_HC26,Q_HF,Q_X12_,Q_X13_,Q_X14_⟩:=hI_
     have e25:a.tmps[25]? = some (.int .u8 (16 * da+db)):=by rw [ha];exact putSel_on (e:=(11,25,.int .u8 (16 * da+db))) 11 rfl rfl (hon 11 (by kernel_rfl)) rfl
     replace ha:=Ak ha
     have HBB:=Ak Q_HBB
     have HOO:=Ak (Q_HOO (hoff 13 (by kernel_rfl)))
     refine Kd.R_lit_step (Kd.int .u8) (w0:=w') w'.heap.size 5 (by rfl) (N:=26) ?hd (xs:=[16 * da+db]) (inner:=[.int .u8 (16 * da+db)]) (ok:=fun _=>True) (okp:=fun _=>True) ?hr ?hp (fun _ hk=>hk) trivial (Below.refl _ _) (Nat.le_refl _) (by simp) ?_
     case hd=>rfl
     case hr=>(go_simp;done)
     case hp=>exact Kd.reps_scalar [16 * da+db]
     intro v_ w3 ho_ hb_2 hg_ hat_
     obtain ⟨B_,c_,rfl,hc_,hC_⟩:=Kd.R_reads ho_
     refine hK.out _ _ ⟨B_,c_,B2,d2,(.slice B_ 1 c_),m13_,m14_,(by rw [ha.out];exact putSel_upk 12 hb_ rfl rfl rfl),below_step HBB.out hb_2,fun _=>Kd.R_below HOO.out hb_2,fun _ _=>hC_,fun h0_=>absurd ((hoff 13 (by kernel_rfl)).symm.trans h0_) (by decide),fun _=>rfl,fun h0_=>absurd ((hoff 13 (by kernel_rfl)).symm.trans h0_) (by decide),fun h0_=>absurd ((hoff 14 (by kernel_rfl)).symm.trans h0_) (by decide)⟩
    refine steps_cons ?_ ?_
    ·intro b a w' hI_ hb_ hon hoff
     refine ⟨_,rfl,fun K hK=>?_⟩
     obtain ⟨B1,d1,B2,d2,m12_,m13_,m14_,ha,Q_HBB,Q_HOO,Q_HC26,Q_HF,Q_X12_,Q_X13_,Q_X14_⟩:=hI_
     have e14:a.tmps[14]? = some (.slice A4 acc.length c4):=by rw [ha];exact putSel_on (e:=(0,14,.slice A4 acc.length c4)) 0 rfl rfl (hon 0 (by kernel_rfl)) rfl
     have e26:a.tmps[26]? = some (m12_):=by rw [ha];exact putSel_on (e:=(12,26,m12_)) 12 rfl rfl (hon 12 (by kernel_rfl)) rfl
     rw [Q_X12_ (hon 12 (by kernel_rfl))] at e26
     replace ha:=Ak ha
     have HBB:=Ak Q_HBB
     have HOO:=Ak (Q_HOO hb_)
     have HC26:=Ak (Q_HC26 (hon 12 (by kernel_rfl)) hb_)
     refine Kd.R_append_rows_step (Kd.int .u8) (w0:=wz) wz.heap.size (by rfl) (.tmp 14) (.tmp 26) 23 5 (.int .u8 0) 1 rfl Tryz.underlying23 info_u8 rfl (by decide) (by omega) (.slice A4 acc.length c4) acc [16 * da+db] _ _ _ (fun _=>True) (fun _=>False) (eval_of e14) (eval_of e26) HOO.out HC26.out (fun _ _ h=>h) (fun _ h=>h.elim) (fun _ _=>trivial) HBB.out HBB.out.size (by have:=HP.out.2;omega) ?_
     intro v_ w3 ho_ hb_2 hg_ hat_
     obtain ⟨A_,c_,rfl⟩:=Kd.R_slice ho_
     refine hK.out _ _ ⟨B1,d1,A_,c_,m12_,(.slice A_ (acc++[16 * da+db]).length c_),m14_,(by rw [ha.out];exact putSel_upk 13 hb_ rfl rfl rfl),hb_2,fun h0_=>absurd ((up_self b 13).symm.trans h0_) (by decide),fun _ h1_=>absurd ((up_self b 13).symm.trans h1_) (by decide),fun _=>ho_,Q_X12_,fun _=>rfl,fun h0_=>absurd ((hoff 14 (by kernel_rfl)).symm.trans h0_) (by decide)⟩
    refine steps_cons ?_ ?_
    ·intro b a w' hI_ hb_ hon hoff
     refine ⟨_,rfl,fun K hK=>?_⟩
     obtain ⟨B1,d1,B2,d2,m12_,m13_,m14_,ha,Q_HBB,Q_HOO,Q_HC26,Q_HF,Q_X12_,Q_X13_,Q_X14_⟩:=hI_
     have e27:a.tmps[27]? = some (m13_):=by rw [ha];exact putSel_on (e:=(13,27,m13_)) 13 rfl rfl (hon 13 (by kernel_rfl)) rfl
     rw [Q_X13_ (hon 13 (by kernel_rfl))] at e27
     replace ha:=Ak ha
     have HBB:=Ak Q_HBB
     have HF:=Ak (Q_HF (hon 13 (by kernel_rfl)))
     refine value_ (w1:=w') (v:=.slice B2 (acc++[16 * da+db]).length d2) (by rfl) rfl ?_ ?_
     ·go_simp
      skip
     refine hK.out _ _ ⟨B1,d1,B2,d2,m12_,m13_,(.slice B2 (acc++[16 * da+db]).length d2),(by rw [ha.out];exact putSel_upk 14 hb_ rfl rfl rfl),Q_HBB,fun h0_=>absurd ((hon 13 (by kernel_rfl)).symm.trans h0_) (by decide),fun _ h1_=>absurd ((hon 13 (by kernel_rfl)).symm.trans h1_) (by decide),Q_HF,Q_X12_,Q_X13_,fun _=>rfl⟩
    exact steps_nil
   rintro b a wy hall ⟨B1,d1,B2,d2,m12_,m13_,m14_,ha,Q_HBB,Q_HOO,Q_HC26,Q_HF,Q_X12_,Q_X13_,Q_X14_⟩
   clear HBB HOO
   have hb0_:=hall 0 (by kernel_rfl)
   have hb1_:=hall 1 (by kernel_rfl)
   have hb2_:=hall 2 (by kernel_rfl)
   have hb3_:=hall 3 (by kernel_rfl)
   have hb4_:=hall 4 (by kernel_rfl)
   have hb5_:=hall 5 (by kernel_rfl)
   have hb6_:=hall 6 (by kernel_rfl)
   have hb7_:=hall 7 (by kernel_rfl)
   have hb8_:=hall 8 (by kernel_rfl)
   have hb9_:=hall 9 (by kernel_rfl)
   have hb10_:=hall 10 (by kernel_rfl)
   have hb11_:=hall 11 (by kernel_rfl)
   have hb12_:=hall 12 (by kernel_rfl)
   have hb13_:=hall 13 (by kernel_rfl)
   have hb14_:=hall 14 (by kernel_rfl)
   subst ha
   obtain rfl:=Q_X12_ hb12_
   obtain rfl:=Q_X13_ hb13_
   obtain rfl:=Q_X14_ hb14_
   simp only [putSel,hb0_,hb1_,hb2_,hb3_,hb4_,hb5_,hb6_,hb7_,hb8_,hb9_,hb10_,hb11_,hb12_,hb13_,hb14_,if_true,Act.put,List.setIfInBounds_toArray,List.set_cons_zero,List.set_cons_succ]
   have HBB:=Ak Q_HBB
   clear Q_HBB
   clear Q_HOO
   clear Q_HC26
   have HF:=Ak (Q_HF hb13_)
   clear Q_HF
   clear hall hb0_ hb1_ hb2_ hb3_ hb4_ hb5_ hb6_ hb7_ hb8_ hb9_ hb10_ hb11_ hb12_ hb13_ hb14_
   go_wp2_with fail
   go_roundg (s.size+2 - (i+2))
   case measure=>have:=HE.out;omega
   case rel=>exact ⟨i+2,acc++[16 * da+db],by go_num,⟨by omega⟩,⟨by omega⟩,⟨by rw [HP.out.1,HX.out,List.append_assoc];rfl,by have:=HP.out.2;rw [List.length_append,List.length_singleton];omega⟩,⟨by have h:=HF.out;rw [List.length_append,List.length_singleton] at h;exact h⟩,⟨HBB.out⟩⟩
  ·have hb1:decide ((i:Int)+1 < (s.size:Int))=false:=decide_eq_false (by omega)
   have hpe:=HP.out.1
   rw [drop_end (bytesOf s) i (by omega),List.append_nil] at hpe
   have hpb:=pair_bytes (bytesOf s)
   rw [hpe] at hpb
   have hal:=HP.out.2
   have HRC:=Ak (Kd.R_reads' HO.out)
   have HQ:=HH.out
   rw [hpe] at HQ
   have HR:=Ak HQ
   have HPB:=Ak hpb
   clear HQ hpe hpb HP HE HH
   go_wp2_with fail
   refine (digits_calls22 A4 c4 acc _ (by exact HRC.out.2.2) HRC.out.2.1 HPB.out (by omega)).mono ?_
   rintro e wd ⟨rfl,hb⟩
   have HBD:=Ak (below_step HB.out hb)
   have HCD:=Ak (Kd.C_below HRC.out.2.2 hb)
   have HSE:=Ak (str_beq (hexL_bytes HPB.out) (bytesOf_isBytes s))
   rw [strOfNums_bytesOf] at HSE
   clear hb
   by_cases heq:hexL acc=bytesOf s
   ·have hq1:((strOfNums (hexL acc)).toList == s.toList)=true:=HSE.out.trans (decide_eq_true heq)
    have hq2:((strOfNums (hexL acc)).toList != s.toList)=false:=by rw [bne,hq1];rfl
    have HR2:=Ak (by have h:=HR.out;rw [if_pos heq] at h;exact h)
    clear HR heq HSE
    go_wp2_with fail
    refine (refTake_calls22 A4 c4 acc wd HCD.out HRC.out.2.1 HPB.out (by omega) r re HR2.out).mono ?_
    rintro e we ⟨v7,v8,v9,rfl,h7,h8,h9,hb⟩
    obtain ⟨A7,c7,rfl⟩:=Kd.R_slice h7
    obtain ⟨A8,c8,rfl⟩:=Kd.R_slice h8
    obtain ⟨A9,c9,rfl⟩:=Kd.S_slice h9
    have HG:=Ak (show w.heap.size≤wz.heap.size∧wz.heap.size≤wd.heap.size from ⟨HZB.out.size,HBD.out.size⟩)
    have H7:=Ak h7
    have H8:=Ak h8
    have H9:=Ak h9
    have HBE:=Ak (below_step HBD.out hb)
    have HBW:=Ak (below_then HZB.out HZB.out.size HBE.out)
    have HZE:=Ak (blk_below HZ.out HBE.out)
    clear h7 h8 h9 hb HBE HBD HCD HRC
    obtain ⟨hz0,hz1,hz2,hz3,hz4,hz5,hz6,hz7,hz8,hz9⟩:=cl10 HZE.out;obtain ⟨hf0,hf1,hf2,hf3,hf4,hf5,hf6,hf7,hf8,hf9⟩:=fr10 HZE.out
    go_wp2_with fail
    have HE9:=(bp10 HZE.out (.int .i64 r.f0) (.int .i64 r.f1) (.int .i64 r.f2) (.int .i64 r.f3) (.string r.f4) (.string r.f5.f0) (.string r.f5.f1) (.slice A7 r.f5.f2.length c7) (.slice A8 r.f5.f3.length c8) (.slice A9 r.f6.f0.length c9))
    refine bodyPost_ret (results_ct rfl _ _ Z 34 _ (0,0) _ rfl HE9 Tryz.underlying34 rfl (by kernel_rfl)) rfl ?_
    have HKB:=(kb10 we Z (.int .i64 r.f0) (.int .i64 r.f1) (.int .i64 r.f2) (.int .i64 r.f3) (.string r.f4) (.string r.f5.f0) (.string r.f5.f1) (.slice A7 r.f5.f2.length c7) (.slice A8 r.f5.f3.length c8) (.slice A9 r.f6.f0.length c9))
    exact ⟨_,_,_,rfl,R_turnT (Kd.R_lower H7.out (Nat.le_trans HG.out.1 HG.out.2)) HZE.out (by decide) HKB,R_turnT (Kd.R_lower H8.out (Nat.le_trans HG.out.1 HG.out.2)) HZE.out (by decide) HKB,S_turnT (Kd.S_lower H9.out (Nat.le_trans HG.out.1 HG.out.2)) HZE.out (by decide) HKB,(bb10 HBW.out (Nat.le_of_eq HZN.out.symm) (.int .i64 r.f0) (.int .i64 r.f1) (.int .i64 r.f2) (.int .i64 r.f3) (.string r.f4) (.string r.f5.f0) (.string r.f5.f1) (.slice A7 r.f5.f2.length c7) (.slice A8 r.f5.f3.length c8) (.slice A9 r.f6.f0.length c9))⟩
   ·have hq1:((strOfNums (hexL acc)).toList == s.toList)=false:=HSE.out.trans (decide_eq_false heq)
    have hq2:((strOfNums (hexL acc)).toList != s.toList)=true:=by rw [bne,hq1];rfl
    have HR2:=Ak (by have h:=HR.out;rw [if_neg heq] at h;exact h)
    have HBW:=Ak (below_then HZB.out HZB.out.size HBD.out)
    have HZE:=Ak (blk_below HZ.out HBD.out)
    clear HR heq HSE HCD HRC HBD
    obtain ⟨hz0,hz1,hz2,hz3,hz4,hz5,hz6,hz7,hz8,hz9⟩:=cl10 HZE.out;obtain ⟨hf0,hf1,hf2,hf3,hf4,hf5,hf6,hf7,hf8,hf9⟩:=fr10 HZE.out
    go_wp2_with fail
    have HE9:=(bp10 HZE.out (.int .i64 0) (.int .i64 0) (.int .i64 0) (.int .i64 0) (.string ⟨#[]⟩) (.string ⟨#[]⟩) (.string ⟨#[]⟩) (.slice none 0 0) (.slice none 0 0) (.slice none 0 0))
    refine bodyPost_ret (results_ct rfl _ _ Z 34 _ (0,0) _ rfl HE9 Tryz.underlying34 rfl (by kernel_rfl)) rfl ?_
    obtain ⟨rfl,rfl⟩:=Prod.mk.inj HR2.out
    exact ⟨.slice none 0 0,.slice none 0 0,.slice none 0 0,rfl,Kd.R_nil _ _ _ _ _,Kd.R_nil _ _ _ _ _,Kd.S_nil _ _ _ _ _,(bb10 HBW.out (Nat.le_of_eq HZN.out.symm) (.int .i64 0) (.int .i64 0) (.int .i64 0) (.int .i64 0) (.string ⟨#[]⟩) (.string ⟨#[]⟩) (.string ⟨#[]⟩) (.slice none 0 0) (.slice none 0 0) (.slice none 0 0))⟩
set_option maxRecDepth 100000 in
set_option maxHeartbeats 8000000 in
theorem refParse_calls22 (s:ByteArray) (w:World) (hz:s.size≤100000) (r:List S34) (k re:Int) (h:parseS (bytesOf s)=(r,k,re)) :
  Calls Tryz.prog 15 #[.string s] w fun e w'=>∃ v,e = .returned (.tuple #[v,.int .i64 k,.int .i64 re])∧Kd.N k34 34 w' w.heap.size (fun k=>w.heap.size≤k) v r∧Below w.heap.size w w':=by
 have hbl:=bytes_length s
 have HH:=Ak h
 clear h
 have hu34:=Tryz.underlying34
 go_enter Tryz.func15,Tryz.ntmps15
 go_wp2_with fail
 go_loopg [5,6] s.size (fun gk v5 v6 w'=>∃ i n:Nat,v5 = .int .i64 (n:Int)∧v6 = .int .i64 (i:Int)∧Aside0 (i+gk=s.size)∧Aside0 (n=((bytesOf s).take i).count 10∧n≤i)∧Aside0 (Below w.heap.size w w'))
 case atStart=>exact ⟨0,0,rfl,rfl,⟨by omega⟩,⟨rfl,Nat.le_refl _⟩,⟨by repeat (exact Below.refl _ _)⟩⟩
 case round=>
  obtain ⟨i,n,rfl,rfl,HE,HN,HB⟩:=hrel
  have hi2:i≤100000:=by have:=HE.out;omega
  have hn2:n≤100000:=by have:=HN.out.2;omega
  by_cases hlt:i < s.size
  ·have hb1:decide ((i:Int) < (s.size:Int))=true:=decide_eq_true (by omega)
   have hb1n:decide (i < s.size)=true:=decide_eq_true hlt
   obtain ⟨ca,hca⟩:∃ c,c=(bytesOf s).getD i 0:=⟨_,rfl⟩
   have hx17:∀ h:i < s.size,((s[i]'h).toNat:Int)=ca:=fun h=>(bt_at s (i:Int) h).trans ((bt_getD s i h).trans hca.symm)
   have p17:(0≤(i:Int))=True:=eq_true (by omega)
   have q17:((i:Int) < (s.size:Int))=True:=eq_true (by omega)
   have hcm:=count_more (bytesOf s) i (by omega)
   rw [←hca] at hcm
   by_cases h10:ca=10
   ·have e1:(ca == 10)=true:=beq_iff_eq.mpr h10
    rw [if_pos h10] at hcm
    have HCM:=Ak hcm
    clear h10 hca hcm
    go_wp2_with fail
    go_roundg (s.size - (i+1))
    case measure=>have:=HE.out;omega
    case rel=>exact ⟨i+1,n+1,by go_num,by go_num,⟨by omega⟩,⟨by rw [HCM.out,HN.out.1],by have:=HN.out.2;omega⟩,⟨HB.out⟩⟩
   ·have e1:(ca == 10)=false:=beq_eq_false_iff_ne.mpr h10
    rw [if_neg h10] at hcm
    have HCM:=Ak hcm
    clear h10 hca hcm
    go_wp2_with fail
    go_roundg (s.size - (i+1))
    case measure=>have:=HE.out;omega
    case rel=>exact ⟨i+1,n,rfl,by go_num,⟨by omega⟩,⟨by rw [HCM.out,HN.out.1];rfl,by have:=HN.out.2;omega⟩,⟨HB.out⟩⟩
  ·have hb1:decide ((i:Int) < (s.size:Int))=false:=decide_eq_false (by omega)
   have hb1n:decide (i < s.size)=false:=decide_eq_false hlt
   have hnc:n=(bytesOf s).count 10:=by
    have h1:=HN.out.1
    rw [List.take_of_length_le (by omega)] at h1
    exact h1
   have hq:=HH.out
   unfold parseS at hq
   rw [hbl,←hnc] at hq
   by_cases hlong:65536 < s.size
   ·have hd1:decide (65536 < (s.size:Int))=true:=decide_eq_true (by omega)
    rw [if_pos (.inl hlong)] at hq
    simp only [Prod.mk.injEq] at hq
    obtain ⟨rfl,rfl,rfl⟩:=hq
    clear HH hlong hbl hnc HN HE
    go_wp2
    go_ret3
    exact ⟨_,rfl,Kd.N_nil _ _ _ _ _,HB.out⟩
   have hd1:decide (65536 < (s.size:Int))=false:=decide_eq_false (by omega)
   by_cases hmany:2048 < n
   ·have hd2:decide (2048 < (n:Int))=true:=decide_eq_true (by omega)
    rw [if_pos (.inr hmany)] at hq
    simp only [Prod.mk.injEq] at hq
    obtain ⟨rfl,rfl,rfl⟩:=hq
    clear HH hlong hbl hnc HN HE hmany
    go_wp2
    go_ret3
    exact ⟨_,rfl,Kd.N_nil _ _ _ _ _,HB.out⟩
   have hd2:decide (2048 < (n:Int))=false:=decide_eq_false (by omega)
   rw [if_neg (by omega)] at hq
   have HP0:=Ak (show ∃ m,(bytesOf s).length - 0 < m∧parseF m ((bytesOf s).drop 0) []=(r,k,re) from ⟨_,by omega,hq⟩)
   clear hq hlong hmany hnc HN HE HH hi2 hn2 hlt
   go_wp2_with (((with_reducible refine gate_dst (N:=31) rfl ?_);refine Kd.N_lit k34 (w0:=w) w.heap.size 34 ?hg (N':=31) ?hd (xs:=[]) (inner:=[]) (ok:=fun k=>w.heap.size≤k) (okp:=fun _=>False) ?hr ?hp (fun _ hk=>hk.elim) ?hf ?hB ?hS (by simp) ?_;(case hd=>rfl);(case hg=>rfl);(case hr=>(go_simp;done));(case hp=>exact (Reps.none _ _));(case hf=>exact (below_size HB.out));(case hB=>exact HB.out);(case hS=>exact (below_size HB.out));intro v31 w31 ho hb hg hat;have HN31:=Ak ho;have HB31:=Ak hb;clear ho hb hg hat))
   go_loopg [7,8,9] s.size (fun gk v7 v8 v9 w'=>∃ (a i:Nat) (acc:List S34),v8 = .int .i64 (a:Int)∧v9 = .int .i64 (i:Int)∧Aside0 (i+gk=s.size∧a≤i∧acc.length≤i)∧Aside0 ((10:Int) ∉ ((bytesOf s).drop a).take (i - a))∧Aside0 (∃ m,(bytesOf s).length - a < m∧parseF m ((bytesOf s).drop a) acc=(r,k,re))∧Aside0 (Kd.N k34 34 w' w.heap.size (fun k=>w.heap.size≤k) v7 acc)∧Aside0 (Below w.heap.size w w'))
   case atStart=>exact ⟨0,0,[],rfl,rfl,⟨by omega,Nat.le_refl _,Nat.le_refl _⟩,⟨by simp⟩,HP0,by exact HN31,by exact HB31⟩
   case round=>
    clear HN31 HB31 HP0 HB
    obtain ⟨a,i,acc,rfl,rfl,HE,HNO,HP,HN,HB⟩:=hrel
    have hi2:i≤100000:=by have:=HE.out;omega
    have hai:a≤i:=HE.out.2.1
    obtain ⟨A7,c7,e7⟩:=Kd.N_slice HN.out
    subst e7
    by_cases hlt:i < s.size
    ·have hb1:decide ((i:Int) < (s.size:Int))=true:=decide_eq_true (by omega)
     have hb1n:decide (i < s.size)=true:=decide_eq_true hlt
     obtain ⟨ca,hca⟩:∃ c,c=(bytesOf s).getD i 0:=⟨_,rfl⟩
     have hx17:∀ h:i < s.size,((s[i]'h).toNat:Int)=ca:=fun h=>(bt_at s (i:Int) h).trans ((bt_getD s i h).trans hca.symm)
     have p17:(0≤(i:Int))=True:=eq_true (by omega)
     have q17:((i:Int) < (s.size:Int))=True:=eq_true (by omega)
     by_cases h10:ca=10
     ·have e1:(ca != 10)=false:=by rw [h10];rfl
      obtain ⟨m0,hm0,hf0⟩:=HP.out
      have hst:=scan_line hai (by omega) HNO.out (hca.symm.trans h10) hm0 hf0
      obtain ⟨u,hu⟩:∃ u,u=s.extract a i:=⟨_,rfl⟩
      have hub:bytesOf u=((bytesOf s).drop a).take (i - a):=by rw [hu,bytes_extract]
      have hsu:u.size≤100000:=by rw [←bytes_length,hub,List.length_take];omega
      rw [←hub] at hst
      obtain ⟨⟨t,te⟩,hln⟩:∃ q,lineS (bytesOf u)=q:=⟨_,rfl⟩
      have HLC:=Ak (fun W=>refLine_calls22 u W hsu t te hln)
      rw [hln] at hst
      have HST:=Ak hst
      have hcut:∀ W:World,(Instr.slice 9 (.string s) (some (.int .i64 (a:Int))) (some (.int .i64 (i:Int))) none).run Tryz.prog W = .ok (.string u) W:=fun W=>by
       rw [hu]
       exact run_slice_string (P:=Tryz.prog) W 9 s .i64 .i64 (a:Int) (i:Int) Tryz.underlying9 (by omega) (by omega) (by omega)
      clear hst hln hub hsu hf0 hm0 h10 hca hu
      go_wp2_with fail
      refine (HLC.out _).mono ?_
      rintro e w3 ⟨v7,v8,v9,rfl,h7,h8,h9,hb⟩
      obtain ⟨B7,d7,rfl⟩:=Kd.R_slice h7
      obtain ⟨B8,d8,rfl⟩:=Kd.R_slice h8
      obtain ⟨B9,d9,rfl⟩:=Kd.S_slice h9
      have H7:=Ak h7
      have H8:=Ak h8
      have H9:=Ak h9
      have HB3:=Ak hb
      clear h7 h8 h9 hb HLC
      go_upto_region 16 with (((with_reducible refine gate_dst (N:=10) rfl ?_);(try (refine gate_guard (by rfl) ?_;dsimp only));refine box_event ?hg (N:=10) ?hd (cs:=#[.int .i64 0,.int .i64 0,.int .i64 0,.int .i64 0,.string ⟨#[]⟩,.string ⟨#[]⟩,.string ⟨#[]⟩,.slice none 0 0,.slice none 0 0,.slice none 0 0]) (t:=34) ?hr ?_;(case hd=>rfl);(case hg=>rfl);(case hr=>(go_simp;done));intro X hg_ w4 hbox_ hb_;have HX:=Ak hbox_;have HXN:=Ak hg_;have HXB:=Ak hb_;clear hbox_ hg_ hb_;obtain ⟨hc0,hc1,hc2,hc3,hc4,hc5,hc6,hc7,hc8,hc9⟩:=cl10 HX.out;obtain ⟨hf0,hf1,hf2,hf3,hf4,hf5,hf6,hf7,hf8,hf9⟩:=fr10 HX.out))
      have HP5:=Ak (bp10 HX.out (.int .i64 t.f0) (.int .i64 t.f1) (.int .i64 t.f2) (.int .i64 t.f3) (.string t.f4) (.string t.f5.f0) (.string t.f5.f1) (.slice B7 t.f5.f2.length d7) (.slice B8 t.f5.f3.length d8) (.slice B9 t.f6.f0.length d9))
      have HB5:=Ak (bb10 HXB.out (Nat.le_of_eq HXN.out.symm) (.int .i64 t.f0) (.int .i64 t.f1) (.int .i64 t.f2) (.int .i64 t.f3) (.string t.f4) (.string t.f5.f0) (.string t.f5.f1) (.slice B7 t.f5.f2.length d7) (.slice B8 t.f5.f3.length d8) (.slice B9 t.f6.f0.length d9))
      clear HX HXB HXN hc0 hf0 hc1 hf1 hc2 hf2 hc3 hf3 hc4 hf4 hc5 hf5 hc6 hf6 hc7 hf7 hc8 hf8 hc9 hf9
      generalize ((((((((((w4.setCell ⟨X,0,none⟩ (.int .i64 t.f0)).setCell ⟨X,1,none⟩ (.int .i64 t.f1)).setCell ⟨X,2,none⟩ (.int .i64 t.f2)).setCell ⟨X,3,none⟩ (.int .i64 t.f3)).setCell ⟨X,4,none⟩ (.string t.f4)).setCell ⟨X,5,none⟩ (.string t.f5.f0)).setCell ⟨X,6,none⟩ (.string t.f5.f1)).setCell ⟨X,7,none⟩ (.slice B7 t.f5.f2.length d7)).setCell ⟨X,8,none⟩ (.slice B8 t.f5.f3.length d8)).setCell ⟨X,9,none⟩ (.slice B9 t.f6.f0.length d9))=w5 at *
      have HBR5:=Ak (show Below wr.heap.size wr w5 from HB3.out.trans (HB5.out.mono HB3.out.size))
      have HBW5:=Ak (below_then HB.out HB.out.size HBR5.out)
      obtain ⟨m,hm,hf⟩:=HST.out
      have hal:(acc.length:Int)+1≤1000000:=by have:=HE.out.2.2;omega
      by_cases hte:te≠0
      ·have e2:(te != 0)=true:=bne_iff_ne.mpr hte
       rw [if_pos hte] at hf
       simp only [Prod.mk.injEq] at hf
       obtain ⟨rfl,rfl,rfl⟩:=hf
       clear hte hm HST HP HE
       go_wp2_with fail
       go_ret3
       exact ⟨_,rfl,Kd.N_nil _ _ _ _ _,HBW5.out⟩
      ·rw [if_neg hte] at hf
       have HF:=Ak (show ∃ m,(bytesOf s).length - (i+1) < m∧parseF m ((bytesOf s).drop (i+1)) (acc++[t])=(r,k,re) from ⟨m,hm,hf⟩)
       have hte:=Classical.not_not.1 hte
       subst hte
       have HAL:=Ak (show acc.length≤100000 by have:=HE.out.2.2;omega)
       clear hf hm HST
       have HN5:=Ak (Kd.N_below HN.out HBR5.out)
       have HFK:Aside0 (Kd.FK k34 w5 (fun k=>wr.heap.size≤k) t [.int .i64 t.f0,.int .i64 t.f1,.int .i64 t.f2,.int .i64 t.f3,.string t.f4,.string t.f5.f0,.string t.f5.f1,.slice B7 t.f5.f2.length d7,.slice B8 t.f5.f3.length d8,.slice B9 t.f6.f0.length d9]):=⟨Kd.FK_of_M (k34_mkM w5 wr.heap.size (fun k=>wr.heap.size≤k) t (Kd.R_mono (Kd.R_bound (Kd.R_below H7.out HB5.out)) (fun k hk=>hk.2.1)) (Kd.R_mono (Kd.R_bound (Kd.R_below H8.out HB5.out)) (fun k hk=>hk.2.1)) (Kd.R_mono (Kd.R_bound (Kd.R_below (Kd.S_R H9.out) HB5.out)) (fun k hk=>hk.2.1)))⟩
       have HLT:=Ak (fun k hk=>Kd.N_lt HN.out k hk)
       have HSW:=Ak (show w.heap.size≤wr.heap.size from HB.out.size)
       have HKO:Aside0 (∀ k,wr.heap.size≤k→w.heap.size≤k∧some k≠(Value.slice A7 acc.length c7).ownBlock):=⟨fun k hk=>⟨Nat.le_trans HSW.out hk,fun e_=>by have:=HLT.out k e_.symm;omega⟩⟩
       have HSZ:=Ak (HBW5.out.size)
       obtain ⟨hx0,hx1,hx2,hx3,hx4,hx5,hx6,hx7,hx8,hx9⟩:=cl10 HP5.out
       clear HN HLT HBR5 HB3 HB5 H7 H8 H9 HP HNO
       go_wp2_with (((with_reducible refine gate_builtin (b:=.append) (xs:=#[.tmp 55,.tmp 57]) rfl ?_);at_builtin;refine Kd.N_append k34 (w0:=w) w.heap.size rfl (.tmp 55) (.tmp 57) 22 34 (.agg #[.int .i64 0,.int .i64 0,.int .i64 0,.int .i64 0,.string ⟨#[]⟩,.string ⟨#[]⟩,.string ⟨#[]⟩,.slice none 0 0,.slice none 0 0,.slice none 0 0]) 152 rfl Tryz.underlying22 info_step rfl (by decide) (by decide) (.slice A7 acc.length c7) acc t [.int .i64 t.f0,.int .i64 t.f1,.int .i64 t.f2,.int .i64 t.f3,.string t.f4,.string t.f5.f0,.string t.f5.f1,.slice B7 t.f5.f2.length d7,.slice B8 t.f5.f3.length d8,.slice B9 t.f6.f0.length d9] (fun k=>w.heap.size≤k) (fun k=>wr.heap.size≤k) rfl rfl HFK.out HKO.out (fun _ hk=>Nat.le_trans HSZ.out hk) HN5.out HBW5.out HSZ.out (by have:=HAL.out;omega) ?_;intro v6_ w6_ ho hb hg hat;have HN6:=Ak ho;have HB6:=Ak hb;clear ho hb hg hat))
       go_roundg (s.size - (i+1))
       case measure=>have:=HE.out.1;omega
       case rel=>exact ⟨i+1,i+1,acc++[t],by go_num,by go_num,⟨by have:=HE.out.1;omega,Nat.le_refl _,by have:=HE.out.2.2;rw [List.length_append,List.length_singleton];omega⟩,⟨by rw [Nat.sub_self];simp⟩,HF,by exact HN6,by exact HB6⟩
     ·have e1:(ca != 10)=true:=bne_iff_ne.mpr h10
      have HNO2:=Ak (scan_more hai (by omega) HNO.out (fun h=>h10 (hca.trans h)))
      clear h10 hca
      go_wp2_with fail
      go_roundg (s.size - (i+1))
      case measure=>have:=HE.out;omega
      case rel=>exact ⟨a,i+1,acc,rfl,by go_num,⟨by have:=HE.out;omega,by omega,by have:=HE.out;omega⟩,HNO2,HP,by exact HN,by exact HB⟩
    ·have hb1:decide ((i:Int) < (s.size:Int))=false:=decide_eq_false (by omega)
     have hb1n:decide (i < s.size)=false:=decide_eq_false hlt
     have hisz:i≤s.size:=by have:=HE.out.1;omega
     obtain ⟨m0,hm0,hf0⟩:=HP.out
     have hse:=scan_end (by omega) (by have h1:=HNO.out;rw [List.take_of_length_le (by rw [List.length_drop];omega)] at h1;exact h1) hm0 hf0
     have hal:(acc.length:Int)+1≤1000000:=by have:=HE.out.2.2;omega
     by_cases haz:a=s.size
     ·rw [if_pos (by omega)] at hse
      simp only [Prod.mk.injEq] at hse
      obtain ⟨rfl,rfl,rfl⟩:=hse
      have e1:((a:Int) != (s.size:Int))=false:=by rw [haz];simp
      clear hf0 hm0 HP HE
      go_wp2_with fail
      go_ret3
      exact ⟨_,rfl,by exact HN.out,HB.out⟩
     ·rw [if_neg (by omega)] at hse
      simp only [Prod.mk.injEq] at hse
      obtain ⟨rfl,rfl,rfl⟩:=hse
      have e1:((a:Int) != (s.size:Int))=true:=bne_iff_ne.mpr (by omega)
      clear hf0 hm0 HP HE
      go_wp2_with fail
      go_ret3
      exact ⟨_,rfl,Kd.N_nil _ _ _ _ _,HB.out⟩
theorem okS_lens2 {t:S34} (h:OkS t):LenS t:=by
 have hv:t.f5.f2.length≤1000000∧t.f5.f3.length≤1000000:=by
  by_cases h0:noV t.f5=true
  ·rw [(noV_iff t.f5).1 h0];exact ⟨Nat.zero_le _,Nat.zero_le _⟩
  ·have he:=mayV_ok h.hv h0
   exact ⟨Nat.le_trans he.ht6 (by decide),Nat.le_trans he.hf4 (by decide)⟩
 by_cases h0:t.f6.f0.length=0
 ·have e:=List.eq_nil_of_length_eq_zero h0
  exact ⟨hv.1,hv.2,by rw [h0];exact Nat.zero_le _,by rw [e];rfl⟩
 ·have hq:=mayW_ok h.hq h0
  refine ⟨hv.1,hv.2,Nat.le_trans hq.h4 (by decide),List.all_eq_true.2 fun x hx=>?_⟩
  have h1:=(hq.hc x hx).h0
  have h2:=(hq.hc x hx).h1
  unfold lenC
  rw [Bool.and_eq_true,decide_eq_true_iff,decide_eq_true_iff];omega
theorem parseS_lens (s:ByteArray) {m:List S34} {k re:Int} (h:parseS (bytesOf s)=(m,k,re)):∀ t ∈ m,LenS t:=by
 by_cases hs:s.size≤65536
 ·rcases parseS_sound s hs with ⟨m',hm,-,hok,-⟩ | ⟨k',re',-,hm⟩
  ·rw [hm] at h
   simp only [Prod.mk.injEq] at h
   rw [←h.1]
   exact fun t ht=>okS_lens2 (hok t ht)
  ·rw [hm] at h
   simp only [Prod.mk.injEq] at h
   rw [←h.1]
   exact fun t ht=>by cases ht
 ·unfold parseS at h
  rw [if_pos (.inl (by rw [bytes_length];omega))] at h
  simp only [Prod.mk.injEq] at h
  rw [←h.1]
  exact fun t ht=>by cases ht
set_option maxRecDepth 100000 in
set_option maxHeartbeats 8000000 in
theorem scriptParses_walk (s:ByteArray) (w:World) (hs:s.size≤9223372036854775807) :
  Calls Tryz.prog 4 #[.string s] w fun e w'=>e = .returned (.bool true)∧Below w.heap.size w w':=by
 go_enter Tryz.func4,Tryz.ntmps4
 go_wp2_with fail
 refine (shown_calls22 w).mono ?_
 rintro e w1 ⟨rfl,hb⟩
 have HB1:=Ak hb
 clear hb
 go_upto_if 14 with (fail)
 obtain ⟨t,ht⟩:∃ t,t=s.extract 0 (min 66000 s.size):=⟨_,rfl⟩
 have hsz_t:t.size≤66000:=by rw [ht,ByteArray.size_extract];omega
 go_cut [0] (fun vc wc=>vc = .string t∧w1=wc)
 case first=>
  by_cases hb_:66000 < s.size
  ·rw [Nat.min_eq_left (by omega)] at ht
   have HT:=Ak ht
   clear ht
   go_wp2
   go_meet
   case rel=>exact ⟨by rw [HT.out],rfl⟩
  ·rw [Nat.min_eq_right (by omega),ByteArray.extract_zero_size] at ht
   subst ht
   go_wp2
   go_meet
   case rel=>exact ⟨rfl,rfl⟩
 case rest=>
 obtain ⟨rfl,rfl⟩:=hcut
 clear ht
 obtain ⟨⟨m,k,re⟩,hp⟩:∃ q,parseS (bytesOf t)=q:=⟨_,rfl⟩
 have HP:=Ak hp
 have HLN:=Ak (parseS_lens t hp)
 clear hp
 go_wp2_with fail
 refine (parse_calls22 t w1 m k re HP.out).mono ?_
 rintro e w2 ⟨v,rfl,hN,hb⟩
 obtain ⟨A2,c2,e_,hc2,hC2⟩:=Kd.N_reads hN
 subst e_
 have HN2:=Ak (And.intro hc2 hC2)
 have HB2:=Ak (below_step HB1.out hb)
 clear hN hb hc2 hC2
 go_wp2_with fail
 refine (refParse_calls22 t w2 (by omega) m k re HP.out).mono ?_
 rintro e w3 ⟨v,rfl,hN,hb⟩
 obtain ⟨A3,c3,e_,hc3,hC3⟩:=Kd.N_reads hN
 subst e_
 have HN3:=Ak (And.intro hc3 hC3)
 have HB3:=Ak (below_step HB2.out hb)
 have HC2:=Ak (Kd.C_below HN2.out.2 hb)
 clear hN hb hc3 hC3
 go_wp2_with fail
 refine (same_calls22 A2 c2 m A3 c3 m w3 HC2.out HN2.out.1 HN3.out.2 HN3.out.1 HLN.out true (eqT_self m)).mono ?_
 rintro e w4 ⟨rfl,hb⟩
 have HB4:=Ak (below_step HB3.out hb)
 have hse1:(k == k)=true:=by simp
 have hse2:(re == re)=true:=by simp
 clear hb
 go_wp2
 go_ret
 exact ⟨rfl,HB4.out⟩
theorem scriptParses_law (s:ByteArray) (w:World) (hs:s.size≤140737488351232) :
  Calls Tryz.prog 4 #[.string s] w fun e w'=>e = .returned (.bool true)∧Below w.heap.size w w':=
 scriptParses_walk s w (by omega)
end Go.Proofs.YtocpcnmnhckcpaaGreat.Prt
