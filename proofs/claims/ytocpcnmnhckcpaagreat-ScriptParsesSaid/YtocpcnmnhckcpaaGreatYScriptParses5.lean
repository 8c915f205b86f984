/- qcode.taken, of clauses: its walk. The closures of qcode.Take. qcode.Take: its walk. script.maybe, and the closures of script.Put: their walks. script.Put: its walk. script.Take: what it holds while it reads. script.Take: its walk. script.Print: its walk. Functions of the program, told as plain functions, with their walks: written by a program of this claim's out of the translation. The reference's queries: what is wrong with one, and texts as bytes: in closed form. The reference's queries as bytes, and whether two are the same: in closed form. Whether two rows of steps are the same: registrarref22.Same. A region that draws its order, in a round: one walk in a class of worlds. slices.Chunk: its walk. slices.Chunk's iterator, by twos: its contract. registrarlaw22.few: its walk. registrarlaw22.shown: its walk. What the laws of scripts call, on rows that are read. -/
import Derived.Laws.EntriesVeiled
import Derived.BigQuiet
import Derived.RangeFuncNested
import Derived.RangeFuncBound
import Derived.RangeFuncCalls
import Derived.RangeFuncLeaves
import Derived.Shelf.Abstract
import Derived.Shelf.RegionOpen
import Derived.WalkKit
import Derived.OwnWalkIn
import Derived.TacticsInMore
import Derived.LoopNIn
import Derived.LoopIn
import Derived.Test.YtocpcnmnhckcpaaGreatYScriptParses1
import Derived.Test.YtocpcnmnhckcpaaGreatYScriptParses2
import Derived.Test.YtocpcnmnhckcpaaGreatYScriptParses3
import Derived.Test.YtocpcnmnhckcpaaGreatYScriptParses4
set_option linter.unusedVariables false
set_option linter.unusedSimpArgs false
namespace Go.Proofs.YtocpcnmnhckcpaaGreat.Prt
open RowKit YtocpcnmnhckcpaaGreatW.PrintWords YtocpcnmnhckcpaaGreatW.PrintLast YtocpcnmnhckcpaaGreatW.PrintMore YtocpcnmnhckcpaaGreat.Num YtocpcnmnhckcpaaGreat.Nam
theorem S_turnG {α:Type} {d:Kd α} {e:Nat} {w w1:World} {base g t:Nat} {v:Value} {xs:List α} {cells:Array Value} (h:Kd.S d e w base (fun _=>True) v xs) (hb:w.heap[g]? = some (.cells cells t (0,0))) (ht:∀ q,q ∈ e :: d.E→q≠t) (hk:KeepBut w w1 g none):Kd.S d e w1 base (fun k=>k < w.heap.size) v xs:=
 Kd.S_mono (Kd.S_keep (Kd.S_bound (Kd.S_types h hb ht)) hk (fun k hk=>hk.1.2)) (fun k hk=>hk.2.2.1)
theorem R_setA {α:Type} {d:Kd α} {e N t E:Nat} {w:World} {v:Value} {l:List α} (h:Kd.R d e w N (fun _=>True) v l) (hb:∃ cells,w.heap[E]? = some (.cells cells t (0,0))) (ht:∀ q,q ∈ e :: d.E→q≠t) (i:Nat) (u:Value):Kd.R d e (w.setCell ⟨E,i,none⟩ u) N (fun _=>True) v l∧∃ cells,(w.setCell ⟨E,i,none⟩ u).heap[E]? = some (.cells cells t (0,0)):=by
 obtain ⟨cells,hb⟩:=hb
 exact ⟨R_set h hb ht i u,_,blk_set hb i u⟩
theorem R_setA2 {α:Type} {d:Kd α} {e N t E:Nat} {w:World} {v:Value} {l:List α} {cells:Array Value} (h:Kd.R d e w N (fun _=>True) v l) (hb:w.heap[E]? = some (.cells cells t (0,0))) (ht:∀ q,q ∈ e :: d.E→q≠t) (u0 u1:Value):Kd.R d e ((w.setCell ⟨E,0,none⟩ u0).setCell ⟨E,1,none⟩ u1) N (fun _=>True) v l:=
 (R_setA (R_setA h ⟨_,hb⟩ ht 0 u0).1 (R_setA h ⟨_,hb⟩ ht 0 u0).2 ht 1 u1).1
theorem info_cla:(Tryz.prog.info? 96).map (fun i=>(i.zero,i.size,i.bytes))=some (some (.agg #[.slice none 0 0,.slice none 0 0]),2,48):=by kernel_rfl
set_option maxRecDepth 100000 in
theorem takenCla_calls (step:Stp S96) (most:Int) (G:Nat) (q1 q2:Value) (P:Nat→Prop) (w:World) (g:Nat) (l:List Int) (bad:Bool) (hI:Rd 85 P w g l bad) (hb:isBytes l) (hP:∀ k,P k→k < w.heap.size) (hm0:0≤most) (hm1:most≤1000)
  (hent:∀ (xs:Array Value) (W:World),(callFunc G xs).run Tryz.prog W = .ok (.enter G xs) W)
  (hs:∀ w1 l1 b1,Lv w w1 P g l.length (l1,b1)→Calls Tryz.prog G #[q1,q2] w1 fun e w2=>∃ v0 v1,e = .returned (.tuple #[.agg #[v0,v1],.bool (step l1 b1).1.2])∧Kd.string.R 9 w2 w1.heap.size (fun _=>True) v0 (step l1 b1).1.1.f0∧Kd.string.R 9 w2 w1.heap.size (fun _=>True) v1 (step l1 b1).1.1.f1∧Lv w1 w2 P g l1.length (step l1 b1).2)
  (r:(List S96 × Bool) × List Int × Bool) (hr:takeL step most l bad=r) :
  Calls Tryz.prog 54 #[.pointer (some ⟨g,0,none⟩),.int .i64 most,.func (.func G) #[] #[q1,q2]] w fun e w'=>
   ∃ v,e = .returned (.tuple #[v,.bool r.1.2])∧Kd.S k96 96 w' w.heap.size (fun _=>True) v r.1.1∧Lv w w' P g l.length r.2:=by
 obtain ⟨x,hx⟩:∃ x,numOf l=x:=⟨_,rfl⟩
 have hri:=numOf_i64 hb
 rw [hx] at hri
 obtain ⟨hr1,hr2⟩:=hri
 unfold takeL at hr
 rw [hx] at hr
 have HN:=Ak (num_calls' x P w g l bad hI hb hx)
 have HAB:=Ak (And.intro (aft_bytes hb) (aft_len l hb))
 have HS:=Ak hs
 have HPP:=Ak hP
 have HGW:=Ak hI.lt
 have HR:=Ak hr
 clear hI hb hs hx hP hr
 have hu96:=Tryz.underlying96
 by_cases hneg:x < 0
 ·have hd:decide (x < 0)=true:=decide_eq_true hneg
  go_enter Tryz.func54,Tryz.ntmps54
  go_wp2_with fail
  refine HN.out.mono ?_
  rintro e w1 ⟨rfl,hI1,hb1,hk1⟩
  have n1_:=Ak (Lv.mk (n:=l.length) (q:=(aft l,badOf l bad)) hI1 HAB.out.1 HAB.out.2 hb1 hk1)
  clear hI1 hb1 hk1
  go_wp2
  go_ret2
  rw [←HR.out,if_pos (.inl hneg)]
  exact ⟨_,rfl,Kd.S_nil _ _ _ _ _,n1_.out⟩
 have hd:decide (x < 0)=false:=decide_eq_false hneg
 by_cases hbig:most < x
 ·have hd2:decide (most < x)=true:=decide_eq_true hbig
  go_enter Tryz.func54,Tryz.ntmps54
  go_wp2_with fail
  refine HN.out.mono ?_
  rintro e w1 ⟨rfl,hI1,hb1,hk1⟩
  have n1_:=Ak (Lv.mk (n:=l.length) (q:=(aft l,badOf l bad)) hI1 HAB.out.1 HAB.out.2 hb1 hk1)
  clear hI1 hb1 hk1
  go_wp2
  go_ret2
  rw [←HR.out,if_pos (.inr hbig)]
  exact ⟨_,rfl,Kd.S_nil _ _ _ _ _,n1_.out⟩
 have hd2:decide (most < x)=false:=decide_eq_false hbig
 obtain ⟨n,rfl⟩:=Int.eq_ofNat_of_zero_le (Int.not_lt.1 hneg)
 have HR2:=Ak ((if_neg (by omega:¬((n:Int) < 0∨most < (n:Int)))).symm.trans HR.out)
 rw [Int.toNat_natCast] at HR2
 clear HR
 go_enter Tryz.func54,Tryz.ntmps54
 go_wp2_with fail
 refine HN.out.mono ?_
 rintro e w1 ⟨rfl,hI1,hb1,hk1⟩
 have n1_:=Ak (Lv.mk (n:=l.length) (q:=(aft l,badOf l bad)) hI1 HAB.out.1 HAB.out.2 hb1 hk1)
 clear hI1 hb1 hk1 HN
 go_wp2
 go_loopg [9,22] n (fun k v9 v22 w'=>∃ (i:Nat) (l1:List Int) (b1:Bool) (acc:List S96),v22 = .int .i64 (i:Int)∧Aside0 (i+k=n)∧Aside0 (acc.length=i)∧Aside0 (takeN step k l1 b1 acc=r)∧Aside0 (Kd.S k96 96 w' w.heap.size (fun _=>True) v9 acc)∧Aside0 (Lv w w' P g l.length (l1,b1)))
 case atStart=>exact ⟨0,_,_,[],rfl,⟨by omega⟩,⟨rfl⟩,HR2,⟨Kd.S_nil _ _ _ _ _⟩,n1_⟩
 case round=>
  clear HR2 n1_
  obtain ⟨i,l1,b1,acc,rfl,HE,HAL,HR,HO,HL⟩:=hrel
  obtain ⟨A9,c9,e9⟩:=Kd.S_slice HO.out
  subst e9
  by_cases hlt:i < n
  ·have hb1:decide ((i:Int) < (n:Int))=true:=decide_eq_true (by omega)
   obtain ⟨k,rfl⟩:∃ m,gk=m+1:=⟨gk - 1,by have:=HE.out;omega⟩
   have HC:=Ak (HS.out wr l1 b1 HL.out)
   obtain ⟨⟨⟨y,ok⟩,l2,b2⟩,hq⟩:∃ q,step l1 b1=q:=⟨_,rfl⟩
   rw [hq] at HC
   have HQ:=Ak hq
   clear hq
   go_wp2_with fail
   refine HC.out.mono ?_
   rintro e w2 ⟨v0,v1,rfl,h0,h1,hl2⟩
   have HO2:Aside0 (Kd.S k96 96 w2 w.heap.size (fun k=>k < wr.heap.size) (.slice A9 acc.length c9) acc):=⟨by
    obtain ⟨A',c',hblk,_⟩:=HL.out.rd
    exact S_turnG HO.out hblk (by decide) hl2.keep⟩
   have HL2:=Ak (HL.out.trans hl2 HL.out.len)
   have HSZ:=Ak (And.intro hl2.keep.1 HL.out.keep.1)
   have H0:=Ak h0
   have H1:=Ak h1
   clear hl2 HO HL HC h0 h1
   obtain ⟨A0,c0,e0⟩:=Kd.R_slice H0.out
   subst e0
   obtain ⟨A1,c1,e1⟩:=Kd.R_slice H1.out
   subst e1
   go_upto_region 8 with (((with_reducible refine gate_dst (N:=10) rfl ?_);(try (refine gate_guard (by rfl) ?_;dsimp only));refine box_event ?hg (N:=10) ?hd (cs:=#[.slice none 0 0,.slice none 0 0]) (t:=96) ?hr ?_;(case hd=>rfl);(case hg=>rfl);(case hr=>(go_simp;done));intro B hg_ w3 hbox_ hb_;have HBX:=Ak hbox_;have HBN:=Ak hg_;have HBB:=Ak hb_;clear hbox_ hg_ hb_;have hq0:=blk_cell HBX.out 0;have hf0:=blk_frozen HBX.out 0;have hq1:=blk_cell HBX.out 1;have hf1:=blk_frozen HBX.out 1))
   have HBG:Aside0 (wr.heap.size≤B∧w.heap.size≤B):=⟨by have:=HBN.out;have:=HSZ.out.1;have:=HSZ.out.2;omega⟩
   have n1_:=Ak (Kd.S_far (p:=⟨B,1,none⟩) (Kd.S_far (p:=⟨B,0,none⟩) (Kd.S_below HO2.out HBB.out) (fun k hk=>by have:=HBG.out.1;show k≠B;omega) (.slice A0 y.f0.length c0)) (fun k hk=>by have:=HBG.out.1;show k≠B;omega) (.slice A1 y.f1.length c1))
   have n4_:=Ak ((((HL2.out.up HBB.out).set HGW.out HPP.out HBG.out.2 0 (.slice A0 y.f0.length c0)).set HGW.out HPP.out HBG.out.2 1 (.slice A1 y.f1.length c1)))
   have n6_:=Ak ((blk_put (cs':=#[.slice A0 y.f0.length c0,.slice A1 y.f1.length c1]) (blk_put (cs':=#[.slice A0 y.f0.length c0,.slice none 0 0]) HBX.out 0 (.slice A0 y.f0.length c0) rfl) 1 (.slice A1 y.f1.length c1) rfl))
   have r0_:=Ak (R_setA2 (Kd.R_below H0.out HBB.out) HBX.out (by decide) (.slice A0 y.f0.length c0) (.slice A1 y.f1.length c1))
   have r1_:=Ak (R_setA2 (Kd.R_below H1.out HBB.out) HBX.out (by decide) (.slice A0 y.f0.length c0) (.slice A1 y.f1.length c1))
   clear H0 H1
   have HW3:=Ak (Nat.le_trans HSZ.out.1 HBB.out.size)
   clear HO2 HL2 HBX HBN HBB hq0 hf0 hq1 hf1
   generalize (w3.setCell ⟨B,0,none⟩ (.slice A0 y.f0.length c0)).setCell ⟨B,1,none⟩ (.slice A1 y.f1.length c1)=w4 at n1_ n4_ n6_ r0_ r1_ ⊢
   cases ok with
   | false=>
    have HR3:=Ak ((takeN_no HQ.out (.inl rfl)).symm.trans HR.out)
    clear HQ HR
    go_wp2_with fail
    go_ret2
    rw [←HR3.out]
    exact ⟨_,rfl,Kd.S_nil _ _ _ _ _,n4_.out⟩
   | true=>
    go_wp2_with fail
    refine (bad_calls P w4 g l2 b2 n4_.out.rd).mono ?_
    rintro e w5 ⟨rfl,rfl⟩
    cases b2 with
    | true=>
     have HR3:=Ak ((takeN_no HQ.out (.inr rfl)).symm.trans HR.out)
     clear HQ HR
     go_wp2_with fail
     go_ret2
     rw [←HR3.out]
     exact ⟨_,rfl,Kd.S_nil _ _ _ _ _,n4_.out⟩
    | false=>
     have HR3:=Ak ((takeN_ok HQ.out rfl).symm.trans HR.out)
     clear HQ HR
     have hlen:acc.length≤1000:=by have:=HAL.out;omega
     have hq0:=blk_cell n6_.out 0
     have hq1:=blk_cell n6_.out 1
     have HAP:Aside0 (∀ k,wr.heap.size≤k→True∧some k≠(Value.slice A9 acc.length c9).ownBlock):=⟨fun k hk=>⟨trivial,fun e_=>by have h_:=(Kd.S_R n1_.out).1 k e_.symm;omega⟩⟩
     have HAQ:Aside0 (Kd.S k96 96 w4 w.heap.size (fun k=>True∧¬wr.heap.size≤k) (.slice A9 acc.length c9) acc):=⟨Kd.S_mono n1_.out (fun k hk=>⟨trivial,by omega⟩)⟩
     have HMK:Aside0 ((k96).M w4 w.heap.size (fun k=>wr.heap.size≤k) y [.slice A0 y.f0.length c0,.slice A1 y.f1.length c1]):=⟨k96_mkM _ _ _ y (Kd.R_lower (Kd.R_mono (Kd.R_bound r0_.out) (fun k hk=>hk.2.1)) HSZ.out.2) (Kd.R_lower (Kd.R_mono (Kd.R_bound r1_.out) (fun k hk=>hk.2.1)) HSZ.out.2)⟩
     go_wp2_with (((with_reducible refine gate_builtin (b:=.append) (xs:=#[.tmp 35,.tmp 37]) rfl ?_);at_builtin;refine Kd.S_append k96 (w0:=w4) w.heap.size rfl (.tmp 35) (.tmp 37) 30 96 (.agg #[.slice none 0 0,.slice none 0 0]) 48 rfl Tryz.underlying30 info_cla rfl (by decide) (by omega) (.slice A9 acc.length c9) acc y [.slice A0 y.f0.length c0,.slice A1 y.f1.length c1] (fun _=>True) (fun k=>wr.heap.size≤k) rfl rfl HMK.out HAP.out (fun _ _=>trivial) HAQ.out (Below.refl _ _) n4_.out.keep.1 (by omega) ?_;intro v w6 ho hb hg hat;have HO5:=Ak ho;have HL5:=Ak (n4_.out.grown HGW.out HPP.out hg (Kd.S_base n1_.out) (n4_.out.below.trans (hb.mono (Nat.le_of_lt HGW.out))));clear ho hb hg hat))
     go_roundg k
     case measure=>omega
     case rel=>exact ⟨i+1,l2,false,acc++[y],by go_num,⟨by have:=HE.out;omega⟩,⟨by have:=HAL.out;rw [List.length_append,List.length_singleton];omega⟩,HR3,HO5,HL5⟩
  ·have hb1:decide ((i:Int) < (n:Int))=false:=decide_eq_false (by omega)
   have hk0:gk=0:=by have:=HE.out;omega
   subst hk0
   go_wp2_with fail
   refine (bad_calls P wr g l1 b1 HL.out.rd).mono ?_
   rintro e w3 ⟨rfl,rfl⟩
   go_wp2
   go_ret2
   rw [←HR.out]
   exact ⟨_,rfl,HO.out,HL.out⟩
set_option maxRecDepth 100000 in
theorem textClo_calls (P:Nat→Prop) (w:World) (g Rb:Nat) (l:List Int) (b:Bool) (hR:w.heap[Rb]? = some (.cells #[.pointer (some ⟨g,0,none⟩)] 47 (0,0))) (hI:Rd 85 P w g l b) (hb:isBytes l) :
  Calls Tryz.prog 53 #[.pointer (some ⟨Rb,0,none⟩)] w fun e w'=>e = .returned (.tuple #[.string (stepT l b).1.1,.bool (stepT l b).1.2])∧Lv w w' P g l.length (stepT l b).2:=by
 have hr0:=blk_cell hR 0
 have HT:=Ak (text_calls P w g l b hI hb)
 have HBY:=Ak (And.intro (aftT_bytes hb) (aftT_len l hb))
 clear hR hI hb
 go_enter Tryz.func53,Tryz.ntmps53
 go_wp2_with fail
 refine HT.out.mono ?_
 rintro e w1 ⟨rfl,hI,hb,hk⟩
 have n1_:=Ak (Lv.mk (n:=l.length) (q:=(aftT l,badT l b)) hI HBY.out.1 HBY.out.2 hb hk)
 clear hI hb hk
 go_wp2
 go_ret2
 exact ⟨rfl,n1_.out⟩
theorem texts_calls (P:Nat→Prop) (w:World) (g Rb:Nat) (l:List Int) (b:Bool) (hR:w.heap[Rb]? = some (.cells #[.pointer (some ⟨g,0,none⟩)] 47 (0,0))) (hne:Rb≠g) (hI:Rd 85 P w g l b) (hb:isBytes l) (hP:∀ k,P k→k < w.heap.size) (r:(List ByteArray × Bool) × List Int × Bool) (hr:takeL stepT 4 l b=r) :
  Calls Tryz.prog 56 #[.pointer (some ⟨g,0,none⟩),.int .i64 4,.func (.func 53) #[] #[.pointer (some ⟨Rb,0,none⟩)]] w fun e w'=>
   ∃ v,e = .returned (.tuple #[v,.bool r.1.2])∧Kd.string.R 9 w' w.heap.size (fun _=>True) v r.1.1∧Lv w w' P g l.length r.2:=
 takenStr_calls stepT 4 53 _ P w g l b hI hb hP (by decide) (by decide) (enters_of Tryz.func53 (by kernel_rfl) rfl) (fun w1 l1 b1 hL=>textClo_calls P w1 g Rb l1 b1 (hL.keep.blk hR hne (by simp)) hL.rd hL.by_) r hr
set_option maxRecDepth 100000 in
theorem claClo_calls (P:Nat→Prop) (w:World) (g Rb Tb:Nat) (l:List Int) (b:Bool) (hR:w.heap[Rb]? = some (.cells #[.pointer (some ⟨g,0,none⟩)] 47 (0,0))) (hT:w.heap[Tb]? = some (.cells #[.func (.func 53) #[] #[.pointer (some ⟨Rb,0,none⟩)]] 92 (0,0))) (hne:Rb≠g) (hnt:Tb≠g) (hI:Rd 85 P w g l b) (hb:isBytes l) (hP:∀ k,P k→k < w.heap.size) :
  Calls Tryz.prog 55 #[.pointer (some ⟨Rb,0,none⟩),.pointer (some ⟨Tb,0,none⟩)] w fun e w'=>∃ v0 v1,e = .returned (.tuple #[.agg #[v0,v1],.bool (stepC l b).1.2])∧Kd.string.R 9 w' w.heap.size (fun _=>True) v0 (stepC l b).1.1.f0∧Kd.string.R 9 w' w.heap.size (fun _=>True) v1 (stepC l b).1.1.f1∧Lv w w' P g l.length (stepC l b).2:=by
 obtain ⟨⟨⟨m0,ok0⟩,l1,b1⟩,hq0⟩:∃ q,takeL stepT 4 l b=q:=⟨_,rfl⟩
 obtain ⟨⟨⟨m1,ok1⟩,l2,b2⟩,hq1⟩:∃ q,takeL stepT 4 l1 b1=q:=⟨_,rfl⟩
 have HST:Aside0 (stepC l b=if ok0=false then ((⟨m0,[]⟩,false),(l1,b1)) else ((⟨m0,m1⟩,ok1),(l2,b2))):=⟨by unfold stepC;rw [hq0];simp only;rw [hq1]⟩
 have HR:=Ak hR
 have HT:=Ak hT
 have HNE:=Ak (And.intro hne hnt)
 have HGW:=Ak hI.lt
 have HPP:=Ak hP
 have HL0:=Ak (Lv.mk (n:=l.length) (q:=(l,b)) hI hb (Nat.le_refl _) (Below.refl g w) (KeepBut.refl w g none))
 have HQ0:=Ak hq0
 have HQ1:=Ak hq1
 clear hR hT hne hnt hI hb hP hq0 hq1
 have hu96:=Tryz.underlying96
 go_enter Tryz.func55,Tryz.ntmps55
 go_upto_region 1 with (((with_reducible refine gate_dst (N:=2) rfl ?_);(try (refine gate_guard (by rfl) ?_;dsimp only));refine box_event ?hg (N:=2) ?hd (cs:=#[.slice none 0 0,.slice none 0 0]) (t:=96) ?hr ?_;(case hd=>rfl);(case hg=>rfl);(case hr=>(go_simp;done));intro E hg_ w1 hbox_ hb_;have HE:=Ak hbox_;have HEN:=Ak hg_;have HEB:=Ak hb_;clear hbox_ hg_ hb_))
 have HEW:=Ak (show w.heap.size≤E by rw [HEN.out];exact Nat.le_refl _)
 have HEG:=Ak (show E≠g by have:=HGW.out;have:=HEW.out;omega)
 have HR1:=Ak (blk_below HR.out HEB.out)
 have HT1:=Ak (blk_below HT.out HEB.out)
 have HL1:=Ak (HL0.out.up HEB.out)
 have HP1:=Ak (fun k (hk:P k)=>Nat.lt_of_lt_of_le (HPP.out k hk) HEB.out.size)
 have hr0:=blk_cell HR1.out 0
 have ht0:=blk_cell HT1.out 0
 clear HL0 HEN HEB
 go_wp2_with fail
 refine (texts_calls P w1 g Rb l b HR1.out HNE.out.1 HL1.out.rd HL1.out.by_ HP1.out _ HQ0.out).mono ?_
 rintro e w2 ⟨v0,rfl,h0,hL⟩
 obtain ⟨A0,c0,e0⟩:=Kd.R_slice h0
 subst e0
 have H0:=Ak (Kd.R_lower h0 HL1.out.keep.1)
 have HE2:=Ak (hL.keep.blk HE.out HEG.out (by simp))
 have HL2:=Ak (HL1.out.trans hL HL1.out.len)
 clear h0 hL HL1 HP1 HR1 HT1 HE hr0 ht0
 have hq0:=blk_cell HE2.out 0
 have hf0:=blk_frozen HE2.out 0
 go_upto_region 2 with (fail)
 have n0_:=Ak (R_set H0.out HE2.out (by decide) 0 (.slice A0 m0.length c0))
 have n1_:=Ak (blk_put (cs':=#[.slice A0 m0.length c0,.slice none 0 0]) HE2.out 0 (.slice A0 m0.length c0) rfl)
 have n2_:=Ak (HL2.out.set HGW.out HPP.out HEW.out 0 (.slice A0 m0.length c0))
 clear H0 HE2 HL2 hq0 hf0
 generalize w2.setCell ⟨E,0,none⟩ (.slice A0 m0.length c0)=w3 at n0_ n1_ n2_ ⊢
 cases ok0 with
 | false=>
  have HS2:=Ak (HST.out.trans (if_pos rfl))
  clear HST
  have hq0:=blk_cell n1_.out 0
  have hq1:=blk_cell n1_.out 1
  have hf0:=blk_frozen n1_.out 0
  have hf1:=blk_frozen n1_.out 1
  go_wp2_with fail
  have HE9:=blk_put (cs':=#[.slice A0 m0.length c0,.slice none 0 0]) (blk_put (cs':=#[.slice A0 m0.length c0,.slice none 0 0]) n1_.out 0 (.slice A0 m0.length c0) rfl) 1 (.slice none 0 0) rfl
  refine bodyPost_ret (results_ct rfl _ _ E 96 _ (0,0) _ rfl HE9 Tryz.underlying96 rfl (by kernel_rfl)) rfl ?_
  rw [HS2.out]
  exact ⟨.slice A0 m0.length c0,.slice none 0 0,rfl,R_setA2 n0_.out n1_.out (by decide) _ _,Kd.R_nil _ _ _ _ _,(n2_.out.set HGW.out HPP.out HEW.out 0 _).set HGW.out HPP.out HEW.out 1 _⟩
 | true=>
  have HS2:=Ak (HST.out.trans (if_neg (by simp)))
  clear HST
  have HR3:=Ak (n2_.out.keep.blk HR.out HNE.out.1 (by simp))
  have HT3:=Ak (n2_.out.keep.blk HT.out HNE.out.2 (by simp))
  have hr0:=blk_cell HR3.out 0
  have ht0:=blk_cell HT3.out 0
  go_wp2_with fail
  refine (texts_calls P w3 g Rb l1 b1 HR3.out HNE.out.1 n2_.out.rd n2_.out.by_ (fun k hk=>Nat.lt_of_lt_of_le (HPP.out k hk) n2_.out.keep.1) _ HQ1.out).mono ?_
  rintro e w4 ⟨v1,rfl,h1,hL⟩
  obtain ⟨A1,c1,e1⟩:=Kd.R_slice h1
  subst e1
  have H1:=Ak (Kd.R_lower h1 n2_.out.keep.1)
  have H0:=Ak (R_off' n0_.out HGW.out hL.keep)
  have HE4:=Ak (hL.keep.blk n1_.out HEG.out (by simp))
  have HL4:=Ak (n2_.out.trans hL n2_.out.len)
  clear h1 hL n0_ n1_ n2_ HR3 HT3 hr0 ht0
  have hq1:=blk_cell HE4.out 1
  have hf1:=blk_frozen HE4.out 1
  go_upto_region 5 with (fail)
  have n0_:=Ak (R_set H0.out HE4.out (by decide) 1 (.slice A1 m1.length c1))
  have n3_:=Ak (R_set H1.out HE4.out (by decide) 1 (.slice A1 m1.length c1))
  have n1_:=Ak (blk_put (cs':=#[.slice A0 m0.length c0,.slice A1 m1.length c1]) HE4.out 1 (.slice A1 m1.length c1) rfl)
  have n2_:=Ak (HL4.out.set HGW.out HPP.out HEW.out 1 (.slice A1 m1.length c1))
  clear H0 H1 HE4 HL4 hq1 hf1
  generalize w4.setCell ⟨E,1,none⟩ (.slice A1 m1.length c1)=w5 at n0_ n1_ n2_ n3_ ⊢
  have hq0:=blk_cell n1_.out 0
  have hq1:=blk_cell n1_.out 1
  have hf0:=blk_frozen n1_.out 0
  have hf1:=blk_frozen n1_.out 1
  go_wp2_with fail
  have HE9:=blk_put (cs':=#[.slice A0 m0.length c0,.slice A1 m1.length c1]) (blk_put (cs':=#[.slice A0 m0.length c0,.slice A1 m1.length c1]) n1_.out 0 (.slice A0 m0.length c0) rfl) 1 (.slice A1 m1.length c1) rfl
  refine bodyPost_ret (results_ct rfl _ _ E 96 _ (0,0) _ rfl HE9 Tryz.underlying96 rfl (by kernel_rfl)) rfl ?_
  rw [HS2.out]
  exact ⟨.slice A0 m0.length c0,.slice A1 m1.length c1,rfl,R_setA2 n0_.out n1_.out (by decide) _ _,R_setA2 n3_.out n1_.out (by decide) _ _,(n2_.out.set HGW.out HPP.out HEW.out 0 _).set HGW.out HPP.out HEW.out 1 _⟩
theorem clauses_calls (P:Nat→Prop) (w:World) (g Rb Tb:Nat) (l:List Int) (b:Bool) (hR:w.heap[Rb]? = some (.cells #[.pointer (some ⟨g,0,none⟩)] 47 (0,0))) (hT:w.heap[Tb]? = some (.cells #[.func (.func 53) #[] #[.pointer (some ⟨Rb,0,none⟩)]] 92 (0,0))) (hne:Rb≠g) (hnt:Tb≠g) (hI:Rd 85 P w g l b) (hb:isBytes l) (hP:∀ k,P k→k < w.heap.size) (r:(List S96 × Bool) × List Int × Bool) (hr:takeL stepC 4 l b=r) :
  Calls Tryz.prog 54 #[.pointer (some ⟨g,0,none⟩),.int .i64 4,.func (.func 55) #[] #[.pointer (some ⟨Rb,0,none⟩),.pointer (some ⟨Tb,0,none⟩)]] w fun e w'=>
   ∃ v,e = .returned (.tuple #[v,.bool r.1.2])∧Kd.S k96 96 w' w.heap.size (fun _=>True) v r.1.1∧Lv w w' P g l.length r.2:=
 takenCla_calls stepC 4 55 _ _ P w g l b hI hb hP (by decide) (by decide) (enters_of Tryz.func55 (by kernel_rfl) rfl) (fun w1 l1 b1 hL=>claClo_calls P w1 g Rb Tb l1 b1 (hL.keep.blk hR hne (by simp)) (hL.keep.blk hT hnt (by simp)) hne hnt hL.rd hL.by_ (fun k hk=>Nat.lt_of_lt_of_le (hP k hk) hL.keep.1)) r hr
theorem S_turnT {α:Type} {d:Kd α} {e:Nat} {w w1:World} {base g t:Nat} {v:Value} {xs:List α} {cells:Array Value} (h:Kd.S d e w base (fun _=>True) v xs) (hb:w.heap[g]? = some (.cells cells t (0,0))) (ht:∀ q,q ∈ e :: d.E→q≠t) (hk:KeepBut w w1 g none):Kd.S d e w1 base (fun _=>True) v xs:=Kd.S_mono (S_turnG h hb ht hk) (fun _ _=>trivial)
set_option maxRecDepth 100000 in
theorem takeQ_calls (P:Nat→Prop) (w:World) (g:Nat) (l:List Int) (b:Bool) (hI:Rd 85 P w g l b) (hb:isBytes l) (hP:∀ k,P k→k < w.heap.size) (r:List S96 × Int × List Int × Bool) (hr:takeQ l b=r) :
  Calls Tryz.prog 20 #[.pointer (some ⟨g,0,none⟩)] w fun e w'=>∃ v,e = .returned (.tuple #[.agg #[v],.int .i64 r.2.1])∧Kd.S k96 96 w' w.heap.size (fun _=>True) v r.1∧Lv w w' P g l.length r.2.2:=by
 have HLE:=Ak (takeL_left (stepC_left 9223372036854775807) 4 (by decide) l b hb hI.len)
 obtain ⟨⟨⟨m,ok⟩,l1,b1⟩,hq⟩:∃ q,takeL stepC 4 l b=q:=⟨_,rfl⟩
 rw [hq] at HLE
 have HST:Aside0 (r=if ok=false∨mayQ m≠0 then ([],2,(l1,b1)) else (m,0,(l1,b1))):=⟨by rw [←hr];unfold takeQ;rw [hq]⟩
 have HGW:=Ak hI.lt
 have HPP:=Ak hP
 have HL0:=Ak (Lv.mk (n:=l.length) (q:=(l,b)) hI hb (Nat.le_refl _) (Below.refl g w) (KeepBut.refl w g none))
 have HQ:=Ak hq
 clear hI hb hP hq hr
 have hu32:=Tryz.underlying32
 go_enter Tryz.func20,Tryz.ntmps20
 go_upto_region 1 with (first | ((with_reducible refine gate_dst (N:=1) rfl ?_);(try (refine gate_guard (by rfl) ?_;dsimp only));refine box_event ?hg (N:=1) ?hd (cs:=#[.pointer (some ⟨g,0,none⟩)]) (t:=47) ?hr ?_;(case hd=>rfl);(case hg=>rfl);(case hr=>(go_simp;done));intro Rb hg_ w1 hbox_ hb_;have HR:=Ak hbox_;have HRN:=Ak hg_;have HRB:=Ak hb_;clear hbox_ hg_ hb_) | ((with_reducible refine gate_dst (N:=2) rfl ?_);(try (refine gate_guard (by rfl) ?_;dsimp only));refine box_event ?hg (N:=2) ?hd (cs:=#[.slice none 0 0]) (t:=32) ?hr ?_;(case hd=>rfl);(case hg=>rfl);(case hr=>(go_simp;done));intro Q hg_ w2 hbox_ hb_;have HX:=Ak hbox_;have HXN:=Ak hg_;have HXB:=Ak hb_;clear hbox_ hg_ hb_))
 have HRW:=Ak (show w.heap.size≤Rb∧w.heap.size≤Q∧Rb≠g by
  have h1:=HRN.out
  have h2:=HXN.out
  have h3:=HRB.out.size
  have h4:=HGW.out
  omega)
 have HR2:=Ak (blk_below HR.out HXB.out)
 have HL2:=Ak ((HL0.out.up HRB.out).up HXB.out)
 clear HR HL0 HRN HXN HRB HXB
 have hr0:=blk_cell HR2.out 0
 go_upto_region 3 with (fail)
 go_upto_region 4 with (((with_reducible refine gate_dst (N:=4) rfl ?_);(try (refine gate_guard (by rfl) ?_;dsimp only));refine box_event ?hg (N:=4) ?hd (cs:=#[.nilFunc]) (t:=92) ?hr ?_;(case hd=>rfl);(case hg=>rfl);(case hr=>(go_simp;done));intro Tb hg_ w3 hbox_ hb_;have HT:=Ak hbox_;have HTN:=Ak hg_;have HTB:=Ak hb_;clear hbox_ hg_ hb_;have ht0:=blk_cell HT.out 0;have hf0:=blk_frozen HT.out 0))
 have HTW:=Ak (show w.heap.size≤Tb∧Tb≠Rb∧Tb≠Q∧Tb≠g by
  have h1:=HTN.out
  have h2:=blk_lt HR2.out
  have h3:=blk_lt HX.out
  have h4:=HL2.out.keep.1
  have h5:=HGW.out
  omega)
 have n1_:=Ak (blk_far (blk_below HR2.out HTB.out) (Ne.symm HTW.out.2.1) (p:=⟨Tb,0,none⟩) (.func (.func 53) #[] #[.pointer (some ⟨Rb,0,none⟩)]))
 have n2_:=Ak (blk_far (blk_below HX.out HTB.out) (Ne.symm HTW.out.2.2.1) (p:=⟨Tb,0,none⟩) (.func (.func 53) #[] #[.pointer (some ⟨Rb,0,none⟩)]))
 have n3_:=Ak ((HL2.out.up HTB.out).set HGW.out HPP.out HTW.out.1 0 (.func (.func 53) #[] #[.pointer (some ⟨Rb,0,none⟩)]))
 have n4_:=Ak (blk_put (cs':=#[.func (.func 53) #[] #[.pointer (some ⟨Rb,0,none⟩)]]) HT.out 0 (.func (.func 53) #[] #[.pointer (some ⟨Rb,0,none⟩)]) rfl)
 clear HR2 HX HL2 HT HTN HTB hr0 ht0 hf0
 generalize w3.setCell ⟨Tb,0,none⟩ (.func (.func 53) #[] #[.pointer (some ⟨Rb,0,none⟩)])=w4 at n1_ n2_ n3_ n4_ ⊢
 have HR4:=n1_
 have HX4:=n2_
 have HL4:=n3_
 have HT4:=n4_
 clear n1_ n2_ n3_ n4_
 have hr0:=blk_cell HR4.out 0
 go_wp2_with fail
 refine (clauses_calls P w4 g Rb Tb l b HR4.out HT4.out HRW.out.2.2 HTW.out.2.2.2 HL4.out.rd HL4.out.by_ (fun k hk=>Nat.lt_of_lt_of_le (HPP.out k hk) HL4.out.keep.1) _ HQ.out).mono ?_
 rintro e w5 ⟨v,rfl,hS,hL⟩
 obtain ⟨A,c,ev⟩:=Kd.S_slice hS
 subst ev
 have HS5:=Ak (Kd.S_lower hS HL4.out.keep.1)
 have HX5:=Ak (hL.keep.blk HX4.out (by have:=HGW.out;have:=HRW.out.2.1;omega) (by simp))
 have HL5:=Ak (HL4.out.trans hL HL4.out.len)
 clear hS hL HR4 HX4 HL4 HT4 hr0
 go_upto_region 6 with (((with_reducible refine gate_dst (N:=7) rfl ?_);(try (refine gate_guard (by rfl) ?_;dsimp only));refine box_event ?hg (N:=7) ?hd (cs:=#[.slice none 0 0]) (t:=32) ?hr ?_;(case hd=>rfl);(case hg=>rfl);(case hr=>(go_simp;done));intro E hg_ w6 hbox_ hb_;have HE:=Ak hbox_;have HEN:=Ak hg_;have HEB:=Ak hb_;clear hbox_ hg_ hb_;have he0:=blk_cell HE.out 0;have hf0:=blk_frozen HE.out 0))
 have HEW:=Ak (show w.heap.size≤E∧E≠Q by
  have h1:=HEN.out
  have h2:=blk_lt HX5.out
  have h3:=HL5.out.keep.1
  omega)
 have n1_:=Ak (S_set (Kd.S_below HS5.out HEB.out) HE.out (by decide) 0 (.slice A m.length c))
 have n2_:=Ak (blk_far (blk_below HX5.out HEB.out) (Ne.symm HEW.out.2) (p:=⟨E,0,none⟩) (.slice A m.length c))
 have n3_:=Ak ((HL5.out.up HEB.out).set HGW.out HPP.out HEW.out.1 0 (.slice A m.length c))
 have n4_:=Ak (blk_put (cs':=#[.slice A m.length c]) HE.out 0 (.slice A m.length c) rfl)
 clear HS5 HX5 HL5 HE HEN HEB he0 hf0
 generalize w6.setCell ⟨E,0,none⟩ (.slice A m.length c)=w7 at n1_ n2_ n3_ n4_ ⊢
 cases ok with
 | false=>
  have HS2:=Ak (HST.out.trans (if_pos (.inl rfl)))
  clear HST
  have hq0:=blk_cell n2_.out 0
  have hf0:=blk_frozen n2_.out 0
  go_wp2_with fail
  have HE9:=blk_put (cs':=#[.slice none 0 0]) n2_.out 0 (.slice none 0 0) rfl
  refine bodyPost_ret (results_ct rfl _ _ Q 32 _ (0,0) _ rfl HE9 Tryz.underlying32 rfl (by kernel_rfl)) rfl ?_
  rw [HS2.out]
  exact ⟨.slice none 0 0,rfl,Kd.S_nil _ _ _ _ _,n3_.out.set HGW.out HPP.out HRW.out.2.1 0 _⟩
 | true=>
  obtain ⟨-,hc,hC⟩:=Kd.S_reads' n1_.out
  have HM:=Ak (query_May.calls A c m (mayQ m) w7 hC hc (if_pos (List.all_eq_true.2 fun x hx=>fitC_iff.2 (HLE.out.2.2.1 x hx))))
  have he0:=blk_cell n4_.out 0
  clear hC hc
  go_wp2_with fail
  refine HM.out.mono ?_
  rintro e w8 ⟨rfl,hb8⟩
  have HS8:=Ak (Kd.S_below n1_.out hb8)
  have HX8:=Ak (blk_below n2_.out hb8)
  have HL8:=Ak (n3_.out.up hb8)
  have HE8:=Ak (blk_below n4_.out hb8)
  clear hb8 n1_ n2_ n3_ n4_ HM he0
  by_cases h0:mayQ m=0
  ·have hbn:(mayQ m != 0)=false:=bne_eq_false_iff_eq.mpr h0
   have HS2:=Ak (HST.out.trans (if_neg (by simp [h0])))
   clear HST h0
   have hq0:=blk_cell HX8.out 0
   have hf0:=blk_frozen HX8.out 0
   have he0:=blk_cell HE8.out 0
   go_wp2_with fail
   have HE9:=blk_put (cs':=#[.slice A m.length c]) HX8.out 0 (.slice A m.length c) rfl
   refine bodyPost_ret (results_ct rfl _ _ Q 32 _ (0,0) _ rfl HE9 Tryz.underlying32 rfl (by kernel_rfl)) rfl ?_
   rw [HS2.out]
   exact ⟨.slice A m.length c,rfl,S_set HS8.out HX8.out (by decide) 0 _,HL8.out.set HGW.out HPP.out HRW.out.2.1 0 _⟩
  ·have hbn:(mayQ m != 0)=true:=bne_iff_ne.mpr h0
   have HS2:=Ak (HST.out.trans (if_pos (.inr h0)))
   clear HST h0
   have hq0:=blk_cell HX8.out 0
   have hf0:=blk_frozen HX8.out 0
   go_wp2_with fail
   have HE9:=blk_put (cs':=#[.slice none 0 0]) HX8.out 0 (.slice none 0 0) rfl
   refine bodyPost_ret (results_ct rfl _ _ Q 32 _ (0,0) _ rfl HE9 Tryz.underlying32 rfl (by kernel_rfl)) rfl ?_
   rw [HS2.out]
   exact ⟨.slice none 0 0,rfl,Kd.S_nil _ _ _ _ _,HL8.out.set HGW.out HPP.out HRW.out.2.1 0 _⟩
set_option maxRecDepth 100000 in
theorem maybe_no (A:Option Addr) (c:Nat) (l:List Int) (f:Value) (w:World) (hC:Kd.C (Kd.int .u8) w A l.length l) (hc:l.length≤c) (hl:l.length≤100000000000) :
  Calls Tryz.prog 30 #[.slice A l.length c,.bool false,f] w fun e w'=>∃ v,e = .returned (.tuple #[v,.int .i64 0])∧Kd.R (Kd.int .u8) 5 w' w.heap.size (fun _=>True) v (l++enc 0)∧Below w.heap.size w w':=by
 have HP:=Ak (num_Put.calls A c l 0 (l++enc 0) w hC hc (if_pos ⟨by omega,by omega,by omega⟩))
 clear hC hc
 go_enter Tryz.func30,Tryz.ntmps30
 go_wp2_with fail
 refine HP.out.mono ?_
 rintro e w1 ⟨v,rfl,ho,hb⟩
 have HO:=Ak ho
 have HB:=Ak hb
 clear ho hb HP
 go_wp2
 go_ret2
 exact ⟨_,rfl,HO.out,HB.out⟩
set_option maxRecDepth 100000 in
theorem maybe_yes (G:Nat) (q1:Value) (r:List Int) (pe:Int) (A:Option Addr) (c:Nat) (l:List Int) (w:World) (hC:Kd.C (Kd.int .u8) w A l.length l) (hc:l.length≤c) (hl:l.length≤100000000000)
  (hent:∀ (xs:Array Value) (W:World),(callFunc G xs).run Tryz.prog W = .ok (.enter G xs) W)
  (hs:∀ w1 A' c',Below w.heap.size w w1→Kd.C (Kd.int .u8) w1 A' (l++enc 1).length (l++enc 1)→(l++enc 1).length≤c'→Calls Tryz.prog G #[.slice A' (l++enc 1).length c',q1] w1 fun e w2=>∃ v,e = .returned (.tuple #[v,.int .i64 pe])∧Kd.R (Kd.int .u8) 5 w2 w1.heap.size (fun _=>True) v r∧Below w1.heap.size w1 w2) :
  Calls Tryz.prog 30 #[.slice A l.length c,.bool true,.func (.func G) #[] #[q1]] w fun e w'=>∃ v,e = .returned (.tuple #[v,.int .i64 pe])∧Kd.R (Kd.int .u8) 5 w' w.heap.size (fun _=>True) v r∧Below w.heap.size w w':=by
 obtain ⟨l1,hl1⟩:∃ l1,l1=l++enc 1:=⟨_,rfl⟩
 rw [←hl1] at hs
 have HP:=Ak (num_Put.calls A c l 1 l1 w hC hc (by rw [hl1];exact if_pos ⟨by omega,by omega,by omega⟩))
 have HS:=Ak hs
 clear hC hc hs hl1
 go_enter Tryz.func30,Tryz.ntmps30
 go_wp2_with fail
 refine HP.out.mono ?_
 rintro e w1 ⟨v,rfl,ho,hb⟩
 obtain ⟨A1,c1,e1⟩:=Kd.R_slice ho
 subst e1
 obtain ⟨-,hc1,hC1⟩:=Kd.R_reads' ho
 have HB:=Ak hb
 have HC:=Ak (HS.out w1 A1 c1 hb hC1 hc1)
 clear ho hb HP hc1 hC1
 go_wp2_with fail
 refine HC.out.mono ?_
 rintro e w2 ⟨v2,rfl,ho,hb⟩
 have HO:=Ak (Kd.R_lower ho HB.out.size)
 have HB2:=Ak (below_step HB.out hb)
 clear ho hb HC
 go_wp2
 go_ret2
 exact ⟨_,rfl,HO.out,HB2.out⟩
set_option maxRecDepth 100000 in
theorem putEv_calls (Q:Nat) (x:S29) (A2:Option Addr) (c2:Nat) (A3:Option Addr) (c3:Nat) (w:World) (hQ:w.heap[Q]? = some (.cells #[.string x.f0,.string x.f1,.slice A2 x.f2.length c2,.slice A3 x.f3.length c3] 29 (0,0)))
  (h2:Kd.C Kd.string w A2 x.f2.length x.f2) (l2:x.f2.length≤c2) (h3:Kd.C k90 w A3 x.f3.length x.f3) (l3:x.f3.length≤c3) (hf:fitE x.f0 x.f1 x.f2 x.f3=true)
  (A:Option Addr) (c:Nat) (l:List Int) (hC:Kd.C (Kd.int .u8) w A l.length l) (hc:l.length≤c) (hl:l.length≤100000000000) (r1:List Int) (r2:Int) (hr:(if mayE x.f0 x.f1 x.f2 x.f3=0 then (l++encEv x.f0 x.f1 x.f2 x.f3,(0:Int)) else ([],mayE x.f0 x.f1 x.f2 x.f3))=(r1,r2)) :
  Calls Tryz.prog 32 #[.slice A l.length c,.pointer (some ⟨Q,0,none⟩)] w fun e w'=>∃ v,e = .returned (.tuple #[v,.int .i64 r2])∧Kd.R (Kd.int .u8) 5 w' w.heap.size (fun _=>True) v r1∧Below w.heap.size w w':=by
 have HP:=Ak (evcode_PutG.calls A c l x.f0 x.f1 A2 c2 x.f2 A3 c3 x.f3 r1 r2 w hC hc h2 l2 h3 l3 (by rw [←hr];exact putG_ok (by omega) (Kd.C_max h2) hf))
 have hq0:=blk_cell hQ 0
 have hq1:=blk_cell hQ 1
 have hq2:=blk_cell hQ 2
 have hq3:=blk_cell hQ 3
 have hu29:=Tryz.underlying29
 clear hr hC hc h2 l2 h3 l3 hf hQ
 go_enter Tryz.func32,Tryz.ntmps32
 go_wp2_with fail
 refine HP.out.mono ?_
 rintro e w1 ⟨v,rfl,ho,hb⟩
 have HO:=Ak ho
 have HB:=Ak hb
 clear ho hb HP
 go_wp2
 go_ret2
 exact ⟨_,rfl,HO.out,HB.out⟩
set_option maxRecDepth 100000 in
theorem putQu_calls (X:Nat) (u0 u1 u2 u3 u4 u5 u6 u7 u8:Value) (q:List S96) (A2:Option Addr) (c2:Nat) (w:World) (hQ:w.heap[X]? = some (.cells #[u0,u1,u2,u3,u4,u5,u6,u7,u8,.slice A2 q.length c2] 34 (0,0)))
  (h2:Kd.C k96 w A2 q.length q) (l2:q.length≤c2) (hf:q.all fitC=true)
  (A:Option Addr) (c:Nat) (l:List Int) (hC:Kd.C (Kd.int .u8) w A l.length l) (hc:l.length≤c) (hl:l.length≤100000000000) (r1:List Int) (r2:Int) (hr:(if mayQ q=0 then (l++encQ q,(0:Int)) else ([],mayQ q))=(r1,r2)) :
  Calls Tryz.prog 34 #[.slice A l.length c,.pointer (some ⟨X,0,none⟩)] w fun e w'=>∃ v,e = .returned (.tuple #[v,.int .i64 r2])∧Kd.R (Kd.int .u8) 5 w' w.heap.size (fun _=>True) v r1∧Below w.heap.size w w':=by
 have HP:=Ak (qcode_Put.calls A c l A2 c2 q r1 r2 w hC hc h2 l2 (by rw [←hr];exact qput_ok hl hf))
 have hq9:=blk_cell hQ 9
 have hu32:=Tryz.underlying32
 have hu34:=Tryz.underlying34
 clear hr hC hc h2 l2 hf hQ
 go_enter Tryz.func34,Tryz.ntmps34
 go_wp2_with fail
 refine HP.out.mono ?_
 rintro e w1 ⟨v,rfl,ho,hb⟩
 have HO:=Ak ho
 have HB:=Ak hb
 clear ho hb HP
 go_wp2
 go_ret2
 exact ⟨_,rfl,HO.out,HB.out⟩
theorem bp10 {W:World} {Z t:Nat} {c0 c1 c2 c3 c4 c5 c6 c7 c8 c9:Value} (h:W.heap[Z]? = some (.cells #[c0,c1,c2,c3,c4,c5,c6,c7,c8,c9] t (0,0))) (v0 v1 v2 v3 v4 v5 v6 v7 v8 v9:Value):((((((((((W.setCell ⟨Z,0,none⟩ v0).setCell ⟨Z,1,none⟩ v1).setCell ⟨Z,2,none⟩ v2).setCell ⟨Z,3,none⟩ v3).setCell ⟨Z,4,none⟩ v4).setCell ⟨Z,5,none⟩ v5).setCell ⟨Z,6,none⟩ v6).setCell ⟨Z,7,none⟩ v7).setCell ⟨Z,8,none⟩ v8).setCell ⟨Z,9,none⟩ v9).heap[Z]? = some (.cells #[v0,v1,v2,v3,v4,v5,v6,v7,v8,v9] t (0,0)):=(blk_put (cs':=#[v0,v1,v2,v3,v4,v5,v6,v7,v8,v9]) (blk_put (cs':=#[v0,v1,v2,v3,v4,v5,v6,v7,v8,c9]) (blk_put (cs':=#[v0,v1,v2,v3,v4,v5,v6,v7,c8,c9]) (blk_put (cs':=#[v0,v1,v2,v3,v4,v5,v6,c7,c8,c9]) (blk_put (cs':=#[v0,v1,v2,v3,v4,v5,c6,c7,c8,c9]) (blk_put (cs':=#[v0,v1,v2,v3,v4,c5,c6,c7,c8,c9]) (blk_put (cs':=#[v0,v1,v2,v3,c4,c5,c6,c7,c8,c9]) (blk_put (cs':=#[v0,v1,v2,c3,c4,c5,c6,c7,c8,c9]) (blk_put (cs':=#[v0,v1,c2,c3,c4,c5,c6,c7,c8,c9]) (blk_put (cs':=#[v0,c1,c2,c3,c4,c5,c6,c7,c8,c9]) h 0 v0 rfl) 1 v1 rfl) 2 v2 rfl) 3 v3 rfl) 4 v4 rfl) 5 v5 rfl) 6 v6 rfl) 7 v7 rfl) 8 v8 rfl) 9 v9 rfl)
theorem bb10 {w W:World} {B Z:Nat} (h:Below B w W) (hz:B≤Z) (v0 v1 v2 v3 v4 v5 v6 v7 v8 v9:Value):Below B w ((((((((((W.setCell ⟨Z,0,none⟩ v0).setCell ⟨Z,1,none⟩ v1).setCell ⟨Z,2,none⟩ v2).setCell ⟨Z,3,none⟩ v3).setCell ⟨Z,4,none⟩ v4).setCell ⟨Z,5,none⟩ v5).setCell ⟨Z,6,none⟩ v6).setCell ⟨Z,7,none⟩ v7).setCell ⟨Z,8,none⟩ v8).setCell ⟨Z,9,none⟩ v9):=((((((((((h.setCell (p:=⟨Z,0,none⟩) hz v0).setCell (p:=⟨Z,1,none⟩) hz v1).setCell (p:=⟨Z,2,none⟩) hz v2).setCell (p:=⟨Z,3,none⟩) hz v3).setCell (p:=⟨Z,4,none⟩) hz v4).setCell (p:=⟨Z,5,none⟩) hz v5).setCell (p:=⟨Z,6,none⟩) hz v6).setCell (p:=⟨Z,7,none⟩) hz v7).setCell (p:=⟨Z,8,none⟩) hz v8).setCell (p:=⟨Z,9,none⟩) hz v9)
theorem kb10 (W:World) (Z:Nat) (v0 v1 v2 v3 v4 v5 v6 v7 v8 v9:Value):KeepBut W ((((((((((W.setCell ⟨Z,0,none⟩ v0).setCell ⟨Z,1,none⟩ v1).setCell ⟨Z,2,none⟩ v2).setCell ⟨Z,3,none⟩ v3).setCell ⟨Z,4,none⟩ v4).setCell ⟨Z,5,none⟩ v5).setCell ⟨Z,6,none⟩ v6).setCell ⟨Z,7,none⟩ v7).setCell ⟨Z,8,none⟩ v8).setCell ⟨Z,9,none⟩ v9) Z none:=(((((((((((KeepBut.refl W Z none).set_ 0 v0).set_ 1 v1).set_ 2 v2).set_ 3 v3).set_ 4 v4).set_ 5 v5).set_ 6 v6).set_ 7 v7).set_ 8 v8).set_ 9 v9)
theorem cl10 {W:World} {Z t:Nat} {c0 c1 c2 c3 c4 c5 c6 c7 c8 c9:Value} (h:W.heap[Z]? = some (.cells #[c0,c1,c2,c3,c4,c5,c6,c7,c8,c9] t (0,0))):W.cell? ⟨Z,0,none⟩=some c0∧W.cell? ⟨Z,1,none⟩=some c1∧W.cell? ⟨Z,2,none⟩=some c2∧W.cell? ⟨Z,3,none⟩=some c3∧W.cell? ⟨Z,4,none⟩=some c4∧W.cell? ⟨Z,5,none⟩=some c5∧W.cell? ⟨Z,6,none⟩=some c6∧W.cell? ⟨Z,7,none⟩=some c7∧W.cell? ⟨Z,8,none⟩=some c8∧W.cell? ⟨Z,9,none⟩=some c9:=⟨blk_cell h 0,blk_cell h 1,blk_cell h 2,blk_cell h 3,blk_cell h 4,blk_cell h 5,blk_cell h 6,blk_cell h 7,blk_cell h 8,blk_cell h 9⟩
theorem fr10 {W:World} {Z t:Nat} {c0 c1 c2 c3 c4 c5 c6 c7 c8 c9:Value} (h:W.heap[Z]? = some (.cells #[c0,c1,c2,c3,c4,c5,c6,c7,c8,c9] t (0,0))):W.frozen? ⟨Z,0,none⟩=false∧W.frozen? ⟨Z,1,none⟩=false∧W.frozen? ⟨Z,2,none⟩=false∧W.frozen? ⟨Z,3,none⟩=false∧W.frozen? ⟨Z,4,none⟩=false∧W.frozen? ⟨Z,5,none⟩=false∧W.frozen? ⟨Z,6,none⟩=false∧W.frozen? ⟨Z,7,none⟩=false∧W.frozen? ⟨Z,8,none⟩=false∧W.frozen? ⟨Z,9,none⟩=false:=⟨blk_frozen h 0,blk_frozen h 1,blk_frozen h 2,blk_frozen h 3,blk_frozen h 4,blk_frozen h 5,blk_frozen h 6,blk_frozen h 7,blk_frozen h 8,blk_frozen h 9⟩
structure StC (w:World) (t:S34) (A7:Option Addr) (c7:Nat) (A8:Option Addr) (c8:Nat) (A9:Option Addr) (c9:Nat):Prop where
 h7:Kd.C Kd.string w A7 t.f5.f2.length t.f5.f2
 l7:t.f5.f2.length≤c7
 h8:Kd.C k90 w A8 t.f5.f3.length t.f5.f3
 l8:t.f5.f3.length≤c8
 h9:Kd.C k96 w A9 t.f6.f0.length t.f6.f0
 l9:t.f6.f0.length≤c9
structure FitS (t:S34):Prop where
 k0:i64 t.f0
 k1:i64 t.f1
 k2:i64 t.f2
 k3:i64 t.f3
 k4:t.f4.size≤1000000000
 k5:t.f5.f2.length≤1000000
 hv:fitE t.f5.f0 t.f5.f1 t.f5.f2 t.f5.f3=true
 hq:t.f6.f0.all fitC=true
def stV (t:S34) (A7:Option Addr) (c7:Nat) (A8:Option Addr) (c8:Nat) (A9:Option Addr) (c9:Nat):Value:=.agg #[.int .i64 t.f0,.int .i64 t.f1,.int .i64 t.f2,.int .i64 t.f3,.string t.f4,.string t.f5.f0,.string t.f5.f1,.slice A7 t.f5.f2.length c7,.slice A8 t.f5.f3.length c8,.slice A9 t.f6.f0.length c9]
theorem noV_a {es et:ByteArray} {tg:List ByteArray} {fl:List S90} (h:¬es.toList=[]):noV ⟨es,et,tg,fl⟩=false:=by
 cases hc:noV ⟨es,et,tg,fl⟩ with
 | false=>rfl
 | true=>
  have:=(noV_iff _).1 hc
  simp only [z29,S29.mk.injEq] at this
  exact absurd (by rw [this.1];rw [Lib.toList_data]) h
theorem noV_b {es et:ByteArray} {tg:List ByteArray} {fl:List S90} (h:¬et.toList=[]):noV ⟨es,et,tg,fl⟩=false:=by
 cases hc:noV ⟨es,et,tg,fl⟩ with
 | false=>rfl
 | true=>
  have:=(noV_iff _).1 hc
  simp only [z29,S29.mk.injEq] at this
  exact absurd (by rw [this.2.1];rw [Lib.toList_data]) h
theorem noV_c {es et:ByteArray} {tg:List ByteArray} {fl:List S90} (h:es.toList=[]) (h2:et.toList=[]) (ht:tg.length≤1000000) (hf:fl.length < 8796093022208):decide (0 < (tg.length:Int)+(fl.length:Int)) = !noV ⟨es,et,tg,fl⟩:=by
 unfold noV
 simp only
 rw [empty_size h,empty_size h2]
 by_cases h0:tg.length+fl.length=0
 ·rw [decide_eq_false (show ¬((0:Int) < (tg.length:Int)+(fl.length:Int)) by omega),decide_eq_true h0];rfl
 ·rw [decide_eq_true (show (0:Int) < (tg.length:Int)+(fl.length:Int) by omega),decide_eq_false h0];rfl
set_option maxRecDepth 100000 in
theorem maybeV_calls (Q:Nat) (x:S29) (A2:Option Addr) (c2:Nat) (A3:Option Addr) (c3:Nat) (w:World) (hQ:w.heap[Q]? = some (.cells #[.string x.f0,.string x.f1,.slice A2 x.f2.length c2,.slice A3 x.f3.length c3] 29 (0,0)))
  (h2:Kd.C Kd.string w A2 x.f2.length x.f2) (l2:x.f2.length≤c2) (h3:Kd.C k90 w A3 x.f3.length x.f3) (l3:x.f3.length≤c3) (hf:fitE x.f0 x.f1 x.f2 x.f3=true)
  (A:Option Addr) (c:Nat) (l:List Int) (hC:Kd.C (Kd.int .u8) w A l.length l) (hc:l.length≤c) (hl:l.length≤10000000000) (nv:Bool) (hnv:nv=noV x) (r1:List Int) (r2:Int) (hr:(if mayV x=0 then (l++encV x,(0:Int)) else ([],mayV x))=(r1,r2)) :
  Calls Tryz.prog 30 #[.slice A l.length c,.bool (!nv),.func (.func 32) #[] #[.pointer (some ⟨Q,0,none⟩)]] w fun e w'=>∃ v,e = .returned (.tuple #[v,.int .i64 r2])∧Kd.R (Kd.int .u8) 5 w' w.heap.size (fun _=>True) v r1∧Below w.heap.size w w':=by
 cases nv with
 | true=>
  have hm:mayV x=0:=by unfold mayV;rw [if_pos hnv.symm]
  have he:encV x=enc 0:=by unfold encV;rw [if_pos hnv.symm]
  rw [if_pos hm,he] at hr
  obtain ⟨rfl,rfl⟩:=Prod.mk.inj hr
  exact maybe_no A c l _ w hC hc (by omega)
 | false=>
  have hn:¬noV x=true:=by rw [←hnv];simp
  have hm:mayV x=mayE x.f0 x.f1 x.f2 x.f3:=by unfold mayV;rw [if_neg hn]
  have he:encV x=enc 1++encEv x.f0 x.f1 x.f2 x.f3:=by unfold encV;rw [if_neg hn]
  rw [hm,he,←List.append_assoc] at hr
  have h1:=enc_len (x:=1) ⟨by decide,by decide⟩
  exact maybe_yes 32 _ r1 r2 A c l w hC hc (by omega) (enters_of Tryz.func32 (by kernel_rfl) rfl) (fun w1 A' c' hb hC1 hc1=>putEv_calls Q x A2 c2 A3 c3 w1 (blk_below hQ hb) (Kd.C_below h2 hb) l2 (Kd.C_below h3 hb) l3 hf A' c' (l++enc 1) hC1 hc1 (by rw [List.length_append];omega) r1 r2 hr)
set_option maxRecDepth 100000 in
theorem maybeW_calls (X:Nat) (u0 u1 u2 u3 u4 u5 u6 u7 u8:Value) (q:List S96) (A2:Option Addr) (c2:Nat) (w:World) (hQ:w.heap[X]? = some (.cells #[u0,u1,u2,u3,u4,u5,u6,u7,u8,.slice A2 q.length c2] 34 (0,0)))
  (h2:Kd.C k96 w A2 q.length q) (l2:q.length≤c2) (hf:q.all fitC=true)
  (A:Option Addr) (c:Nat) (l:List Int) (hC:Kd.C (Kd.int .u8) w A l.length l) (hc:l.length≤c) (hl:l.length≤10000000000) (r1:List Int) (r2:Int) (hr:(if mayW q=0 then (l++encW q,(0:Int)) else ([],mayW q))=(r1,r2)) :
  Calls Tryz.prog 30 #[.slice A l.length c,.bool (decide (0 < q.length)),.func (.func 34) #[] #[.pointer (some ⟨X,0,none⟩)]] w fun e w'=>∃ v,e = .returned (.tuple #[v,.int .i64 r2])∧Kd.R (Kd.int .u8) 5 w' w.heap.size (fun _=>True) v r1∧Below w.heap.size w w':=by
 by_cases hz:q.length=0
 ·have hm:mayW q=0:=by unfold mayW;rw [if_pos hz]
  have he:encW q=enc 0:=by unfold encW;rw [if_pos hz]
  rw [if_pos hm,he] at hr
  obtain ⟨rfl,rfl⟩:=Prod.mk.inj hr
  rw [decide_eq_false (by omega)]
  exact maybe_no A c l _ w hC hc (by omega)
 ·have hm:mayW q=mayQ q:=by unfold mayW;rw [if_neg hz]
  have he:encW q=enc 1++encQ q:=by unfold encW;rw [if_neg hz]
  rw [hm,he,←List.append_assoc] at hr
  have h1:=enc_len (x:=1) ⟨by decide,by decide⟩
  rw [decide_eq_true (by omega)]
  exact maybe_yes 34 _ r1 r2 A c l w hC hc (by omega) (enters_of Tryz.func34 (by kernel_rfl) rfl) (fun w1 A' c' hb hC1 hc1=>putQu_calls X u0 u1 u2 u3 u4 u5 u6 u7 u8 q A2 c2 w1 (blk_below hQ hb) (Kd.C_below h2 hb) l2 hf A' c' (l++enc 1) hC1 hc1 (by rw [List.length_append];omega) r1 r2 hr)
theorem flat_take (ns:List Int) (i:Nat) (h:i < ns.length):(ns.take (i+1)).flatMap enc=(ns.take i).flatMap enc++enc (ns.getD i 0):=by
 rw [List.take_succ_eq_append_getElem h,List.flatMap_append]
 congr 1
 rw [List.getD_eq_getElem?_getD,List.getElem?_eq_getElem h];simp
theorem flat_len (ns:List Int) (h:∀ x ∈ ns,i64 x):(ns.flatMap enc).length≤10 * ns.length:=flat_size ns (fun x hx=>enc_len (h x hx))
set_option maxRecDepth 100000 in
set_option maxHeartbeats 4000000 in
theorem put_calls22 (t:S34) (A7:Option Addr) (c7:Nat) (A8:Option Addr) (c8:Nat) (A9:Option Addr) (c9:Nat) (w:World) (h:StC w t A7 c7 A8 c8 A9 c9) (hf:FitS t) (p:List Int) (pe:Int) (hp:putS t=(p,pe)) :
  Calls Tryz.prog 10 #[stV t A7 c7 A8 c8 A9 c9] w fun e w'=>∃ v,e = .returned (.tuple #[v,.int .i64 pe])∧Kd.R (Kd.int .u8) 5 w' w.heap.size (fun _=>True) v p∧Below w.heap.size w w':=by
 obtain ⟨h7,l7,h8,l8,h9,l9⟩:=h
 obtain ⟨k0,k1,k2,k3,k4,k5,hv,hq⟩:=hf
 obtain ⟨k,s,n,m,st,⟨es,et,tg,fl⟩,⟨q⟩⟩:=t
 simp only at h7 l7 h8 l8 h9 l9 k0 k1 k2 k3 k4 k5 hv hq
 unfold stV
 simp only
 obtain ⟨ns,hns⟩:∃ ns,ns=[k,s,n,m]:=⟨_,rfl⟩
 have hnl:ns.length=4:=by rw [hns];rfl
 have HNS:Aside0 (∀ x ∈ ns,i64 x):=⟨by
  rw [hns]
  intro x hx
  simp only [List.mem_cons,List.not_mem_nil,or_false] at hx
  rcases hx with rfl | rfl | rfl | rfl <;> assumption⟩
 have HFL:=Ak (show ns.flatMap enc++encT (bytesOf st)=encK ⟨k,s,n,m,st,⟨es,et,tg,fl⟩,⟨q⟩⟩ by
  rw [hns]
  unfold encK
  simp [List.append_assoc])
 have H7:=Ak (And.intro h7 l7)
 have H8:=Ak (And.intro h8 l8)
 have H9:=Ak (And.intro h9 l9)
 have HV:=Ak (And.intro k4 hv)
 have HTL:=Ak k5
 have HQ:=Ak hq
 have HP:=Ak hp
 have HNK:=Ak hns
 have HNL:=Ak hnl
 clear h7 l7 h8 l8 h9 l9 k0 k1 k2 k3 hv hq hp k4 k5 hnl hns
 have hu34:=Tryz.underlying34
 have hu29:=Tryz.underlying29
 have hu32:=Tryz.underlying32
 go_enter Tryz.func10,Tryz.ntmps10
 go_upto_region 1 with (((with_reducible refine gate_dst (N:=1) rfl ?_);(try (refine gate_guard (by rfl) ?_;dsimp only));refine box_event ?hg (N:=1) ?hd (cs:=#[.int .i64 k,.int .i64 s,.int .i64 n,.int .i64 m,.string st,.string es,.string et,.slice A7 tg.length c7,.slice A8 fl.length c8,.slice A9 q.length c9]) (t:=34) ?hr ?_;(case hd=>rfl);(case hg=>rfl);(case hr=>(go_simp;done));intro X hg_ w1 hbox_ hb_;have HX:=Ak hbox_;have HXN:=Ak hg_;have HXB:=Ak hb_;clear hbox_ hg_ hb_;obtain ⟨hx0,hx1,hx2,hx3,hx4,hx5,hx6,hx7,hx8,hx9⟩:=cl10 HX.out;obtain ⟨hf0,hf1,hf2,hf3,hf4,hf5,hf6,hf7,hf8,hf9⟩:=fr10 HX.out))
 go_upto_region 3 with (((with_reducible refine gate_dst (N:=18) rfl ?_);refine Kd.R_lit (Kd.int .i64) (w0:=w1) w1.heap.size 3 ?hg (N:=18) ?hd (xs:=[k,s,n,m]) (inner:=[.int .i64 k,.int .i64 s,.int .i64 n,.int .i64 m]) (ok:=fun _=>True) (okp:=fun _=>True) ?hr ?hp (fun _ hk=>hk) trivial (Below.refl _ _) (Nat.le_refl _) (by simp) ?_;(case hd=>rfl);(case hg=>rfl);(case hr=>(go_simp;done));(case hp=>exact Kd.reps_scalar [k,s,n,m]);intro v18 w2 ho hb hg hat;rw [←HNK.out] at ho;have HO18:=Ak ho;have HB2:=Ak hb;obtain ⟨A18,c18,e18⟩:=Kd.R_slice ho;subst e18;clear ho hb hg hat))
 have HX2:=Ak (blk_below HX.out HB2.out)
 have HBW2:=Ak (below_then HXB.out HXB.out.size HB2.out)
 have hn4:ns.length≤4:=by have:=HNL.out;omega
 clear HX HXN HXB HB2 hx0 hx1 hx2 hx3 hx4 hx5 hx6 hx7 hx8 hx9 hf0 hf1 hf2 hf3 hf4 hf5 hf6 hf7 hf8 hf9
 go_loopg [4,20] ns.length (fun gk v4 v20 w'=>∃ i:Nat,v20 = .int .i64 (i:Int)∧Aside0 (i+gk=ns.length)∧Aside0 (Kd.R (Kd.int .u8) 5 w' w.heap.size (fun _=>True) v4 ((ns.take i).flatMap enc))∧Aside0 (Below w2.heap.size w2 w'))
 case atStart=>exact ⟨0,rfl,⟨by omega⟩,⟨Kd.R_nil _ _ _ _ _⟩,⟨Below.refl _ _⟩⟩
 case round=>
  obtain ⟨i,rfl,HE,HO4,HB4⟩:=hrel
  obtain ⟨A4,c4,e4⟩:=Kd.R_slice HO4.out
  subst e4
  obtain ⟨-,hc4,hC4⟩:=Kd.R_reads' HO4.out
  by_cases hlt:i < ns.length
  ·have hb1:decide ((i:Int) < (ns.length:Int))=true:=decide_eq_true (by omega)
   obtain ⟨-,hc18,hC18⟩:=Kd.R_reads' HO18.out
   obtain ⟨ad,e_,hx⟩:=Kd.at_int (Kd.C_below hC18 HB4.out) (i:Int) (by omega) (by omega)
   cases e_
   rw [Int.toNat_natCast] at hx
   have hft:=flat_take ns i hlt
   have hfl:=flat_len (ns.take i) (fun x hx=>HNS.out x (List.mem_of_mem_take hx))
   rw [List.length_take] at hfl
   have hy:=HNS.out (ns.getD i 0) (getD_mem' hlt _)
   obtain ⟨y,hyd⟩:∃ y,y=rd ns (i:Int):=⟨_,rfl⟩
   have hyd':ns.getD i 0=y:=by rw [hyd];rfl
   rw [←hyd] at hx
   rw [hyd'] at hy hft
   obtain ⟨l4,hl4⟩:∃ l4,l4=(ns.take i).flatMap enc:=⟨_,rfl⟩
   rw [←hl4] at hft hfl hC4 hc4 HO4 ⊢
   have HPN:=Ak (num_Put.calls A4 c4 l4 y (l4++enc y) wr hC4 hc4 (if_pos ⟨by have:=HNL.out;omega,hy.1,hy.2⟩))
   have HFT:=Ak hft
   have HSZ:=Ak (Nat.le_trans HBW2.out.size HB4.out.size)
   clear hft hfl hy hyd hyd' hl4 hC4 hc4 hC18 hc18
   go_wp2_with fail
   refine HPN.out.mono ?_
   rintro e w3 ⟨v3,rfl,ho,hb⟩
   have HO5:=Ak (show Kd.R (Kd.int .u8) 5 w3 w.heap.size (fun _=>True) v3 ((ns.take (i+1)).flatMap enc) by rw [HFT.out];exact Kd.R_lower ho HSZ.out)
   have HB5:=Ak (below_step HB4.out hb)
   clear ho hb HPN
   go_wp2
   go_roundg (ns.length - (i+1))
   case measure=>have:=HE.out;omega
   case rel=>exact ⟨i+1,by go_num,⟨by have:=HE.out;omega⟩,HO5,HB5⟩
  ·have hb1:decide ((i:Int) < (ns.length:Int))=false:=decide_eq_false (by omega)
   obtain ⟨lk,hlk⟩:∃ lk,lk=(ns.take i).flatMap enc:=⟨_,rfl⟩
   have HLK:=Ak (show lk++encT (bytesOf st)=encK ⟨k,s,n,m,st,⟨es,et,tg,fl⟩,⟨q⟩⟩ by rw [←HFL.out,hlk,List.take_of_length_le (by omega)])
   have hfl:=flat_len (ns.take i) (fun x hx=>HNS.out x (List.mem_of_mem_take hx))
   rw [←hlk,List.length_take] at hfl
   have HKL:Aside0 (lk.length≤40):=⟨by have:=HNL.out;omega⟩
   rw [←hlk] at HO4 ⊢
   have HX:=Ak (blk_below HX2.out HB4.out)
   have HBW:=Ak (below_then HBW2.out HBW2.out.size HB4.out)
   clear hlk hfl hc4 hC4 HX2 HBW2 HB4 HO18 HNS HFL HNK HNL
   have hx4:=blk_cell HX.out 4
   have hx5:=blk_cell HX.out 5
   have hx6:=blk_cell HX.out 6
   have hx7:=blk_cell HX.out 7
   have hx8:=blk_cell HX.out 8
   go_upto_region 8 with (((with_reducible refine gate_dst (N:=7) rfl ?_);(try (refine gate_guard (by rfl) ?_;dsimp only));refine box_event ?hg (N:=7) ?hd (cs:=#[.string ⟨#[]⟩,.string ⟨#[]⟩,.slice none 0 0,.slice none 0 0]) (t:=29) ?hr ?_;(case hd=>rfl);(case hg=>rfl);(case hr=>(go_simp;done));intro V hg_ w4 hbox_ hb_;have HV4:=Ak hbox_;have HVN:=Ak hg_;have HVB:=Ak hb_;clear hbox_ hg_ hb_;have hv0:=blk_cell HV4.out 0;have hg0:=blk_frozen HV4.out 0;have hv1:=blk_cell HV4.out 1;have hg1:=blk_frozen HV4.out 1;have hv2:=blk_cell HV4.out 2;have hg2:=blk_frozen HV4.out 2;have hv3:=blk_cell HV4.out 3;have hg3:=blk_frozen HV4.out 3))
   have HVW:=Ak (show w.heap.size≤V∧X≠V by
    have h1:=HVN.out
    have h2:=blk_lt HX.out
    have h3:=HBW.out.size
    omega)
   have n1_:=Ak (blk_far (blk_far (blk_far (blk_far (blk_below HX.out HVB.out) HVW.out.2 (p:=⟨V,0,none⟩) (.string es)) HVW.out.2 (p:=⟨V,1,none⟩) (.string et)) HVW.out.2 (p:=⟨V,2,none⟩) (.slice A7 tg.length c7)) HVW.out.2 (p:=⟨V,3,none⟩) (.slice A8 fl.length c8))
   have n2_:=Ak (blk_put (cs':=#[.string es,.string et,.slice A7 tg.length c7,.slice A8 fl.length c8]) (blk_put (cs':=#[.string es,.string et,.slice A7 tg.length c7,.slice none 0 0]) (blk_put (cs':=#[.string es,.string et,.slice none 0 0,.slice none 0 0]) (blk_put (cs':=#[.string es,.string ⟨#[]⟩,.slice none 0 0,.slice none 0 0]) HV4.out 0 (.string es) rfl) 1 (.string et) rfl) 2 (.slice A7 tg.length c7) rfl) 3 (.slice A8 fl.length c8) rfl)
   have n3_:=Ak (((((below_step HBW.out HVB.out).setCell (p:=⟨V,0,none⟩) HVW.out.1 (.string es)).setCell (p:=⟨V,1,none⟩) HVW.out.1 (.string et)).setCell (p:=⟨V,2,none⟩) HVW.out.1 (.slice A7 tg.length c7)).setCell (p:=⟨V,3,none⟩) HVW.out.1 (.slice A8 fl.length c8))
   have n4_:=Ak (R_set4 (Kd.R_below HO4.out HVB.out) HV4.out (by decide) (.string es) (.string et) (.slice A7 tg.length c7) (.slice A8 fl.length c8))
   clear HX HBW HO4 HV4 HVN HVB hv0 hv1 hv2 hv3 hg0 hg1 hg2 hg3 hx4 hx5 hx6 hx7 hx8
   generalize (((w4.setCell ⟨V,0,none⟩ (.string es)).setCell ⟨V,1,none⟩ (.string et)).setCell ⟨V,2,none⟩ (.slice A7 tg.length c7)).setCell ⟨V,3,none⟩ (.slice A8 fl.length c8)=w5 at n1_ n2_ n3_ n4_ ⊢
   have hv0:=blk_cell n2_.out 0
   have hv1:=blk_cell n2_.out 1
   have hv2:=blk_cell n2_.out 2
   have hv3:=blk_cell n2_.out 3
   obtain ⟨nv,hnv⟩:∃ nv,nv=noV ⟨es,et,tg,fl⟩:=⟨_,rfl⟩
   have HNV:=Ak hnv
   clear hnv
   go_cut [8] (fun v8 wc=>v8 = .bool (!nv)∧w5=wc)
   case first=>
    have hfl:=(fitE_iff.1 HV.out.2).2.2.2.2
    have htl:=HTL.out
    go_wp2
    all_goals go_meet
    all_goals exact ⟨by rw [HNV.out];first | (rw [noV_a (by assumption)];rfl) | (rw [noV_b (by assumption)];rfl) | (exact congrArg Value.bool (noV_c ‹es.toList=[]› ‹et.toList=[]› htl hfl)),rfl⟩
   case rest=>
   obtain ⟨rfl,rfl⟩:=hcut
   obtain ⟨-,hc4,hC4⟩:=Kd.R_reads' n4_.out
   have HPT:=Ak (num_PutText.calls A4 c4 lk st (lk++encT (bytesOf st)) w5 hC4 hc4 (if_pos (by have:=HKL.out;have:=HV.out.1;omega)))
   rw [HLK.out] at HPT
   obtain ⟨l5,hl5⟩:∃ l5,l5=encK ⟨k,s,n,m,st,⟨es,et,tg,fl⟩,⟨q⟩⟩:=⟨_,rfl⟩
   rw [←hl5] at HPT HLK
   have hl5z:l5.length≤1000000100:=by
    rw [←HLK.out,List.length_append]
    have:=encT_len st (by have:=HV.out.1;omega)
    have:=HKL.out
    have:=HV.out.1
    omega
   have HL5:=Ak hl5
   clear hc4 hC4 hl5
   have hx4:=blk_cell n1_.out 4
   go_wp2_with fail
   refine HPT.out.mono ?_
   rintro e w6 ⟨v6,rfl,ho,hb⟩
   obtain ⟨A6,c6,e6⟩:=Kd.R_slice ho
   subst e6
   obtain ⟨-,hc6,hC6⟩:=Kd.R_reads' ho
   have HX6:=Ak (blk_below n1_.out hb)
   have HV6:=Ak (blk_below n2_.out hb)
   have HB6:=Ak (below_step n3_.out hb)
   have HL5z:=Ak hl5z
   obtain ⟨⟨r1,r2⟩,hr⟩:∃ r,(if mayV ⟨es,et,tg,fl⟩=0 then (l5++encV ⟨es,et,tg,fl⟩,(0:Int)) else ([],mayV ⟨es,et,tg,fl⟩))=r:=⟨_,rfl⟩
   have HM:=Ak (maybeV_calls V ⟨es,et,tg,fl⟩ A7 c7 A8 c8 w6 HV6.out (Kd.C_below H7.out.1 HB6.out) H7.out.2 (Kd.C_below H8.out.1 HB6.out) H8.out.2 HV.out.2 A6 c6 l5 hC6 hc6 (by omega) nv HNV.out r1 r2 hr)
   have HR:=Ak hr
   clear n1_ n2_ n3_ n4_ hv0 hv1 hv2 hv3 hx4 ho hb hc6 hC6 HPT hl5z hr
   go_wp2_with fail
   refine HM.out.mono ?_
   rintro e w7 ⟨v7,rfl,ho,hb⟩
   have HX7:=Ak (blk_below HX6.out hb)
   have HB7:=Ak (below_step HB6.out hb)
   have HO7:=Ak ho
   obtain ⟨A77,c77,e77⟩:=Kd.R_slice ho
   subst e77
   obtain ⟨-,hc7,hC7⟩:=Kd.R_reads' ho
   clear HX6 HV6 HB6 HM ho hb
   by_cases hm:mayV ⟨es,et,tg,fl⟩=0
   ·have hr:=HR.out
    rw [if_pos hm] at hr
    obtain ⟨rfl,rfl⟩:=Prod.mk.inj hr
    have hez:=encV_size hm
    obtain ⟨l7,hl7⟩:∃ l7,l7=l5++encV ⟨es,et,tg,fl⟩:=⟨_,rfl⟩
    rw [←hl7] at hc7 hC7 HO7 ⊢
    have hl7z:l7.length≤10000000000:=by rw [hl7,List.length_append];have:=HL5z.out;omega
    have HPQ:Aside0 ((if mayW q=0 then (l7++encW q,(0:Int)) else ([],mayW q))=(p,pe)):=⟨by
     rw [←HP.out]
     unfold putS
     simp only
     rw [if_neg (show ¬mayV ⟨es,et,tg,fl⟩≠0 from fun h=>h hm)]
     by_cases hq:mayW q=0
     ·rw [if_pos hq,if_neg (show ¬mayW q≠0 from fun h=>h hq),hl7,HL5.out,List.append_assoc];rfl
     ·rw [if_neg hq,if_pos hq]⟩
    have HM:=Ak (maybeW_calls X _ _ _ _ _ _ _ _ _ q A9 c9 w7 HX7.out (Kd.C_below H9.out.1 HB7.out) H9.out.2 HQ.out A77 c77 l7 hC7 hc7 hl7z p pe HPQ.out)
    have hx9:=blk_cell HX7.out 9
    clear hr hez hl7 hl7z hc7 hC7 HR HPQ hm
    go_wp2_with fail
    refine HM.out.mono ?_
    rintro e w8 ⟨v8,rfl,ho,hb⟩
    have HO8:=Ak (Kd.R_lower ho HB7.out.size)
    have HB8:=Ak (below_step HB7.out hb)
    clear ho hb HM
    go_wp2
    go_ret2
    exact ⟨_,rfl,HO8.out,HB8.out⟩
   ·have hr:=HR.out
    rw [if_neg hm] at hr
    obtain ⟨rfl,rfl⟩:=Prod.mk.inj hr
    have hp:=HP.out
    unfold putS at hp
    rw [if_pos hm] at hp
    obtain ⟨rfl,rfl⟩:=Prod.mk.inj hp
    have hbn:(mayV ⟨es,et,tg,fl⟩ != 0)=true:=bne_iff_ne.mpr hm
    clear hr hp HR HP hm
    go_wp2_with fail
    go_ret2
    exact ⟨_,rfl,Kd.R_nil _ _ _ _ _,HB7.out⟩
theorem numLv (P:Nat→Prop) (w:World) (g:Nat) (l:List Int) (b:Bool) (hI:Rd 85 P w g l b) (hb:isBytes l) (x:Int) (hx:numOf l=x) :
  Calls Tryz.prog 17 #[.pointer (some ⟨g,0,none⟩)] w fun e w'=>e = .returned (.int .i64 x)∧Lv w w' P g l.length (aft l,badOf l b):=
 (num_calls' x P w g l b hI hb hx).mono (by
  rintro e w' ⟨rfl,h1,h2,h3⟩
  exact ⟨rfl,h1,aft_bytes hb,aft_len l hb,h2,h3⟩)
theorem textLv (P:Nat→Prop) (w:World) (g:Nat) (l:List Int) (b:Bool) (hI:Rd 85 P w g l b) (hb:isBytes l) :
  Calls Tryz.prog 18 #[.pointer (some ⟨g,0,none⟩)] w fun e w'=>e = .returned (.string (textOf l))∧Lv w w' P g l.length (aftT l,badT l b):=
 (text_calls P w g l b hI hb).mono (by
  rintro e w' ⟨rfl,h1,h2,h3⟩
  exact ⟨rfl,h1,aftT_bytes hb,aftT_len l hb,h2,h3⟩)
theorem eventLv (P:Nat→Prop) (w:World) (g:Nat) (l:List Int) (b:Bool) (hI:Rd 85 P w g l b) (hb:isBytes l) (hP:∀ k,P k→k < w.heap.size) (r:S29 × Int × List Int × Bool) (hx:takeE l b=r) :
  Calls Tryz.prog 19 #[.pointer (some ⟨g,0,none⟩)] w fun e w'=>∃ v2 v3,e = .returned (.tuple #[.agg #[.string r.1.f0,.string r.1.f1,v2,v3],.int .i64 r.2.1])∧Kd.string.R 9 w' w.heap.size (fun _=>True) v2 r.1.f2∧k90.R 90 w' w.heap.size (fun _=>True) v3 r.1.f3∧Lv w w' P g l.length r.2.2:=by
 obtain ⟨x,c,l',b'⟩:=r
 refine (take_walk P w g l b hI hb hP x c l' b' hx).mono ?_
 rintro e w' ⟨v2,v3,rfl,h2,h3,h4,h5,h6,h7⟩
 have hl:=(takeE_left l b hb).2
 rw [hx] at hl
 exact ⟨v2,v3,rfl,h2,h3,h4,h5,hl,h6,h7⟩
theorem R_turnT {α:Type} {d:Kd α} {e:Nat} {w w1:World} {base g t:Nat} {v:Value} {xs:List α} {cells:Array Value} (h:Kd.R d e w base (fun _=>True) v xs) (hb:w.heap[g]? = some (.cells cells t (0,0))) (ht:∀ q,q ∈ e :: d.E→q≠t) (hk:KeepBut w w1 g none):Kd.R d e w1 base (fun _=>True) v xs:=
 Kd.R_mono (Kd.R_keep (Kd.R_bound (Kd.R_types h hb ht)) hk (fun k hk=>hk.1.2)) (fun _ _=>trivial)
structure Tw (w w1 W:World) (P:Nat→Prop) (g Z X n:Nat) (q:List Int × Bool) (cs:Array Value):Prop where
 hL:Lv w1 W P g n q
 hZ:W.heap[Z]? = some (.cells #[.int .i64 0,.int .i64 0,.int .i64 0,.int .i64 0,.string ⟨#[]⟩,.string ⟨#[]⟩,.string ⟨#[]⟩,.slice none 0 0,.slice none 0 0,.slice none 0 0] 34 (0,0))
 hX:W.heap[X]? = some (.cells cs 34 (0,0))
 hB:Below w.heap.size w W
 z1:w.heap.size≤Z
 z2:Z < w1.heap.size
 z3:Z≠g
 x1:w1.heap.size≤X
 g1:w.heap.size≤g
 g2:g < w1.heap.size
 p1:∀ k,P k→k < w1.heap.size
 s1:w.heap.size≤w1.heap.size
section
variable {w w1 W W' : World} {P : Nat → Prop} {g Z X n : Nat} {q : List Int × Bool} {cs : Array Value}
theorem Tw.hP (h:Tw w w1 W P g Z X n q cs):∀ k,P k→k < W.heap.size:=fun k hk=>Nat.lt_of_lt_of_le (h.p1 k hk) h.hL.keep.1
theorem Tw.lo (h:Tw w w1 W P g Z X n q cs):w.heap.size≤W.heap.size:=h.hB.size
theorem Tw.read (h:Tw w w1 W P g Z X n q cs) {m:Nat} {q':List Int × Bool} (hl:Lv W W' P g m q') (hm:m≤n):Tw w w1 W' P g Z X n q' cs:=
 ⟨h.hL.trans hl hm,hl.keep.blk h.hZ h.z3 (by simp),hl.keep.blk h.hX (by have:=h.x1;have:=h.g2;omega) (by simp),below_weaken h.hB h.g1 hl.below,h.z1,h.z2,h.z3,h.x1,h.g1,h.g2,h.p1,h.s1⟩
theorem Tw.up (h:Tw w w1 W P g Z X n q cs) (hb:Below W.heap.size W W'):Tw w w1 W' P g Z X n q cs:=
 ⟨h.hL.up hb,blk_below h.hZ hb,blk_below h.hX hb,below_step h.hB hb,h.z1,h.z2,h.z3,h.x1,h.g1,h.g2,h.p1,h.s1⟩
theorem Tw.set (h:Tw w w1 W P g Z X n q cs) (i:Nat) (u:Value) {cs':Array Value} (e:cs.setIfInBounds i u=cs'):Tw w w1 (W.setCell ⟨X,i,none⟩ u) P g Z X n q cs':=
 ⟨h.hL.set h.g2 h.p1 h.x1 i u,blk_far h.hZ (p:=⟨X,i,none⟩) (by have:=h.x1;have:=h.z2;show Z≠X;omega) u,blk_put h.hX i u e,h.hB.setCell (p:=⟨X,i,none⟩) (by have:=h.x1;have:=h.s1;show w.heap.size≤X;omega) u,h.z1,h.z2,h.z3,h.x1,h.g1,h.g2,h.p1,h.s1⟩
theorem Tw.blk (h:Tw w w1 W P g Z X n q cs):∃ c,W.heap[g]? = some (.cells c 85 (0,0)):=by
 obtain ⟨A,c,hb,_⟩:=h.hL.rd
 exact ⟨_,hb⟩
theorem Tw.turnR {α:Type} {d:Kd α} {e m:Nat} {v:Value} {xs:List α} {q':List Int × Bool} (h:Tw w w1 W P g Z X n q cs) (hr:Kd.R d e W w.heap.size (fun _=>True) v xs) (hl:Lv W W' P g m q') (ht:∀ q,q ∈ e :: d.E→q≠85):Kd.R d e W' w.heap.size (fun _=>True) v xs:=by
 obtain ⟨c,hb⟩:=h.blk
 exact R_turnT hr hb ht hl.keep
end
def stl (l:List Int):Nat→List Int
 | 0=>l
 | i+1=>aft (stl l i)
def stb (l:List Int):Nat→Bool
 | 0=>false
 | i+1=>badOf (stl l i) (stb l i)
def csN (l:List Int) (i:Nat):Array Value:=#[.int .i64 (if 0 < i then numOf (stl l 0) else 0),.int .i64 (if 1 < i then numOf (stl l 1) else 0),.int .i64 (if 2 < i then numOf (stl l 2) else 0),.int .i64 (if 3 < i then numOf (stl l 3) else 0),.string ⟨#[]⟩,.string ⟨#[]⟩,.string ⟨#[]⟩,.slice none 0 0,.slice none 0 0,.slice none 0 0]
end Go.Proofs.YtocpcnmnhckcpaaGreat.Prt
namespace Go.Proofs.YtocpcnmnhckcpaaGreat.Prt
open RowKit YtocpcnmnhckcpaaGreatW.PrintWords YtocpcnmnhckcpaaGreatW.PrintLast YtocpcnmnhckcpaaGreatW.PrintMore YtocpcnmnhckcpaaGreat.Num YtocpcnmnhckcpaaGreat.Nam
theorem ite_yes {α:Type} {c:Prop} [Decidable c] {x y z:α} (h:(if c then x else y)=z) (hc:c):x=z:=(if_pos hc).symm.trans h
theorem ite_no {α:Type} {c:Prop} [Decidable c] {x y z:α} (h:(if c then x else y)=z) (hc:¬c):y=z:=(if_neg hc).symm.trans h
def NN (l:List Int) (i:Nat):Int:=numOf (stl l i)
set_option maxRecDepth 100000 in
set_option maxHeartbeats 4000000 in
theorem take_calls22 (A0:Option Addr) (c0:Nat) (l0:List Int) (w:World) (hr0:Kd.C (Kd.int .u8) w A0 l0.length l0) (hc0:l0.length≤c0) (hby:isBytes l0) (hlen:l0.length≤1000000000) (r:S34) (re:Int) (h:takeS l0=(r,re)) :
  Calls Tryz.prog 7 #[.slice A0 l0.length c0] w fun e w'=>∃ v7 v8 v9,e = .returned (.tuple #[.agg #[.int .i64 r.f0,.int .i64 r.f1,.int .i64 r.f2,.int .i64 r.f3,.string r.f4,.string r.f5.f0,.string r.f5.f1,v7,v8,v9],.int .i64 re])∧Kd.string.R 9 w' w.heap.size (fun _=>True) v7 r.f5.f2∧k90.R 90 w' w.heap.size (fun _=>True) v8 r.f5.f3∧Kd.S k96 96 w' w.heap.size (fun _=>True) v9 r.f6.f0∧Below w.heap.size w w':=by
 have HTM:=Ak (takeT_may hby hlen)
 have HST:=Ak ((takeS_eq hby hlen).symm.trans h)
 have HR0:=Ak hr0
 have HC0:=Ak hc0
 have HBY:=Ak hby
 have HLN:=Ak hlen
 clear hr0 hc0 hby hlen h
 have hu34:=Tryz.underlying34
 have hu29:=Tryz.underlying29
 have hu32:=Tryz.underlying32
 go_enter Tryz.func7,Tryz.ntmps7
 go_upto_region 1 with (((with_reducible refine gate_dst (N:=2) rfl ?_);(try (refine gate_guard (by rfl) ?_;dsimp only));refine box_event ?hg (N:=2) ?hd (cs:=#[.int .i64 0,.int .i64 0,.int .i64 0,.int .i64 0,.string ⟨#[]⟩,.string ⟨#[]⟩,.string ⟨#[]⟩,.slice none 0 0,.slice none 0 0,.slice none 0 0]) (t:=34) ?hr ?_;(case hd=>rfl);(case hg=>rfl);(case hr=>(go_simp;done));intro Z hg_ wz hbox_ hb_;have HZ:=Ak hbox_;have HZN:=Ak hg_;have HZB:=Ak hb_;clear hbox_ hg_ hb_))
 go_wp2_with fail
 refine (newReader_calls A0 c0 l0 wz (Kd.C_below HR0.out HZB.out) HC0.out).mono ?_
 rintro e w1 ⟨g,rfl,hI,hb,hg⟩
 have HI1:=Ak hI
 have HB1:=Ak hb
 have HG:=Ak hg
 clear hI hb hg
 go_upto_region 3 with (((with_reducible refine gate_dst (N:=5) rfl ?_);(try (refine gate_guard (by rfl) ?_;dsimp only));refine box_event ?hg (N:=5) ?hd (cs:=#[.int .i64 0,.int .i64 0,.int .i64 0,.int .i64 0,.string ⟨#[]⟩,.string ⟨#[]⟩,.string ⟨#[]⟩,.slice none 0 0,.slice none 0 0,.slice none 0 0]) (t:=34) ?hr ?_;(case hd=>rfl);(case hg=>rfl);(case hr=>(go_simp;done));intro X hg_ w2 hbox_ hb_;have HX:=Ak hbox_;have HXN:=Ak hg_;have HXB:=Ak hb_;clear hbox_ hg_ hb_))
 have HT2:Aside0 (Tw w w1 w2 (fun k=>k < wz.heap.size) g Z X l0.length (l0,false) #[.int .i64 0,.int .i64 0,.int .i64 0,.int .i64 0,.string ⟨#[]⟩,.string ⟨#[]⟩,.string ⟨#[]⟩,.slice none 0 0,.slice none 0 0,.slice none 0 0]):=⟨by
  have h1:=HZN.out
  have h2:=blk_lt HZ.out
  have h3:=HXN.out
  have h4:=HI1.out.lt
  have h5:=HB1.out.size
  have h6:=HZB.out.size
  have h7:=HG.out
  exact ⟨⟨HI1.out.below HXB.out,HBY.out,Nat.le_refl _,HXB.out.mono (Nat.le_of_lt h4),KeepBut.of_below HXB.out g none⟩,blk_below (blk_below HZ.out HB1.out) HXB.out,HX.out,below_step (below_then HZB.out HZB.out.size HB1.out) HXB.out,by omega,by omega,by omega,by omega,by omega,h4,fun k hk=>by omega,by omega⟩⟩
 have HGZ:=Ak HZB.out.size
 clear HI1 HB1 HG HX HXN HXB HZ HZN HZB
 go_upto_region 4 with (fail)
 obtain ⟨Y,hY⟩:∃ Y,Y=w2.heap.size:=⟨_,rfl⟩
 have hyb:=heap_alloc_new w2 (.cells #[.pointer (some ⟨X,0,none⟩),.pointer (some ⟨X,1,none⟩),.pointer (some ⟨X,2,none⟩),.pointer (some ⟨X,3,none⟩)] 49)
 have hyB:=below_alloc (Below.refl w2.heap.size w2) (.cells #[.pointer (some ⟨X,0,none⟩),.pointer (some ⟨X,1,none⟩),.pointer (some ⟨X,2,none⟩),.pointer (some ⟨X,3,none⟩)] 49)
 rw [←hY] at hyb ⊢
 have HY3:=Ak hyb
 have HT3:=Ak (HT2.out.up hyB)
 have HYX:=Ak (show Y≠X∧Y≠g by
  have h1:=blk_lt HT2.out.hX
  have h2:=HT2.out.hL.rd.lt
  omega)
 clear hyb hyB hY HT2
 generalize w2.alloc (.cells #[.pointer (some ⟨X,0,none⟩),.pointer (some ⟨X,1,none⟩),.pointer (some ⟨X,2,none⟩),.pointer (some ⟨X,3,none⟩)] 49)=w3 at HY3 HT3 ⊢
 go_loopg [20] 4 (fun gk v20 w'=>∃ i:Nat,v20 = .int .i64 (i:Int)∧Aside0 (i+gk=4)∧Aside0 (Tw w w1 w' (fun k=>k < wz.heap.size) g Z X l0.length (stl l0 i,stb l0 i) (csN l0 i))∧Aside0 (w'.heap[Y]? = some (.cells #[.pointer (some ⟨X,0,none⟩),.pointer (some ⟨X,1,none⟩),.pointer (some ⟨X,2,none⟩),.pointer (some ⟨X,3,none⟩)] 49 (0,0))))
 case atStart=>exact ⟨0,rfl,⟨rfl⟩,HT3,HY3⟩
 case round=>
  clear HT3 HY3
  obtain ⟨i,rfl,HE,HT,HY⟩:=hrel
  have hi:i=0∨i=1∨i=2∨i=3∨i=4:=by have:=HE.out;omega
  rcases hi with rfl | rfl | rfl | rfl | rfl
  ·obtain rfl:gk=4:=by have:=HE.out;omega
   have hy:=blk_cell HY.out 0
   obtain ⟨x,hx⟩:∃ x,numOf (stl l0 0)=x:=⟨_,rfl⟩
   have HN:=Ak (numLv _ wr g (stl l0 0) (stb l0 0) HT.out.hL.rd HT.out.hL.by_ x hx)
   have HXX:=Ak hx
   clear hx
   go_wp2_with fail
   refine HN.out.mono ?_
   rintro e w4 ⟨rfl,hl⟩
   have HT4:=Ak (HT.out.read hl HT.out.hL.len)
   have HY4:=Ak (hl.keep.blk HY.out HYX.out.2 (by simp))
   have hf:=blk_frozen HT4.out.hX 0
   have hc:=blk_cell HT4.out.hX 0
   clear HT HY HN hl hy
   go_upto_region 7 with (fail)
   have n1_:=Ak (HT4.out.set 0 (.int .i64 x) (cs':=csN l0 1) (by rw [←HXX.out];rfl))
   have n2_:=Ak (blk_far HY4.out (p:=⟨X,0,none⟩) HYX.out.1 (.int .i64 x))
   clear HT4 HY4 hf hc
   generalize w4.setCell ⟨X,0,none⟩ (.int .i64 x)=w5 at n1_ n2_ ⊢
   go_wp2_with fail
   go_roundg 3
   case measure=>omega
   case rel=>exact ⟨1,by go_num,⟨rfl⟩,n1_,n2_⟩
  ·obtain rfl:gk=3:=by have:=HE.out;omega
   have hy:=blk_cell HY.out 1
   obtain ⟨x,hx⟩:∃ x,numOf (stl l0 1)=x:=⟨_,rfl⟩
   have HN:=Ak (numLv _ wr g (stl l0 1) (stb l0 1) HT.out.hL.rd HT.out.hL.by_ x hx)
   have HXX:=Ak hx
   clear hx
   go_wp2_with fail
   refine HN.out.mono ?_
   rintro e w4 ⟨rfl,hl⟩
   have HT4:=Ak (HT.out.read hl HT.out.hL.len)
   have HY4:=Ak (hl.keep.blk HY.out HYX.out.2 (by simp))
   have hf:=blk_frozen HT4.out.hX 1
   have hc:=blk_cell HT4.out.hX 1
   clear HT HY HN hl hy
   go_upto_region 7 with (fail)
   have n1_:=Ak (HT4.out.set 1 (.int .i64 x) (cs':=csN l0 2) (by rw [←HXX.out];rfl))
   have n2_:=Ak (blk_far HY4.out (p:=⟨X,1,none⟩) HYX.out.1 (.int .i64 x))
   clear HT4 HY4 hf hc
   generalize w4.setCell ⟨X,1,none⟩ (.int .i64 x)=w5 at n1_ n2_ ⊢
   go_wp2_with fail
   go_roundg 2
   case measure=>omega
   case rel=>exact ⟨2,by go_num,⟨rfl⟩,n1_,n2_⟩
  ·obtain rfl:gk=2:=by have:=HE.out;omega
   have hy:=blk_cell HY.out 2
   obtain ⟨x,hx⟩:∃ x,numOf (stl l0 2)=x:=⟨_,rfl⟩
   have HN:=Ak (numLv _ wr g (stl l0 2) (stb l0 2) HT.out.hL.rd HT.out.hL.by_ x hx)
   have HXX:=Ak hx
   clear hx
   go_wp2_with fail
   refine HN.out.mono ?_
   rintro e w4 ⟨rfl,hl⟩
   have HT4:=Ak (HT.out.read hl HT.out.hL.len)
   have HY4:=Ak (hl.keep.blk HY.out HYX.out.2 (by simp))
   have hf:=blk_frozen HT4.out.hX 2
   have hc:=blk_cell HT4.out.hX 2
   clear HT HY HN hl hy
   go_upto_region 7 with (fail)
   have n1_:=Ak (HT4.out.set 2 (.int .i64 x) (cs':=csN l0 3) (by rw [←HXX.out];rfl))
   have n2_:=Ak (blk_far HY4.out (p:=⟨X,2,none⟩) HYX.out.1 (.int .i64 x))
   clear HT4 HY4 hf hc
   generalize w4.setCell ⟨X,2,none⟩ (.int .i64 x)=w5 at n1_ n2_ ⊢
   go_wp2_with fail
   go_roundg 1
   case measure=>omega
   case rel=>exact ⟨3,by go_num,⟨rfl⟩,n1_,n2_⟩
  ·obtain rfl:gk=1:=by have:=HE.out;omega
   have hy:=blk_cell HY.out 3
   obtain ⟨x,hx⟩:∃ x,numOf (stl l0 3)=x:=⟨_,rfl⟩
   have HN:=Ak (numLv _ wr g (stl l0 3) (stb l0 3) HT.out.hL.rd HT.out.hL.by_ x hx)
   have HXX:=Ak hx
   clear hx
   go_wp2_with fail
   refine HN.out.mono ?_
   rintro e w4 ⟨rfl,hl⟩
   have HT4:=Ak (HT.out.read hl HT.out.hL.len)
   have HY4:=Ak (hl.keep.blk HY.out HYX.out.2 (by simp))
   have hf:=blk_frozen HT4.out.hX 3
   have hc:=blk_cell HT4.out.hX 3
   clear HT HY HN hl hy
   go_upto_region 7 with (fail)
   have n1_:=Ak (HT4.out.set 3 (.int .i64 x) (cs':=csN l0 4) (by rw [←HXX.out];rfl))
   have n2_:=Ak (blk_far HY4.out (p:=⟨X,3,none⟩) HYX.out.1 (.int .i64 x))
   clear HT4 HY4 hf hc
   generalize w4.setCell ⟨X,3,none⟩ (.int .i64 x)=w5 at n1_ n2_ ⊢
   go_wp2_with fail
   go_roundg 0
   case measure=>omega
   case rel=>exact ⟨4,by go_num,⟨rfl⟩,n1_,n2_⟩
  ·clear HE HY HYX
   have hb1:decide (((4:Nat):Int) < 4)=false:=rfl
   go_wp2_with fail
   refine (textLv _ wr g (stl l0 4) (stb l0 4) HT.out.hL.rd HT.out.hL.by_).mono ?_
   rintro e w4 ⟨rfl,hl⟩
   have HT4:=Ak (HT.out.read hl HT.out.hL.len)
   have hf:=blk_frozen HT4.out.hX 4
   have hc:=blk_cell HT4.out.hX 4
   obtain ⟨st,hst⟩:∃ st,st=textOf (stl l0 4):=⟨_,rfl⟩
   rw [←hst]
   have HSS:=Ak hst
   clear HT hl hst
   go_upto_region 9 with (fail)
   have n1_:=Ak (HT4.out.set 4 (.string st) (cs':=#[.int .i64 (NN l0 0),.int .i64 (NN l0 1),.int .i64 (NN l0 2),.int .i64 (NN l0 3),.string st,.string ⟨#[]⟩,.string ⟨#[]⟩,.slice none 0 0,.slice none 0 0,.slice none 0 0]) rfl)
   clear HT4 hf hc
   generalize w4.setCell ⟨X,4,none⟩ (.string st)=w5 at n1_ ⊢
   obtain ⟨n0,h0⟩:∃ n0,n0=NN l0 0:=⟨_,rfl⟩
   obtain ⟨n1,h1⟩:∃ n1,n1=NN l0 1:=⟨_,rfl⟩
   obtain ⟨n2,h2⟩:∃ n2,n2=NN l0 2:=⟨_,rfl⟩
   obtain ⟨n3,h3⟩:∃ n3,n3=NN l0 3:=⟨_,rfl⟩
   rw [←h0,←h1,←h2,←h3] at n1_
   have HNS:=Ak (And.intro h0 (And.intro h1 (And.intro h2 h3)))
   clear h0 h1 h2 h3
   obtain ⟨lh,hlh⟩:∃ lh,lh=headA l0:=⟨_,rfl⟩
   obtain ⟨bh,hbh⟩:∃ bh,bh=headB l0:=⟨_,rfl⟩
   have n2_:Aside0 (Tw w w1 w5 (fun k=>k < wz.heap.size) g Z X l0.length (lh,bh) #[.int .i64 n0,.int .i64 n1,.int .i64 n2,.int .i64 n3,.string st,.string ⟨#[]⟩,.string ⟨#[]⟩,.slice none 0 0,.slice none 0 0,.slice none 0 0]):=⟨by rw [hlh,hbh];exact n1_.out⟩
   have HLH:=Ak (And.intro hlh hbh)
   clear n1_ hlh hbh
   have HT5:=n2_
   clear n2_
   obtain ⟨x,hx⟩:∃ x,numOf lh=x:=⟨_,rfl⟩
   have HN:=Ak (numLv _ w5 g lh bh HT5.out.hL.rd HT5.out.hL.by_ x hx)
   go_wp2_with fail
   refine HN.out.mono ?_
   rintro e w6 ⟨rfl,hl⟩
   have HT6:=Ak (HT5.out.read hl HT5.out.hL.len)
   have HXX:=Ak hx
   clear HT5 hl HN hx
   go_upto_if 34 with (fail)
   go_cut [8] (fun v8_ wc=>∃ (e:Int) (V:S29) (v7 v8:Value) (l1:List Int) (b1:Bool),v8_ = .int .i64 e∧Aside0 (takeV lh bh=(V,e,l1,b1))∧Aside0 (Tw w w1 wc (fun k=>k < wz.heap.size) g Z X l0.length (l1,b1) #[.int .i64 n0,.int .i64 n1,.int .i64 n2,.int .i64 n3,.string st,.string V.f0,.string V.f1,v7,v8,.slice none 0 0])∧Aside0 (Kd.string.R 9 wc w.heap.size (fun _=>True) v7 V.f2)∧Aside0 (k90.R 90 wc w.heap.size (fun _=>True) v8 V.f3))
   case first=>
    by_cases hx1:x=1
    ·subst hx1
     obtain ⟨⟨V,e,l1,b1⟩,hq⟩:∃ q,takeE (aft lh) (badOf lh bh)=q:=⟨_,rfl⟩
     have HQ:=Ak hq
     have HTV:=Ak (show takeV lh bh=(V,e,l1,b1) by unfold takeV;rw [if_pos HXX.out];exact hq)
     clear hq
     go_wp2_with fail
     refine (eventLv _ w6 g (aft lh) (badOf lh bh) HT6.out.hL.rd HT6.out.hL.by_ HT6.out.hP _ HQ.out).mono ?_
     rintro e_ w7 ⟨v7,v8,rfl,h7,h8,hl⟩
     have HT7:=Ak (HT6.out.read hl HT6.out.hL.len)
     have H7:=Ak (Kd.R_lower h7 HT6.out.lo)
     have H8:=Ak (Kd.R_lower h8 HT6.out.lo)
     obtain ⟨A7,c7,e7⟩:=Kd.R_slice h7
     obtain ⟨A8,c8,e8⟩:=Kd.R_slice h8
     subst e7
     subst e8
     have hf5:=blk_frozen HT7.out.hX 5
     have hf6:=blk_frozen HT7.out.hX 6
     have hf7:=blk_frozen HT7.out.hX 7
     have hf8:=blk_frozen HT7.out.hX 8
     have hc5:=blk_cell HT7.out.hX 5
     have hc6:=blk_cell HT7.out.hX 6
     have hc7:=blk_cell HT7.out.hX 7
     have hc8:=blk_cell HT7.out.hX 8
     clear HT6 h7 h8 hl HQ
     go_wp2
     go_meet
     case rel=>
      refine ⟨e,V,.slice A7 V.f2.length c7,.slice A8 V.f3.length c8,l1,b1,rfl,HTV,⟨((((HT7.out.set 5 (.string V.f0) rfl).set 6 (.string V.f1) rfl).set 7 (.slice A7 V.f2.length c7) rfl).set 8 (.slice A8 V.f3.length c8) rfl)⟩,⟨?_⟩,⟨?_⟩⟩
      ·exact (R_setA (R_setA (R_setA (R_setA H7.out ⟨_,HT7.out.hX⟩ (by decide) 5 (.string V.f0)).1 (R_setA H7.out ⟨_,HT7.out.hX⟩ (by decide) 5 (.string V.f0)).2 (by decide) 6 (.string V.f1)).1 (R_setA (R_setA H7.out ⟨_,HT7.out.hX⟩ (by decide) 5 (.string V.f0)).1 (R_setA H7.out ⟨_,HT7.out.hX⟩ (by decide) 5 (.string V.f0)).2 (by decide) 6 (.string V.f1)).2 (by decide) 7 (.slice A7 V.f2.length c7)).1 (R_setA (R_setA (R_setA H7.out ⟨_,HT7.out.hX⟩ (by decide) 5 (.string V.f0)).1 (R_setA H7.out ⟨_,HT7.out.hX⟩ (by decide) 5 (.string V.f0)).2 (by decide) 6 (.string V.f1)).1 (R_setA (R_setA H7.out ⟨_,HT7.out.hX⟩ (by decide) 5 (.string V.f0)).1 (R_setA H7.out ⟨_,HT7.out.hX⟩ (by decide) 5 (.string V.f0)).2 (by decide) 6 (.string V.f1)).2 (by decide) 7 (.slice A7 V.f2.length c7)).2 (by decide) 8 (.slice A8 V.f3.length c8)).1
      ·exact (R_setA (R_setA (R_setA (R_setA H8.out ⟨_,HT7.out.hX⟩ (by decide) 5 (.string V.f0)).1 (R_setA H8.out ⟨_,HT7.out.hX⟩ (by decide) 5 (.string V.f0)).2 (by decide) 6 (.string V.f1)).1 (R_setA (R_setA H8.out ⟨_,HT7.out.hX⟩ (by decide) 5 (.string V.f0)).1 (R_setA H8.out ⟨_,HT7.out.hX⟩ (by decide) 5 (.string V.f0)).2 (by decide) 6 (.string V.f1)).2 (by decide) 7 (.slice A7 V.f2.length c7)).1 (R_setA (R_setA (R_setA H8.out ⟨_,HT7.out.hX⟩ (by decide) 5 (.string V.f0)).1 (R_setA H8.out ⟨_,HT7.out.hX⟩ (by decide) 5 (.string V.f0)).2 (by decide) 6 (.string V.f1)).1 (R_setA (R_setA H8.out ⟨_,HT7.out.hX⟩ (by decide) 5 (.string V.f0)).1 (R_setA H8.out ⟨_,HT7.out.hX⟩ (by decide) 5 (.string V.f0)).2 (by decide) 6 (.string V.f1)).2 (by decide) 7 (.slice A7 V.f2.length c7)).2 (by decide) 8 (.slice A8 V.f3.length c8)).1
    ·have hd:decide (x=1)=false:=decide_eq_false hx1
     have HTV:=Ak (show takeV lh bh=(z29,0,aft lh,badOf lh bh) by unfold takeV;rw [if_neg (by rw [HXX.out];exact hx1)])
     go_wp2
     go_meet
     case rel=>exact ⟨0,z29,.slice none 0 0,.slice none 0 0,_,_,rfl,HTV,HT6,⟨Kd.R_nil _ _ _ _ _⟩,⟨Kd.R_nil _ _ _ _ _⟩⟩
   case rest=>
   obtain ⟨e,V,v7,v8,l1,b1,rfl,HTV,HT7,H7,H8⟩:=hcut
   clear HT6 HXX
   obtain ⟨y,hy⟩:∃ y,numOf l1=y:=⟨_,rfl⟩
   have HN:=Ak (numLv _ wc g l1 b1 HT7.out.hL.rd HT7.out.hL.by_ y hy)
   have HYY:=Ak hy
   clear hy
   go_wp2_with fail
   refine HN.out.mono ?_
   rintro e_ w8 ⟨rfl,hl⟩
   have HT8:=Ak (HT7.out.read hl HT7.out.hL.len)
   have H72:=Ak (HT7.out.turnR H7.out hl (by decide))
   have H82:=Ak (HT7.out.turnR H8.out hl (by decide))
   clear HT7 H7 H8 hl HN
   go_upto_if 43 with (fail)
   go_cut [9] (fun v9_ wc=>∃ (f:Int) (Q:List S96) (v9:Value) (l2:List Int) (b2:Bool),v9_ = .int .i64 f∧Aside0 (takeW l1 b1=(Q,f,l2,b2))∧Aside0 (Tw w w1 wc (fun k=>k < wz.heap.size) g Z X l0.length (l2,b2) #[.int .i64 n0,.int .i64 n1,.int .i64 n2,.int .i64 n3,.string st,.string V.f0,.string V.f1,v7,v8,v9])∧Aside0 (Kd.string.R 9 wc w.heap.size (fun _=>True) v7 V.f2)∧Aside0 (k90.R 90 wc w.heap.size (fun _=>True) v8 V.f3)∧Aside0 (Kd.S k96 96 wc w.heap.size (fun _=>True) v9 Q))
   case first=>
    by_cases hy1:y=1
    ·subst hy1
     obtain ⟨⟨Q,f,l2,b2⟩,hq⟩:∃ q,takeQ (aft l1) (badOf l1 b1)=q:=⟨_,rfl⟩
     have HQ:=Ak hq
     have HTW:=Ak (show takeW l1 b1=(Q,f,l2,b2) by unfold takeW;rw [if_pos HYY.out];exact hq)
     clear hq
     go_wp2_with fail
     refine (takeQ_calls _ w8 g (aft l1) (badOf l1 b1) HT8.out.hL.rd HT8.out.hL.by_ HT8.out.hP _ HQ.out).mono ?_
     rintro e_ w9 ⟨v9,rfl,h9,hl⟩
     have HT9:=Ak (HT8.out.read hl HT8.out.hL.len)
     have H73:=Ak (HT8.out.turnR H72.out hl (by decide))
     have H83:=Ak (HT8.out.turnR H82.out hl (by decide))
     have H9:=Ak (Kd.S_lower h9 HT8.out.lo)
     obtain ⟨A9,c9,e9⟩:=Kd.S_slice h9
     subst e9
     have hf9:=blk_frozen HT9.out.hX 9
     have hc9:=blk_cell HT9.out.hX 9
     clear HT8 H72 H82 h9 hl HQ
     go_wp2
     go_meet
     case rel=>exact ⟨f,Q,.slice A9 Q.length c9,l2,b2,rfl,HTW,⟨HT9.out.set 9 (.slice A9 Q.length c9) rfl⟩,⟨R_set H73.out HT9.out.hX (by decide) 9 _⟩,⟨R_set H83.out HT9.out.hX (by decide) 9 _⟩,⟨S_set H9.out HT9.out.hX (by decide) 9 _⟩⟩
    ·have hd:decide (y=1)=false:=decide_eq_false hy1
     have HTW:=Ak (show takeW l1 b1=([],0,aft l1,badOf l1 b1) by unfold takeW;rw [if_neg (by rw [HYY.out];exact hy1)])
     go_wp2
     go_meet
     case rel=>exact ⟨0,[],.slice none 0 0,_,_,rfl,HTW,HT8,H72,H82,⟨Kd.S_nil _ _ _ _ _⟩⟩
   case rest=>
   obtain ⟨f,Q,v9,l2,b2,rfl,HTW,HT9,H7,H8,H9⟩:=hcut
   clear HT8 HYY H72 H82
   obtain ⟨A7,c7,e7⟩:=Kd.R_slice H7.out
   subst e7
   obtain ⟨A8,c8,e8⟩:=Kd.R_slice H8.out
   subst e8
   obtain ⟨A9,c9,e9⟩:=Kd.S_slice H9.out
   subst e9
   have hTT:takeT l0=(⟨n0,n1,n2,n3,st,V,⟨Q⟩⟩,e,f,l2,b2):=by
    have h0:=HLH.out
    have h1:=HNS.out
    have h2:=HSS.out
    unfold takeT stepOf
    rw [←h0.1,←h0.2,HTV.out]
    simp only
    rw [HTW.out,h1.1,h1.2.1,h1.2.2.1,h1.2.2.2,h2]
    rfl
   have htm:=HTM.out
   have hst:=HST.out
   rw [hTT] at htm hst
   simp only at htm hst
   obtain ⟨hok,hsz,he,hf⟩:=htm
   have HFIT:FitS ⟨n0,n1,n2,n3,st,V,⟨Q⟩⟩:=⟨hok.k0,hok.k1,hok.k2,hok.k3,hsz,by have:=(mayV_fit hok.hv).2;simp only at this ⊢;omega,(mayV_fit hok.hv).1,mayW_fit hok.hq⟩
   have HSC:StC wc ⟨n0,n1,n2,n3,st,V,⟨Q⟩⟩ A7 c7 A8 c8 A9 c9:=by
    obtain ⟨-,a1,a2⟩:=Kd.R_reads' H7.out
    obtain ⟨-,a3,a4⟩:=Kd.R_reads' H8.out
    obtain ⟨-,a5,a6⟩:=Kd.S_reads' H9.out
    exact ⟨a2,a1,a4,a3,a6,a5⟩
   obtain ⟨pp,hpp⟩:∃ pp,pp=encS ⟨n0,n1,n2,n3,st,V,⟨Q⟩⟩:=⟨_,rfl⟩
   have HPB:Aside0 (isBytes pp):=⟨by rw [hpp];exact encS_bytes _⟩
   have HP:=Ak (show Calls Tryz.prog 10 #[.agg #[.int .i64 n0,.int .i64 n1,.int .i64 n2,.int .i64 n3,.string st,.string V.f0,.string V.f1,.slice A7 V.f2.length c7,.slice A8 V.f3.length c8,.slice A9 Q.length c9]] wc fun e w'=>∃ v,e = .returned (.tuple #[v,.int .i64 0])∧Kd.R (Kd.int .u8) 5 w' wc.heap.size (fun _=>True) v pp∧Below wc.heap.size wc w' from put_calls22 ⟨n0,n1,n2,n3,st,V,⟨Q⟩⟩ A7 c7 A8 c8 A9 c9 wc HSC HFIT pp 0 (by rw [hpp];exact putS_ok hok.hv hok.hq))
   rw [←hpp] at hst
   have HST2:=Ak hst
   have HE:=Ak he
   have HF:=Ak hf
   clear HTM HST HTV HTW HNS HSS HLH hTT hst hok hsz he hf HFIT HSC hpp
   obtain ⟨hx0,hx1,hx2,hx3,hx4,hx5,hx6,hx7,hx8,hx9⟩:=cl10 HT9.out.hX
   go_wp2_with fail
   refine HP.out.mono ?_
   rintro e_ w10 ⟨vp,rfl,ho,hb⟩
   have HT10:=Ak (HT9.out.up hb)
   have H7b:=Ak (Kd.R_below H7.out hb)
   have H8b:=Ak (Kd.R_below H8.out hb)
   have H9b:=Ak (Kd.S_below H9.out hb)
   obtain ⟨Ap,cp,ep⟩:=Kd.R_slice ho
   subst ep
   obtain ⟨-,hcp,hCp⟩:=Kd.R_reads' ho
   have HPC:=Ak (And.intro hcp hCp)
   clear HP HT9 H7 H8 H9 ho hb hcp hCp hx0 hx1 hx2 hx3 hx4 hx5 hx6 hx7 hx8 hx9
   go_wp2_with fail
   refine (bad_calls _ w10 g l2 b2 HT10.out.hL.rd).mono ?_
   rintro e_ w11 ⟨rfl,rfl⟩
   cases b2 with
   | true=>
    have HS2:=Ak (ite_yes HST2.out (.inl rfl))
    clear HST2
    obtain ⟨hz0,hz1,hz2,hz3,hz4,hz5,hz6,hz7,hz8,hz9⟩:=cl10 HT10.out.hZ;obtain ⟨hf0,hf1,hf2,hf3,hf4,hf5,hf6,hf7,hf8,hf9⟩:=fr10 HT10.out.hZ
    go_wp2_with fail
    have HE9:=(bp10 HT10.out.hZ (.int .i64 0) (.int .i64 0) (.int .i64 0) (.int .i64 0) (.string ⟨#[]⟩) (.string ⟨#[]⟩) (.string ⟨#[]⟩) (.slice none 0 0) (.slice none 0 0) (.slice none 0 0))
    refine bodyPost_ret (results_ct rfl _ _ Z 34 _ (0,0) _ rfl HE9 Tryz.underlying34 rfl (by kernel_rfl)) rfl ?_
    obtain ⟨rfl,rfl⟩:=Prod.mk.inj HS2.out
    exact ⟨.slice none 0 0,.slice none 0 0,.slice none 0 0,rfl,Kd.R_nil _ _ _ _ _,Kd.R_nil _ _ _ _ _,Kd.S_nil _ _ _ _ _,(bb10 HT10.out.hB HT10.out.z1 (.int .i64 0) (.int .i64 0) (.int .i64 0) (.int .i64 0) (.string ⟨#[]⟩) (.string ⟨#[]⟩) (.string ⟨#[]⟩) (.slice none 0 0) (.slice none 0 0) (.slice none 0 0))⟩
   | false=>
    have he:=HE.out
    have hf:=HF.out
    rcases he with rfl | rfl <;> rcases hf with rfl | rfl
    ·go_wp2_with fail
     refine (equal_calls Ap cp pp A0 c0 l0 w10 HPC.out.2 HPC.out.1 (Kd.C_below HR0.out HT10.out.hB) HC0.out HPB.out HBY.out).mono ?_
     rintro e_ w12 ⟨rfl,rfl⟩
     by_cases hpl:pp=l0
     ·have b4:decide (pp=l0)=true:=decide_eq_true hpl
      rw [b4]
      have HS2:=Ak (ite_no HST2.out (by rw [not_or,not_or,not_or];exact ⟨by simp,by simp,by simp,fun h=>h hpl⟩))
      clear b4 hpl HST2
      obtain ⟨hz0,hz1,hz2,hz3,hz4,hz5,hz6,hz7,hz8,hz9⟩:=cl10 HT10.out.hZ;obtain ⟨hf0,hf1,hf2,hf3,hf4,hf5,hf6,hf7,hf8,hf9⟩:=fr10 HT10.out.hZ
      obtain ⟨hx0,hx1,hx2,hx3,hx4,hx5,hx6,hx7,hx8,hx9⟩:=cl10 HT10.out.hX
      go_wp2_with fail
      have HE9:=(bp10 HT10.out.hZ (.int .i64 n0) (.int .i64 n1) (.int .i64 n2) (.int .i64 n3) (.string st) (.string V.f0) (.string V.f1) (.slice A7 V.f2.length c7) (.slice A8 V.f3.length c8) (.slice A9 Q.length c9))
      refine bodyPost_ret (results_ct rfl _ _ Z 34 _ (0,0) _ rfl HE9 Tryz.underlying34 rfl (by kernel_rfl)) rfl ?_
      obtain ⟨rfl,rfl⟩:=Prod.mk.inj HS2.out
      have HKB:=(kb10 w10 Z (.int .i64 n0) (.int .i64 n1) (.int .i64 n2) (.int .i64 n3) (.string st) (.string V.f0) (.string V.f1) (.slice A7 V.f2.length c7) (.slice A8 V.f3.length c8) (.slice A9 Q.length c9))
      exact ⟨.slice A7 V.f2.length c7,.slice A8 V.f3.length c8,.slice A9 Q.length c9,rfl,R_turnT H7b.out HT10.out.hZ (by decide) HKB,R_turnT H8b.out HT10.out.hZ (by decide) HKB,S_turnT H9b.out HT10.out.hZ (by decide) HKB,(bb10 HT10.out.hB HT10.out.z1 (.int .i64 n0) (.int .i64 n1) (.int .i64 n2) (.int .i64 n3) (.string st) (.string V.f0) (.string V.f1) (.slice A7 V.f2.length c7) (.slice A8 V.f3.length c8) (.slice A9 Q.length c9))⟩
     ·have b4:decide (pp=l0)=false:=decide_eq_false hpl
      rw [b4]
      clear b4
      have HS2:=Ak (ite_yes HST2.out (.inr (.inr (.inr hpl))))
      clear HST2
      obtain ⟨hz0,hz1,hz2,hz3,hz4,hz5,hz6,hz7,hz8,hz9⟩:=cl10 HT10.out.hZ;obtain ⟨hf0,hf1,hf2,hf3,hf4,hf5,hf6,hf7,hf8,hf9⟩:=fr10 HT10.out.hZ
      go_wp2_with fail
      have HE9:=(bp10 HT10.out.hZ (.int .i64 0) (.int .i64 0) (.int .i64 0) (.int .i64 0) (.string ⟨#[]⟩) (.string ⟨#[]⟩) (.string ⟨#[]⟩) (.slice none 0 0) (.slice none 0 0) (.slice none 0 0))
      refine bodyPost_ret (results_ct rfl _ _ Z 34 _ (0,0) _ rfl HE9 Tryz.underlying34 rfl (by kernel_rfl)) rfl ?_
      obtain ⟨rfl,rfl⟩:=Prod.mk.inj HS2.out
      exact ⟨.slice none 0 0,.slice none 0 0,.slice none 0 0,rfl,Kd.R_nil _ _ _ _ _,Kd.R_nil _ _ _ _ _,Kd.S_nil _ _ _ _ _,(bb10 HT10.out.hB HT10.out.z1 (.int .i64 0) (.int .i64 0) (.int .i64 0) (.int .i64 0) (.string ⟨#[]⟩) (.string ⟨#[]⟩) (.string ⟨#[]⟩) (.slice none 0 0) (.slice none 0 0) (.slice none 0 0))⟩
    ·skip
     have HS2:=Ak (ite_yes HST2.out (.inr (.inr (.inl (by decide)))))
     clear HST2
     obtain ⟨hz0,hz1,hz2,hz3,hz4,hz5,hz6,hz7,hz8,hz9⟩:=cl10 HT10.out.hZ;obtain ⟨hf0,hf1,hf2,hf3,hf4,hf5,hf6,hf7,hf8,hf9⟩:=fr10 HT10.out.hZ
     go_wp2_with fail
     have HE9:=(bp10 HT10.out.hZ (.int .i64 0) (.int .i64 0) (.int .i64 0) (.int .i64 0) (.string ⟨#[]⟩) (.string ⟨#[]⟩) (.string ⟨#[]⟩) (.slice none 0 0) (.slice none 0 0) (.slice none 0 0))
     refine bodyPost_ret (results_ct rfl _ _ Z 34 _ (0,0) _ rfl HE9 Tryz.underlying34 rfl (by kernel_rfl)) rfl ?_
     obtain ⟨rfl,rfl⟩:=Prod.mk.inj HS2.out
     exact ⟨.slice none 0 0,.slice none 0 0,.slice none 0 0,rfl,Kd.R_nil _ _ _ _ _,Kd.R_nil _ _ _ _ _,Kd.S_nil _ _ _ _ _,(bb10 HT10.out.hB HT10.out.z1 (.int .i64 0) (.int .i64 0) (.int .i64 0) (.int .i64 0) (.string ⟨#[]⟩) (.string ⟨#[]⟩) (.string ⟨#[]⟩) (.slice none 0 0) (.slice none 0 0) (.slice none 0 0))⟩
    ·skip
     have HS2:=Ak (ite_yes HST2.out (.inr (.inl (by decide))))
     clear HST2
     obtain ⟨hz0,hz1,hz2,hz3,hz4,hz5,hz6,hz7,hz8,hz9⟩:=cl10 HT10.out.hZ;obtain ⟨hf0,hf1,hf2,hf3,hf4,hf5,hf6,hf7,hf8,hf9⟩:=fr10 HT10.out.hZ
     go_wp2_with fail
     have HE9:=(bp10 HT10.out.hZ (.int .i64 0) (.int .i64 0) (.int .i64 0) (.int .i64 0) (.string ⟨#[]⟩) (.string ⟨#[]⟩) (.string ⟨#[]⟩) (.slice none 0 0) (.slice none 0 0) (.slice none 0 0))
     refine bodyPost_ret (results_ct rfl _ _ Z 34 _ (0,0) _ rfl HE9 Tryz.underlying34 rfl (by kernel_rfl)) rfl ?_
     obtain ⟨rfl,rfl⟩:=Prod.mk.inj HS2.out
     exact ⟨.slice none 0 0,.slice none 0 0,.slice none 0 0,rfl,Kd.R_nil _ _ _ _ _,Kd.R_nil _ _ _ _ _,Kd.S_nil _ _ _ _ _,(bb10 HT10.out.hB HT10.out.z1 (.int .i64 0) (.int .i64 0) (.int .i64 0) (.int .i64 0) (.string ⟨#[]⟩) (.string ⟨#[]⟩) (.string ⟨#[]⟩) (.slice none 0 0) (.slice none 0 0) (.slice none 0 0))⟩
    ·skip
     have HS2:=Ak (ite_yes HST2.out (.inr (.inl (by decide))))
     clear HST2
     obtain ⟨hz0,hz1,hz2,hz3,hz4,hz5,hz6,hz7,hz8,hz9⟩:=cl10 HT10.out.hZ;obtain ⟨hf0,hf1,hf2,hf3,hf4,hf5,hf6,hf7,hf8,hf9⟩:=fr10 HT10.out.hZ
     go_wp2_with fail
     have HE9:=(bp10 HT10.out.hZ (.int .i64 0) (.int .i64 0) (.int .i64 0) (.int .i64 0) (.string ⟨#[]⟩) (.string ⟨#[]⟩) (.string ⟨#[]⟩) (.slice none 0 0) (.slice none 0 0) (.slice none 0 0))
     refine bodyPost_ret (results_ct rfl _ _ Z 34 _ (0,0) _ rfl HE9 Tryz.underlying34 rfl (by kernel_rfl)) rfl ?_
     obtain ⟨rfl,rfl⟩:=Prod.mk.inj HS2.out
     exact ⟨.slice none 0 0,.slice none 0 0,.slice none 0 0,rfl,Kd.R_nil _ _ _ _ _,Kd.R_nil _ _ _ _ _,Kd.S_nil _ _ _ _ _,(bb10 HT10.out.hB HT10.out.z1 (.int .i64 0) (.int .i64 0) (.int .i64 0) (.int .i64 0) (.string ⟨#[]⟩) (.string ⟨#[]⟩) (.string ⟨#[]⟩) (.slice none 0 0) (.slice none 0 0) (.slice none 0 0))⟩
def FitP (l:List S34):Prop:=∀ t ∈ l,FitS t∧t.f4.size≤100000
theorem drop_rdS (l:List S34) (i:Nat) (h:i < l.length):l.drop i=rd_T34 l (i:Int) :: l.drop (i+1):=by
 rw [List.drop_eq_getElem_cons h]
 congr 1
 unfold rd_T34
 rw [Int.toNat_natCast,List.getD_eq_getElem?_getD,List.getElem?_eq_getElem h];rfl
theorem rdS_mem {l:List S34} {i:Nat} (h:i < l.length):rd_T34 l (i:Int) ∈ l:=getD_mem' h _
theorem takeS_snoc (l:List S34) (i:Nat) (h:i < l.length):l.take (i+1)=l.take i++[rd_T34 l (i:Int)]:=by
 rw [List.take_succ_eq_append_getElem h]
 congr 2
 unfold rd_T34
 rw [Int.toNat_natCast,List.getD_eq_getElem?_getD,List.getElem?_eq_getElem h];rfl
theorem printL_snoc (a:List S34) (t:S34):printL (a++[t])=printL a++lineT t:=by unfold printL;simp
theorem FitS.ok {t:S34} (h:FitS t) (h2:(putS t).2=0):OkS t:=⟨h.k0,h.k1,h.k2,h.k3,by have:=h.k4;omega,(putS_inv h2).1,(putS_inv h2).2.1⟩
theorem printL_bound:∀ (l:List S34),(∀ t ∈ l,OkS t∧t.f4.size≤100000)→(printL l).length≤206200 * l.length
 | [],_=>Nat.le_refl _
 | t :: m,h=>by
  have h1:=printL_bound m (fun x hx=>h x (by simp [hx]))
  have h2:=lineT_len t
  have h3:=encS_size (h t (by simp)).1
  have h4:=(h t (by simp)).2
  rw [show printL (t :: m)=lineT t++printL m from rfl,List.length_append,List.length_cons]
  omega
theorem firstS_yes {l:List S34} {i:Nat} (h:i < l.length) (h0:(putS (rd_T34 l (i:Int))).2=0):firstS (l.drop i)=firstS (l.drop (i+1)):=by rw [drop_rdS l i h,firstS,if_pos h0]
theorem firstS_no {l:List S34} {i:Nat} (h:i < l.length) (h0:(putS (rd_T34 l (i:Int))).2≠0):firstS (l.drop i)=(putS (rd_T34 l (i:Int))).2:=by rw [drop_rdS l i h,firstS,if_neg h0]
theorem bytes_line (t:S34):bytesOf (strOfNums (hexL (encS t))++(⟨#[10]⟩:ByteArray))=lineT t:=by
 have e:strOfNums (hexL (encS t))++(⟨#[10]⟩:ByteArray)=strOfNums (lineT t):=by
  unfold lineT
  rw [str_append];rfl
 rw [e,bytesOf_strOfNums (lineT_bytes t)]
theorem Low.far {N B M:Nat} {a b c:World} (h:Low N B a b) (k:Below M b c) (hM:N≤M):Low N B a c:=
 ⟨k.os.trans h.os,k.tape.trans h.tape,k.output.trans h.output,Nat.le_trans h.size k.size,fun i hi hb=>(k.block i (by omega)).trans (h.block i hi hb)⟩
theorem Bld.far {N B T t:Nat} {l:List Int} {cells:Array Value} {w w':World} (h:Bld N B l w) (hb:w.heap[T]? = some (.cells cells t (0,0))) (ht:∀ q,q ∈ 5 :: (Kd.int .u8).E→q≠t) (hk:KeepBut w w' T none) (hT:N≤T):Bld N B l w':=by
 obtain ⟨p,v,h1,h2,h3,h4,h5⟩:=h
 exact ⟨p,v,hk.blk h1 (by omega) (by simp),h2,R_turnT h3 hb ht hk,h4,Nat.le_trans h5 hk.1⟩
set_option maxRecDepth 100000 in
set_option maxHeartbeats 4000000 in
theorem print_calls22 (A:Option Addr) (c:Nat) (l:List S34) (w:World) (hC:Kd.C k34 w A l.length l) (hc:l.length≤c) (hf:FitP l) (r:List Int) (re:Int) (h:printS l=(r,re)) :
  Calls Tryz.prog 12 #[.slice A l.length c] w fun e w'=>e = .returned (.tuple #[.string (strOfNums r),.int .i64 re])∧Below w.heap.size w w':=by
 have hmx:=Kd.C_max hC
 have HC:=Ak hC
 have HF:=Ak hf
 have HH:=Ak h
 clear hC hc hf h
 have hu34:=Tryz.underlying34
 have hu:=Tryz.underlying74
 by_cases hbig:2048 < l.length
 ·have hd:decide ((2048:Int) < (l.length:Int))=true:=decide_eq_true (by omega)
  have HR:=HH.out
  unfold printS at HR
  rw [if_pos hbig] at HR
  obtain ⟨rfl,rfl⟩:=Prod.mk.inj HR
  clear HR HH HC HF
  go_enter Tryz.func12,Tryz.ntmps12
  go_wp2
  go_ret2
  exact ⟨rfl,Below.refl _ _⟩
 have hd:decide ((2048:Int) < (l.length:Int))=false:=decide_eq_false (by omega)
 have HS:Aside0 ((if firstS (l.drop 0)≠0 then ([],firstS (l.drop 0)) else (printL l,(0:Int)))=(r,re)):=⟨by rw [←HH.out];unfold printS;rw [if_neg hbig];rfl⟩
 clear HH
 go_enter Tryz.func12,Tryz.ntmps12
 go_upto_region 5 with (((with_reducible refine gate_dst (N:=4) rfl ?_);(try (refine gate_guard (by rfl) ?_;dsimp only));refine box_event ?hg (N:=4) ?hd (cs:=#[.pointer none,.slice none 0 0]) (t:=74) ?hr ?_;(case hd=>rfl);(case hg=>rfl);(case hr=>(go_simp;done));intro B hg_ w1 hbox_ hb_;have HX:=Ak hbox_;have HXN:=Ak hg_;have HXB:=Ak hb_;clear hbox_ hg_ hb_))
 obtain ⟨N,hN⟩:∃ N,N=w1.heap.size:=⟨_,rfl⟩
 have HB1:=Ak (Bld.start HX.out hN)
 have HNB:=Ak (show w.heap.size≤N∧w.heap.size≤B∧B < N by have:=HXN.out;have:=HXB.out.size;have:=blk_lt HX.out;omega)
 clear HX hN HXN
 go_loopg [14] l.length (fun gk v14 w'=>∃ i:Nat,v14 = .int .i64 (i:Int)∧Aside0 (i+gk=l.length)∧Aside0 ((if firstS (l.drop i)≠0 then ([],firstS (l.drop i)) else (printL l,(0:Int)))=(r,re))∧Aside0 (∀ t ∈ l.take i,OkS t∧t.f4.size≤100000)∧Aside0 (Bld N B (printL (l.take i)) w')∧Aside0 (Low N B w1 w'))
 case atStart=>exact ⟨0,rfl,⟨by omega⟩,HS,⟨fun t ht=>by simp at ht⟩,HB1,⟨Low.refl⟩⟩
 case round=>
  clear HB1 HS
  obtain ⟨i,rfl,HE,HS,HOK,HB,HL⟩:=hrel
  have HBW:=Ak (HXB.out.trans (HL.out.below HNB.out.1 HNB.out.2.1))
  have hil:i≤l.length:=by have:=HE.out;omega
  have hpl:=printL_bound _ HOK.out
  rw [List.length_take] at hpl
  by_cases hlt:i < l.length
  ·have hb1:decide ((i:Int) < (l.length:Int))=true:=decide_eq_true (by omega)
   obtain ⟨ad,A7,c7,A8,c8,A9,c9,e_,hx0,hx1,hx2,hx3,hx4,hx5,hx6,hx7,hx8,hx9,l7,g7,l8,g8,l9,g9⟩:=at_T34 (Kd.C_below HC.out HBW.out) (i:Int) (by omega) (by omega)
   cases e_
   rw [Int.toNat_natCast] at hx0 hx1 hx2 hx3 hx4 hx5 hx6 hx7 hx8 hx9
   have hsn:=takeS_snoc l i hlt
   have hfit:=HF.out _ (rdS_mem hlt)
   have hy:=firstS_yes (l:=l) hlt
   have hn:=firstS_no (l:=l) hlt
   obtain ⟨t,ht⟩:∃ t,t=rd_T34 l (i:Int):=⟨_,rfl⟩
   rw [←ht] at hx0 hx1 hx2 hx3 hx4 hx5 hx6 hx7 hx8 hx9 l7 g7 l8 g8 l9 g9 hsn hfit hy hn
   have HSC:=Ak (StC.mk (w:=wr) (t:=t) g7 l7 g8 l8 g9 l9)
   have HSN:=Ak hsn
   have HFT:=Ak hfit
   have HY:=Ak hy
   have HNO:=Ak hn
   have hib:(i:Int) * 10≤20480:=by omega
   clear ht hsn hfit hy hn g7 l7 g8 l8 g9 l9
   go_upto_region 7 with (((with_reducible refine gate_dst (N:=6) rfl ?_);(try (refine gate_guard (by rfl) ?_;dsimp only));refine box_event ?hg (N:=6) ?hd (cs:=#[.int .i64 0,.int .i64 0,.int .i64 0,.int .i64 0,.string ⟨#[]⟩,.string ⟨#[]⟩,.string ⟨#[]⟩,.slice none 0 0,.slice none 0 0,.slice none 0 0]) (t:=34) ?hr ?_;(case hd=>rfl);(case hg=>rfl);(case hr=>(go_simp;done));intro T hg_ w3 hbox_ hb_;have HX:=Ak hbox_;have HXN:=Ak hg_;have HXB3:=Ak hb_;clear hbox_ hg_ hb_;obtain ⟨hz0,hz1,hz2,hz3,hz4,hz5,hz6,hz7,hz8,hz9⟩:=cl10 HX.out;obtain ⟨hf0,hf1,hf2,hf3,hf4,hf5,hf6,hf7,hf8,hf9⟩:=fr10 HX.out))
   have HTW:=Ak (show wr.heap.size≤T∧N≤T by
    have h1:=HXN.out
    obtain ⟨_,_,_,_,_,_,h2⟩:=HB.out
    omega)
   have n0_:=Ak (bb10 (Below.refl T w3) (Nat.le_refl T) (.int .i64 t.f0) (.int .i64 t.f1) (.int .i64 t.f2) (.int .i64 t.f3) (.string t.f4) (.string t.f5.f0) (.string t.f5.f1) (.slice A7 t.f5.f2.length c7) (.slice A8 t.f5.f3.length c8) (.slice A9 t.f6.f0.length c9))
   have n1_:=Ak (bp10 HX.out (.int .i64 t.f0) (.int .i64 t.f1) (.int .i64 t.f2) (.int .i64 t.f3) (.string t.f4) (.string t.f5.f0) (.string t.f5.f1) (.slice A7 t.f5.f2.length c7) (.slice A8 t.f5.f3.length c8) (.slice A9 t.f6.f0.length c9))
   have n2_:=Ak (kb10 w3 T (.int .i64 t.f0) (.int .i64 t.f1) (.int .i64 t.f2) (.int .i64 t.f3) (.string t.f4) (.string t.f5.f0) (.string t.f5.f1) (.slice A7 t.f5.f2.length c7) (.slice A8 t.f5.f3.length c8) (.slice A9 t.f6.f0.length c9))
   have n3_:=Ak (bb10 HXB3.out HTW.out.1 (.int .i64 t.f0) (.int .i64 t.f1) (.int .i64 t.f2) (.int .i64 t.f3) (.string t.f4) (.string t.f5.f0) (.string t.f5.f1) (.slice A7 t.f5.f2.length c7) (.slice A8 t.f5.f3.length c8) (.slice A9 t.f6.f0.length c9))
   have HB3:=Ak (HB.out.up HXB3.out)
   have HX3:=HX
   obtain ⟨_,_,_,_,_,_,hNw⟩:=HB.out
   have HNW:=Ak hNw
   clear HX HXN hNw hx0 hx1 hx2 hx3 hx4 hx5 hx6 hx7 hx8 hx9 hz0 hz1 hz2 hz3 hz4 hz5 hz6 hz7 hz8 hz9 hf0 hf1 hf2 hf3 hf4 hf5 hf6 hf7 hf8 hf9
   generalize ((((((((((w3.setCell ⟨T,0,none⟩ (.int .i64 t.f0)).setCell ⟨T,1,none⟩ (.int .i64 t.f1)).setCell ⟨T,2,none⟩ (.int .i64 t.f2)).setCell ⟨T,3,none⟩ (.int .i64 t.f3)).setCell ⟨T,4,none⟩ (.string t.f4)).setCell ⟨T,5,none⟩ (.string t.f5.f0)).setCell ⟨T,6,none⟩ (.string t.f5.f1)).setCell ⟨T,7,none⟩ (.slice A7 t.f5.f2.length c7)).setCell ⟨T,8,none⟩ (.slice A8 t.f5.f3.length c8)).setCell ⟨T,9,none⟩ (.slice A9 t.f6.f0.length c9))=w4 at n0_ n1_ n2_ n3_ ⊢
   have HB4:=Ak (HB3.out.far HX3.out (by decide) n2_.out HTW.out.2)
   have HL4:=Ak ((HL.out.up HNW.out HXB3.out).far n0_.out HTW.out.2)
   obtain ⟨⟨p,pe⟩,hp⟩:∃ q,putS t=q:=⟨_,rfl⟩
   have HPT:=Ak (put_calls22 t A7 c7 A8 c8 A9 c9 w4 ⟨Kd.C_below HSC.out.h7 n3_.out,HSC.out.l7,Kd.C_below HSC.out.h8 n3_.out,HSC.out.l8,Kd.C_below HSC.out.h9 n3_.out,HSC.out.l9⟩ HFT.out.1 p pe hp)
   unfold stV at HPT
   have HP:=Ak hp
   clear hp HB HL HB3 HX3 HXB3 n0_ n2_ HBW HSC HNW n3_
   have hx0:=blk_cell n1_.out 0
   have hx1:=blk_cell n1_.out 1
   have hx2:=blk_cell n1_.out 2
   have hx3:=blk_cell n1_.out 3
   have hx4:=blk_cell n1_.out 4
   have hx5:=blk_cell n1_.out 5
   have hx6:=blk_cell n1_.out 6
   have hx7:=blk_cell n1_.out 7
   have hx8:=blk_cell n1_.out 8
   have hx9:=blk_cell n1_.out 9
   go_wp2_with fail
   refine HPT.out.mono ?_
   rintro e w5 ⟨v5,rfl,ho,hb⟩
   obtain ⟨A5,c5,e5⟩:=Kd.R_slice ho
   subst e5
   obtain ⟨-,hc5,hC5⟩:=Kd.R_reads' ho
   have HB5:=Ak (HB4.out.up hb)
   have hN4:N≤w4.heap.size:=by obtain ⟨_,_,_,_,_,_,h2⟩:=HB4.out;exact h2
   have HL5:=Ak (HL4.out.up hN4 hb)
   have hN5:N≤w5.heap.size:=by obtain ⟨_,_,_,_,_,_,h2⟩:=HB5.out;exact h2
   clear hx0 hx1 hx2 hx3 hx4 hx5 hx6 hx7 hx8 hx9 HPT HB4 HL4 ho hb n1_ hN4
   by_cases h0:pe=0
   ·subst h0
    have hok:(putS t).2=0:=by rw [HP.out]
    have hpe:p=encS t:=by have:=(putS_inv hok).2.2;rw [HP.out] at this;exact (Prod.mk.inj this).1
    have HO:=Ak (HFT.out.1.ok hok)
    have HS2:=HS.out
    rw [HY.out hok] at HS2
    have HS3:=Ak HS2
    subst hpe
    have hez:=encS_size HO.out
    have hf4:=HFT.out.2
    have HW:=Ak (written_calls A5 c5 (encS t) w5 hC5 hc5 (encS_bytes t) (by omega))
    have hst:¬9223372036854775807 < (strOfNums (hexL (encS t))).size+1:=by
     rw [←bytes_length,bytesOf_strOfNums (hexL_bytes (encS_bytes t)),hexL_len];omega
    have hss:(strOfNums (hexL (encS t))++(⟨#[10]⟩:ByteArray)).size=2 * (encS t).length+1:=by
     rw [←bytes_length,bytes_line,lineT_len]
    clear hok HS2 HS hc5 hC5 HP HY HNO
    go_wp2_with fail
    refine HW.out.mono ?_
    rintro e w6 ⟨rfl,hb⟩
    have HB6:=Ak (HB5.out.up hb)
    have HL6:=Ak (HL5.out.up hN5 hb)
    have hN6:N≤w6.heap.size:=Nat.le_trans hN5 hb.size
    clear HW HB5 HL5 hb
    go_wp2_with fail
    refine (writeString_calls N B _ _ w6 (by rw [hss];omega) HB6.out).mono ?_
    rintro e w7 ⟨⟨v7,rfl⟩,hb,hl⟩
    rw [bytes_line] at hb
    have HB7:Aside0 (Bld N B (printL (l.take (i+1))) w7):=⟨by rw [HSN.out,printL_snoc];exact hb⟩
    have HL7:=Ak (HL6.out.trans hl)
    have HOK2:Aside0 (∀ t ∈ l.take (i+1),OkS t∧t.f4.size≤100000):=⟨fun x hx=>by
     rw [HSN.out] at hx
     rcases List.mem_append.1 hx with hx | hx
     ·exact HOK.out x hx
     ·rw [List.mem_singleton.1 hx];exact ⟨HO.out,HFT.out.2⟩⟩
    clear HB6 HL6 hb hl hss hst
    go_wp2_with fail
    go_roundg (l.length - (i+1))
    case measure=>have:=HE.out;omega
    case rel=>exact ⟨i+1,by go_num,⟨by have:=HE.out;omega⟩,HS3,HOK2,HB7,HL7⟩
   ·have hbn:(pe != 0)=true:=bne_iff_ne.mpr h0
    have HS2:=HS.out
    have hne:(putS t).2≠0:=by rw [HP.out];exact h0
    rw [HNO.out hne,if_pos hne,HP.out] at HS2
    obtain ⟨rfl,rfl⟩:=Prod.mk.inj HS2
    have HBF:=Ak (HXB.out.trans (HL5.out.below HNB.out.1 HNB.out.2.1))
    clear HS2 HS hne HP HNO HY hc5 hC5
    go_wp2_with fail
    go_ret2
    exact ⟨rfl,HBF.out⟩
  ·have hb1:decide ((i:Int) < (l.length:Int))=false:=decide_eq_false (by omega)
   have HS2:=HS.out
   rw [List.drop_eq_nil_of_le (by omega)] at HS2
   obtain ⟨rfl,rfl⟩:=Prod.mk.inj ((if_neg (by simp [firstS])).symm.trans HS2)
   have HB2:Aside0 (Bld N B (printL l) wr):=⟨by have:=HB.out;rwa [List.take_of_length_le (by omega)] at this⟩
   clear HB HS HS2
   go_wp2_with fail
   refine (string_calls N B _ wr (printL_bytes l) HB2.out).mono ?_
   rintro e w2 ⟨rfl,hb2⟩
   have HB3:=Ak (HBW.out.trans (hb2.mono HNB.out.2.1))
   clear hb2
   go_wp2
   go_ret2
   exact ⟨rfl,HB3.out⟩
end Go.Proofs.YtocpcnmnhckcpaaGreat.Prt
namespace Go.Proofs.YtocpcnmnhckcpaaGreat.Prt
open RowKit YtocpcnmnhckcpaaGreatW.PrintWords YtocpcnmnhckcpaaGreatW.PrintLast YtocpcnmnhckcpaaGreatW.PrintMore
attribute [local go_sem] max2_int min2_int max_two min_two max_three min_three max_four min_four
mutual
def q06_May.l0:Nat→Int→List (S96)→Option (Int)
 | 0,_,_=>none
 | k+1,x3,x248000=>if x3 < (x248000.length:Int) then (if 0≤x3 then (if (((rd_T96 x248000 x3).f0).length:Int) > 4 then (some 3) else (if (((rd_T96 x248000 x3).f1).length:Int) > 4 then (some 3) else (q06_May.l0 k (wrap64 (x3+1)) x248000))) else (none)) else (q06_May.l1 k true 0 x248000)
def q06_May.l1:Nat→Bool→Int→List (S96)→Option (Int)
 | 0,_,_,_=>none
 | k+1,x4,x5,x248000=>if x5 < (x248000.length:Int) then (if 0≤x5 then (q06_May.l2 k x4 x5 0 x248000 ((rd_T96 x248000 x5).f0) ((rd_T96 x248000 x5).f1)) else (none)) else (if x4=true then (some 0) else (some 1))
def q06_May.l2:Nat→Bool→Int→Int→List (S96)→List ByteArray→List ByteArray→Option (Int)
 | 0,_,_,_,_,_,_=>none
 | k+1,x4,x5,x7,x248000,x252000,x252001=>if x7 < (x252000.length:Int) then (if 0≤x7 then ((q03_PartsG.f (rdOf ByteArray.empty x252000 x7)).bind fun bt253=>(if bt253.2.2=true then (q06_May.l2 k x4 x5 (wrap64 (x7+1)) x248000 x252000 x252001) else (some 5))) else (none)) else (q06_May.l3 k x4 x5 0 x248000 x252000 x252001)
def q06_May.l3:Nat→Bool→Int→Int→List (S96)→List ByteArray→List ByteArray→Option (Int)
 | 0,_,_,_,_,_,_=>none
 | k+1,x4,x5,x11,x248000,x252000,x252001=>if x11 < (x252001.length:Int) then (if 0≤x11 then ((q03_MayG.f (rdOf ByteArray.empty x252001 x11)).bind fun t257=>(if t257=true then (q06_May.l3 k x4 x5 (wrap64 (x11+1)) x248000 x252000 x252001) else (some 5))) else (none)) else ((q04_RiseG.f x252000).bind fun t258=>((q04_RiseG.f x252001).bind fun t259=>(if x4=true then (if t258=true then (q06_May.l1 k t259 (wrap64 (x5+1)) x248000) else (q06_May.l1 k false (wrap64 (x5+1)) x248000)) else (q06_May.l1 k false (wrap64 (x5+1)) x248000))))
end
def q06_May.f (k:Nat) (l0_0:List (S96)):Option (Int):=if (l0_0.length:Int) > 4 then (some 3) else (q06_May.l0 k 0 l0_0)
set_option maxHeartbeats 8000000 in
set_option maxRecDepth 100000 in
theorem q06_May.calls (k:Nat) (A0_0:Option Addr) (c0_0:Nat) (l0_0:List (S96)) (r:Int) (w:World) (hr0_0:Kd.C k96 w A0_0 l0_0.length l0_0) (hc0_0:l0_0.length≤c0_0) (h:q06_May.f k l0_0=some r) :
  Calls Tryz.prog 62 #[.agg #[.slice A0_0 l0_0.length c0_0]] w fun e w'=>e = .returned (.int .i64 r)∧Below w.heap.size w w':=by
 have hu32:=Tryz.underlying32
 have hu96:=Tryz.underlying96
 have HR0_0:=Ak hr0_0
 have HC0_0:=Ak hc0_0
 clear hr0_0 hc0_0
 have HB:=Ak (Below.refl w.heap.size w)
 have H:(if (l0_0.length:Int) > 4 then (some 3) else (q06_May.l0 k 0 l0_0))=some r:=h
 clear h
 by_cases c2:(l0_0.length:Int) > 4
 ·rw [if_pos c2] at H
  have c2b0:decide (4 < (l0_0.length:Int))=true:=decide_eq_true c2
  have c2b1:decide (4 < l0_0.length)=true:=decide_eq_true (by omega)
  clear c2
  obtain rfl:=Option.some.inj H
  go_enter Tryz.func62,Tryz.ntmps62
  go_wp2_with (((with_reducible refine gate_dst (N:=1) rfl ?_);(try (refine gate_guard (by rfl) ?_;dsimp only));refine box_event ?hg (N:=1) ?hd (cs:=#[.slice A0_0 l0_0.length c0_0]) (t:=32) ?hr ?_;(case hd=>rfl);(case hg=>rfl);(case hr=>(go_simp;done));intro gb247 hg w3 hbox hb;have n0_:=Ak (below_step HB.out hb);have n1_:=Ak (hbox);have n2_:=Ak ((by rw [hg];exact (below_size HB.out):w.heap.size≤gb247));have n3_:=Ak ((by rw [hg];exact (below_size HB.out):w.heap.size≤gb247));clear HB;have HB:=n0_;have BK247:=n1_;have GW247:=n2_;have GE247:=n3_;clear n0_ n1_ n2_ n3_;clear hb hbox hg;have hcz4_0:w3.cell? ⟨gb247,0,none⟩=some (.slice A0_0 l0_0.length c0_0):=(blk_cell BK247.out 0).trans rfl;have hfz4_0:=blk_frozen BK247.out 0))
  go_ret
  exact ⟨by rfl,by with_reducible exact HB.out⟩
 ·rw [if_neg c2] at H
  have c2b0:decide (4 < (l0_0.length:Int))=false:=decide_eq_false c2
  have c2b1:decide (4 < l0_0.length)=false:=decide_eq_false (by omega)
  clear c2
  have H':=Ak H
  clear H
  go_enter Tryz.func62,Tryz.ntmps62
  go_wp2_with (((with_reducible refine gate_dst (N:=1) rfl ?_);(try (refine gate_guard (by rfl) ?_;dsimp only));refine box_event ?hg (N:=1) ?hd (cs:=#[.slice A0_0 l0_0.length c0_0]) (t:=32) ?hr ?_;(case hd=>rfl);(case hg=>rfl);(case hr=>(go_simp;done));intro gb247 hg w5 hbox hb;have n0_:=Ak (below_step HB.out hb);have n1_:=Ak (hbox);have n2_:=Ak ((by rw [hg];exact (below_size HB.out):w.heap.size≤gb247));have n3_:=Ak ((by rw [hg];exact (below_size HB.out):w.heap.size≤gb247));clear HB;have HB:=n0_;have BK247:=n1_;have GW247:=n2_;have GE247:=n3_;clear n0_ n1_ n2_ n3_;clear hb hbox hg;have hcz6_0:w5.cell? ⟨gb247,0,none⟩=some (.slice A0_0 l0_0.length c0_0):=(blk_cell BK247.out 0).trans rfl;have hfz6_0:=blk_frozen BK247.out 0))
  go_loopg [3] k (fun kq v3 w'=>∃ (x3_1:Int),v3 = .int .i64 x3_1∧Aside0 (q06_May.l0 kq x3_1 l0_0=some r)∧Aside0 (kq≤k)∧Aside0 (w'.heap[gb247]? = some (.cells #[(.slice A0_0 l0_0.length c0_0)] 32 (0,0)))∧Aside0 (Below w.heap.size w w'))
  case atStart=>exact ⟨(0),(by rfl),H',⟨Nat.le_refl _⟩,⟨by exact BK247.out⟩,⟨by with_reducible exact HB.out⟩⟩
  case round=>
   clear H'
   try clear c2b0
   try clear c2b1
   try clear hcz6_0
   try clear hfz6_0
   obtain ⟨x3_1,rfl,HA,HK1,BK247,HB⟩:=hrel
   cases gk with
   | zero=>exact absurd HA.out (by simp [q06_May.l0])
   | succ k1=>
    have H:=HA.out
    clear HA
    simp only [q06_May.l0] at H
    by_cases c7:x3_1 < (l0_0.length:Int)
    ·rw [if_pos c7] at H
     have c7b0:decide (x3_1 < (l0_0.length:Int))=true:=decide_eq_true c7
     clear c7
     by_cases c8:0≤x3_1
     ·rw [if_pos c8] at H
      have c8b0:decide (0≤x3_1)=true:=decide_eq_true c8
      clear c8
      by_cases c9:(((rd_T96 l0_0 x3_1).f0).length:Int) > 4
      ·rw [if_pos c9] at H
       have c9b0:decide (4 < (((rd_T96 l0_0 x3_1).f0).length:Int))=true:=decide_eq_true c9
       have c9b1:decide (4 < ((rd_T96 l0_0 x3_1).f0).length)=true:=decide_eq_true (by omega)
       clear c9
       obtain rfl:=Option.some.inj H
       have hcz10_0:wr.cell? ⟨gb247,0,none⟩=some (.slice A0_0 l0_0.length c0_0):=(blk_cell BK247.out 0).trans rfl
       have hfz10_0:=blk_frozen BK247.out 0
       have p248:0≤(x3_1:Int):=of_decide_eq_true (by (with_reducible assumption))
       have q248:x3_1 < (l0_0.length:Int):=of_decide_eq_true (by (with_reducible assumption))
       obtain ⟨ad248,A248_0,c248_0,A248_1,c248_1,e248,hx248_0,hx248_1,hl248_0,hi248_0,hl248_1,hi248_1⟩:=at_T96 HR0_0.out x3_1 p248 q248
       cases e248
       replace hx248_0:=(HB.out.cell (World.block_lt_of_cell? w _ hx248_0)).trans hx248_0
       replace hx248_1:=(HB.out.cell (World.block_lt_of_cell? w _ hx248_1)).trans hx248_1
       have HR248_0:=Ak hi248_0
       have HC248_0:=Ak hl248_0
       clear hi248_0 hl248_0
       have HR248_1:=Ak hi248_1
       have HC248_1:=Ak hl248_1
       clear hi248_1 hl248_1
       replace p248:=eq_true p248
       replace q248:=eq_true q248
       go_wp2
       go_ret
       exact ⟨by rfl,by with_reducible exact HB.out⟩
      ·rw [if_neg c9] at H
       have c9b0:decide (4 < (((rd_T96 l0_0 x3_1).f0).length:Int))=false:=decide_eq_false c9
       have c9b1:decide (4 < ((rd_T96 l0_0 x3_1).f0).length)=false:=decide_eq_false (by omega)
       clear c9
       by_cases c11:(((rd_T96 l0_0 x3_1).f1).length:Int) > 4
       ·rw [if_pos c11] at H
        have c11b0:decide (4 < (((rd_T96 l0_0 x3_1).f1).length:Int))=true:=decide_eq_true c11
        have c11b1:decide (4 < ((rd_T96 l0_0 x3_1).f1).length)=true:=decide_eq_true (by omega)
        clear c11
        obtain rfl:=Option.some.inj H
        have hcz12_0:wr.cell? ⟨gb247,0,none⟩=some (.slice A0_0 l0_0.length c0_0):=(blk_cell BK247.out 0).trans rfl
        have hfz12_0:=blk_frozen BK247.out 0
        have p248:0≤(x3_1:Int):=of_decide_eq_true (by (with_reducible assumption))
        have q248:x3_1 < (l0_0.length:Int):=of_decide_eq_true (by (with_reducible assumption))
        obtain ⟨ad248,A248_0,c248_0,A248_1,c248_1,e248,hx248_0,hx248_1,hl248_0,hi248_0,hl248_1,hi248_1⟩:=at_T96 HR0_0.out x3_1 p248 q248
        cases e248
        replace hx248_0:=(HB.out.cell (World.block_lt_of_cell? w _ hx248_0)).trans hx248_0
        replace hx248_1:=(HB.out.cell (World.block_lt_of_cell? w _ hx248_1)).trans hx248_1
        have HR248_0:=Ak hi248_0
        have HC248_0:=Ak hl248_0
        clear hi248_0 hl248_0
        have HR248_1:=Ak hi248_1
        have HC248_1:=Ak hl248_1
        clear hi248_1 hl248_1
        replace p248:=eq_true p248
        replace q248:=eq_true q248
        have p249:0≤(x3_1:Int):=of_decide_eq_true (by (with_reducible assumption))
        have q249:x3_1 < (l0_0.length:Int):=of_decide_eq_true (by (with_reducible assumption))
        obtain ⟨ad249,A249_0,c249_0,A249_1,c249_1,e249,hx249_0,hx249_1,hl249_0,hi249_0,hl249_1,hi249_1⟩:=at_T96 HR0_0.out x3_1 p249 q249
        obtain rfl:ad248=ad249:=(by injection e249)
        replace hx249_0:=(HB.out.cell (World.block_lt_of_cell? w _ hx249_0)).trans hx249_0
        replace hx249_1:=(HB.out.cell (World.block_lt_of_cell? w _ hx249_1)).trans hx249_1
        have HR249_0:=Ak hi249_0
        have HC249_0:=Ak hl249_0
        clear hi249_0 hl249_0
        have HR249_1:=Ak hi249_1
        have HC249_1:=Ak hl249_1
        clear hi249_1 hl249_1
        replace p249:=eq_true p249
        replace q249:=eq_true q249
        have ea_:=Option.some.inj (hx248_0.symm.trans hx249_0)
        injection ea_ with ea_ en_ ec_
        subst ea_
        subst ec_
        clear en_
        have ea_:=Option.some.inj (hx248_1.symm.trans hx249_1)
        injection ea_ with ea_ en_ ec_
        subst ea_
        subst ec_
        clear en_
        go_wp2
        go_ret
        exact ⟨by rfl,by with_reducible exact HB.out⟩
       ·rw [if_neg c11] at H
        have c11b0:decide (4 < (((rd_T96 l0_0 x3_1).f1).length:Int))=false:=decide_eq_false c11
        have c11b1:decide (4 < ((rd_T96 l0_0 x3_1).f1).length)=false:=decide_eq_false (by omega)
        clear c11
        have H':=Ak H
        clear H
        have hcz13_0:wr.cell? ⟨gb247,0,none⟩=some (.slice A0_0 l0_0.length c0_0):=(blk_cell BK247.out 0).trans rfl
        have hfz13_0:=blk_frozen BK247.out 0
        have p248:0≤(x3_1:Int):=of_decide_eq_true (by (with_reducible assumption))
        have q248:x3_1 < (l0_0.length:Int):=of_decide_eq_true (by (with_reducible assumption))
        obtain ⟨ad248,A248_0,c248_0,A248_1,c248_1,e248,hx248_0,hx248_1,hl248_0,hi248_0,hl248_1,hi248_1⟩:=at_T96 HR0_0.out x3_1 p248 q248
        cases e248
        replace hx248_0:=(HB.out.cell (World.block_lt_of_cell? w _ hx248_0)).trans hx248_0
        replace hx248_1:=(HB.out.cell (World.block_lt_of_cell? w _ hx248_1)).trans hx248_1
        have HR248_0:=Ak hi248_0
        have HC248_0:=Ak hl248_0
        clear hi248_0 hl248_0
        have HR248_1:=Ak hi248_1
        have HC248_1:=Ak hl248_1
        clear hi248_1 hl248_1
        replace p248:=eq_true p248
        replace q248:=eq_true q248
        have p249:0≤(x3_1:Int):=of_decide_eq_true (by (with_reducible assumption))
        have q249:x3_1 < (l0_0.length:Int):=of_decide_eq_true (by (with_reducible assumption))
        obtain ⟨ad249,A249_0,c249_0,A249_1,c249_1,e249,hx249_0,hx249_1,hl249_0,hi249_0,hl249_1,hi249_1⟩:=at_T96 HR0_0.out x3_1 p249 q249
        obtain rfl:ad248=ad249:=(by injection e249)
        replace hx249_0:=(HB.out.cell (World.block_lt_of_cell? w _ hx249_0)).trans hx249_0
        replace hx249_1:=(HB.out.cell (World.block_lt_of_cell? w _ hx249_1)).trans hx249_1
        have HR249_0:=Ak hi249_0
        have HC249_0:=Ak hl249_0
        clear hi249_0 hl249_0
        have HR249_1:=Ak hi249_1
        have HC249_1:=Ak hl249_1
        clear hi249_1 hl249_1
        replace p249:=eq_true p249
        replace q249:=eq_true q249
        have ea_:=Option.some.inj (hx248_0.symm.trans hx249_0)
        injection ea_ with ea_ en_ ec_
        subst ea_
        subst ec_
        clear en_
        have ea_:=Option.some.inj (hx248_1.symm.trans hx249_1)
        injection ea_ with ea_ en_ ec_
        subst ea_
        subst ec_
        clear en_
        go_wp2
        go_roundg k1
        case measure=>have:=HK1.out;omega
        case rel=>exact ⟨(wrap64 (x3_1+1)),(by rfl),H',⟨by have:=HK1.out;omega⟩,⟨by exact BK247.out⟩,⟨by with_reducible exact HB.out⟩⟩
     ·rw [if_neg c8] at H
      exact absurd H (by simp)
    ·rw [if_neg c7] at H
     have c7b0:decide (x3_1 < (l0_0.length:Int))=false:=decide_eq_false c7
     clear c7
     have H':=Ak H
     clear H
     have hcz14_0:wr.cell? ⟨gb247,0,none⟩=some (.slice A0_0 l0_0.length c0_0):=(blk_cell BK247.out 0).trans rfl
     have hfz14_0:=blk_frozen BK247.out 0
     go_wp2
     go_loopg [4,5] k1 (fun kq v4 v5 w'=>∃ (x4_2:Bool) (x5_2:Int),v4 = .bool x4_2∧v5 = .int .i64 x5_2∧Aside0 (q06_May.l1 kq x4_2 x5_2 l0_0=some r)∧Aside0 (kq≤k1)∧Aside0 (w'.heap[gb247]? = some (.cells #[(.slice A0_0 l0_0.length c0_0)] 32 (0,0)))∧Aside0 (Below w.heap.size w w'))
     case atStart=>exact ⟨(true),(0),(by rfl),(by rfl),H',⟨Nat.le_refl _⟩,⟨by exact BK247.out⟩,⟨by with_reducible exact HB.out⟩⟩
     case round=>
      clear H'
      try clear c7b0
      try clear hcz14_0
      try clear hfz14_0
      obtain ⟨x4_2,x5_2,rfl,rfl,HA,HK2,BK247,HB⟩:=hrel
      cases gk with
      | zero=>exact absurd HA.out (by simp [q06_May.l1])
      | succ k2=>
       have H:=HA.out
       clear HA
       simp only [q06_May.l1] at H
       by_cases c15:x5_2 < (l0_0.length:Int)
       ·rw [if_pos c15] at H
        have c15b0:decide (x5_2 < (l0_0.length:Int))=true:=decide_eq_true c15
        clear c15
        by_cases c16:0≤x5_2
        ·rw [if_pos c16] at H
         have c16b0:decide (0≤x5_2)=true:=decide_eq_true c16
         clear c16
         have H':=Ak H
         clear H
         have hcz17_0:wr.cell? ⟨gb247,0,none⟩=some (.slice A0_0 l0_0.length c0_0):=(blk_cell BK247.out 0).trans rfl
         have hfz17_0:=blk_frozen BK247.out 0
         have p250:0≤(x5_2:Int):=of_decide_eq_true (by (with_reducible assumption))
         have q250:x5_2 < (l0_0.length:Int):=of_decide_eq_true (by (with_reducible assumption))
         obtain ⟨ad250,A250_0,c250_0,A250_1,c250_1,e250,hx250_0,hx250_1,hl250_0,hi250_0,hl250_1,hi250_1⟩:=at_T96 HR0_0.out x5_2 p250 q250
         cases e250
         replace hx250_0:=(HB.out.cell (World.block_lt_of_cell? w _ hx250_0)).trans hx250_0
         replace hx250_1:=(HB.out.cell (World.block_lt_of_cell? w _ hx250_1)).trans hx250_1
         have HR250_0:=Ak hi250_0
         have HC250_0:=Ak hl250_0
         clear hi250_0 hl250_0
         have HR250_1:=Ak hi250_1
         have HC250_1:=Ak hl250_1
         clear hi250_1 hl250_1
         replace p250:=eq_true p250
         replace q250:=eq_true q250
         go_wp2_with (((with_reducible refine gate_dst (N:=6) rfl ?_);(try (refine gate_guard (by rfl) ?_;dsimp only));refine box_event ?hg (N:=6) ?hd (cs:=#[.slice none 0 0,.slice none 0 0]) (t:=96) ?hr ?_;(case hd=>rfl);(case hg=>rfl);(case hr=>(go_simp;done));intro gb251 hg w18 hbox hb;have n0_:=Ak (blk_below (g:=gb247) (o:=.cells #[.slice (some ad250) l0_0.length c0_0] 32 (0,0)) BK247.out hb);have n1_:=Ak (below_step HB.out hb);have n2_:=Ak (hbox);have n3_:=Ak ((by rw [hg];exact (below_size HB.out):w.heap.size≤gb251));have n4_:=Ak ((by rw [hg];exact (below_size HB.out):w.heap.size≤gb251));have n5_:=Ak ((by rw [hg];exact Nat.ne_of_lt (blk_lt (g:=gb247) (o:=.cells #[.slice (some ad250) l0_0.length c0_0] 32 (0,0)) BK247.out):gb247≠gb251));have n6_:=Ak ((by rw [hg];exact Nat.ne_of_gt (blk_lt (g:=gb247) (o:=.cells #[.slice (some ad250) l0_0.length c0_0] 32 (0,0)) BK247.out):gb251≠gb247));clear BK247;clear HB;have BK247:=n0_;have HB:=n1_;have BK251:=n2_;have GW251:=n3_;have GE251:=n4_;have NB247_251:=n5_;have NB251_247:=n6_;clear n0_ n1_ n2_ n3_ n4_ n5_ n6_;clear hb hbox hg;have hnb19:=NB251_247.out;have hnc19:=NB247_251.out;have hcz20_0:w18.cell? ⟨gb251,0,none⟩=some (.slice none 0 0):=(blk_cell BK251.out 0).trans rfl;have hcz20_1:w18.cell? ⟨gb251,1,none⟩=some (.slice none 0 0):=(blk_cell BK251.out 1).trans rfl;have hfz20_0:=blk_frozen BK251.out 0;have hfz20_1:=blk_frozen BK251.out 1))
         go_loopg [7] k2 (fun kq v7 w'=>∃ (x7_3:Int),v7 = .int .i64 x7_3∧Aside0 (q06_May.l2 kq x4_2 x5_2 x7_3 l0_0 ((rd_T96 l0_0 x5_2).f0) ((rd_T96 l0_0 x5_2).f1)=some r)∧Aside0 (kq≤k2)∧Aside0 (w'.heap[gb247]? = some (.cells #[(.slice (some ad250) l0_0.length c0_0)] 32 (0,0)))∧Aside0 (w'.heap[gb251]? = some (.cells #[(.slice A250_0 ((rd_T96 l0_0 x5_2).f0).length c250_0),(.slice A250_1 ((rd_T96 l0_0 x5_2).f1).length c250_1)] 96 (0,0)))∧Aside0 (Below w.heap.size w w'))
         case atStart=>exact ⟨(0),(by rfl),H',⟨Nat.le_refl _⟩,⟨by refine blk_far ?_ NB247_251.out _;refine blk_far ?_ NB247_251.out _;exact BK247.out⟩,⟨by refine blk_put (cs:=#[.slice A250_0 ((rd_T96 l0_0 x5_2).f0).length c250_0,.slice none 0 0]) ?_ 1 _ rfl;refine blk_put (cs:=#[.slice none 0 0,.slice none 0 0]) ?_ 0 _ rfl;exact BK251.out⟩,⟨by repeat (with_reducible first | exact HB.out | refine below_set ?_ GE251.out)⟩⟩
         case round=>
          clear H'
          try clear c15b0
          try clear c16b0
          try clear hcz17_0
          try clear hcz20_0
          try clear hcz20_1
          try clear hfz17_0
          try clear hfz20_0
          try clear hfz20_1
          try clear hx250_0
          try clear hx250_1
          try clear p250
          try clear q250
          obtain ⟨x7_3,rfl,HA,HK3,BK247,BK251,HB⟩:=hrel
          cases gk with
          | zero=>exact absurd HA.out (by simp [q06_May.l2])
          | succ k3=>
           have H:=HA.out
           clear HA
           simp only [q06_May.l2] at H
           by_cases c21:x7_3 < (((rd_T96 l0_0 x5_2).f0).length:Int)
           ·rw [if_pos c21] at H
            have c21b0:decide (x7_3 < (((rd_T96 l0_0 x5_2).f0).length:Int))=true:=decide_eq_true c21
            clear c21
            by_cases c22:0≤x7_3
            ·rw [if_pos c22] at H
             have c22b0:decide (0≤x7_3)=true:=decide_eq_true c22
             clear c22
             replace H:=Option.bind_eq_some_iff.mp H
             obtain ⟨⟨t253,t254,t255⟩,A230,H⟩:=H
             replace H:(if t255=true then (q06_May.l2 k3 x4_2 x5_2 (wrap64 (x7_3+1)) l0_0 ((rd_T96 l0_0 x5_2).f0) ((rd_T96 l0_0 x5_2).f1)) else (some 5))=some r:=H
             have A23:=Ak A230
             clear A230
             by_cases c24:t255=true
             ·subst c24
              have H1:(q06_May.l2 k3 x4_2 x5_2 (wrap64 (x7_3+1)) l0_0 ((rd_T96 l0_0 x5_2).f0) ((rd_T96 l0_0 x5_2).f1))=some r:=by rw [if_pos rfl] at H;exact H
              clear H
              have H:=H1
              clear H1
              have H':=Ak H
              clear H
              have hnb25:=NB251_247.out
              have hnc25:=NB247_251.out
              have hcz26_0:wr.cell? ⟨gb251,0,none⟩=some (.slice A250_0 ((rd_T96 l0_0 x5_2).f0).length c250_0):=(blk_cell BK251.out 0).trans rfl
              have hcz26_1:wr.cell? ⟨gb251,1,none⟩=some (.slice A250_1 ((rd_T96 l0_0 x5_2).f1).length c250_1):=(blk_cell BK251.out 1).trans rfl
              have hfz26_0:=blk_frozen BK251.out 0
              have hfz26_1:=blk_frozen BK251.out 1
              have p252:0≤(x7_3:Int):=of_decide_eq_true (by (with_reducible assumption))
              have q252:x7_3 < (((rd_T96 l0_0 x5_2).f0).length:Int):=of_decide_eq_true (by (with_reducible assumption))
              obtain ⟨ad252,e252,hx252_0⟩:=Kd.at_string HR250_0.out x7_3 p252 q252
              cases e252
              replace hx252_0:=(HB.out.cell (World.block_lt_of_cell? w _ hx252_0)).trans hx252_0
              replace p252:=eq_true p252
              replace q252:=eq_true q252
              go_wp2_with (((with_reducible refine gate_callee (f:=93) rfl ?_);refine goesL_ (some 69) rfl rfl Tryz.func93 (by kernel_rfl) rfl #[.string (rdOf ByteArray.empty ((rd_T96 l0_0 x5_2).f0) x7_3)] rfl (by (try simp only [List.map_toArray,List.map_cons,List.map_nil]);rfl) ?_;(with_reducible refine (q03_PartsG.calls (rdOf ByteArray.empty ((rd_T96 l0_0 x5_2).f0) x7_3) t253 t254 true _ A23.out).mono ?_);rintro e w27 ⟨rfl,hb⟩;refine ⟨_,rfl,?_⟩;have n0_:=Ak (blk_below (g:=gb247) (o:=.cells #[.slice (some ad250) l0_0.length c0_0] 32 (0,0)) BK247.out hb);have n1_:=Ak (blk_below (g:=gb251) (o:=.cells #[.slice (some ad252) ((rd_T96 l0_0 x5_2).f0).length c250_0,.slice A250_1 ((rd_T96 l0_0 x5_2).f1).length c250_1] 96 (0,0)) BK251.out hb);have n2_:=Ak (below_step HB.out hb);clear BK247;clear BK251;clear HB;have BK247:=n0_;have BK251:=n1_;have HB:=n2_;clear n0_ n1_ n2_;(try clear hb)))
              go_roundg k3
              case measure=>have:=HK1.out;have:=HK2.out;have:=HK3.out;omega
              case rel=>exact ⟨(wrap64 (x7_3+1)),(by rfl),H',⟨by have:=HK1.out;have:=HK2.out;have:=HK3.out;omega⟩,⟨by exact BK247.out⟩,⟨by exact BK251.out⟩,⟨by with_reducible exact HB.out⟩⟩
             ·replace c24:=Bool.eq_false_iff.mpr c24
              subst c24
              have H1:(some 5)=some r:=by rw [if_neg (show ¬(false=true) by decide)] at H;exact H
              clear H
              have H:=H1
              clear H1
              obtain rfl:=Option.some.inj H
              have hnb28:=NB251_247.out
              have hnc28:=NB247_251.out
              have hcz29_0:wr.cell? ⟨gb251,0,none⟩=some (.slice A250_0 ((rd_T96 l0_0 x5_2).f0).length c250_0):=(blk_cell BK251.out 0).trans rfl
              have hcz29_1:wr.cell? ⟨gb251,1,none⟩=some (.slice A250_1 ((rd_T96 l0_0 x5_2).f1).length c250_1):=(blk_cell BK251.out 1).trans rfl
              have hfz29_0:=blk_frozen BK251.out 0
              have hfz29_1:=blk_frozen BK251.out 1
              have p252:0≤(x7_3:Int):=of_decide_eq_true (by (with_reducible assumption))
              have q252:x7_3 < (((rd_T96 l0_0 x5_2).f0).length:Int):=of_decide_eq_true (by (with_reducible assumption))
              obtain ⟨ad252,e252,hx252_0⟩:=Kd.at_string HR250_0.out x7_3 p252 q252
              cases e252
              replace hx252_0:=(HB.out.cell (World.block_lt_of_cell? w _ hx252_0)).trans hx252_0
              replace p252:=eq_true p252
              replace q252:=eq_true q252
              go_wp2_with (((with_reducible refine gate_callee (f:=93) rfl ?_);refine goesL_ (some 69) rfl rfl Tryz.func93 (by kernel_rfl) rfl #[.string (rdOf ByteArray.empty ((rd_T96 l0_0 x5_2).f0) x7_3)] rfl (by (try simp only [List.map_toArray,List.map_cons,List.map_nil]);rfl) ?_;(with_reducible refine (q03_PartsG.calls (rdOf ByteArray.empty ((rd_T96 l0_0 x5_2).f0) x7_3) t253 t254 false _ A23.out).mono ?_);rintro e w30 ⟨rfl,hb⟩;refine ⟨_,rfl,?_⟩;have n0_:=Ak (blk_below (g:=gb247) (o:=.cells #[.slice (some ad250) l0_0.length c0_0] 32 (0,0)) BK247.out hb);have n1_:=Ak (blk_below (g:=gb251) (o:=.cells #[.slice (some ad252) ((rd_T96 l0_0 x5_2).f0).length c250_0,.slice A250_1 ((rd_T96 l0_0 x5_2).f1).length c250_1] 96 (0,0)) BK251.out hb);have n2_:=Ak (below_step HB.out hb);clear BK247;clear BK251;clear HB;have BK247:=n0_;have BK251:=n1_;have HB:=n2_;clear n0_ n1_ n2_;(try clear hb)))
              go_ret
              exact ⟨by rfl,by with_reducible exact HB.out⟩
            ·rw [if_neg c22] at H
             exact absurd H (by simp)
           ·rw [if_neg c21] at H
            have c21b0:decide (x7_3 < (((rd_T96 l0_0 x5_2).f0).length:Int))=false:=decide_eq_false c21
            clear c21
            have H':=Ak H
            clear H
            have hnb31:=NB251_247.out
            have hnc31:=NB247_251.out
            have hcz32_0:wr.cell? ⟨gb251,0,none⟩=some (.slice A250_0 ((rd_T96 l0_0 x5_2).f0).length c250_0):=(blk_cell BK251.out 0).trans rfl
            have hcz32_1:wr.cell? ⟨gb251,1,none⟩=some (.slice A250_1 ((rd_T96 l0_0 x5_2).f1).length c250_1):=(blk_cell BK251.out 1).trans rfl
            have hfz32_0:=blk_frozen BK251.out 0
            have hfz32_1:=blk_frozen BK251.out 1
            go_wp2
            go_loopg [11] k3 (fun kq v11 w'=>∃ (x11_4:Int),v11 = .int .i64 x11_4∧Aside0 (q06_May.l3 kq x4_2 x5_2 x11_4 l0_0 ((rd_T96 l0_0 x5_2).f0) ((rd_T96 l0_0 x5_2).f1)=some r)∧Aside0 (kq≤k3)∧Aside0 (w'.heap[gb247]? = some (.cells #[(.slice (some ad250) l0_0.length c0_0)] 32 (0,0)))∧Aside0 (w'.heap[gb251]? = some (.cells #[(.slice A250_0 ((rd_T96 l0_0 x5_2).f0).length c250_0),(.slice A250_1 ((rd_T96 l0_0 x5_2).f1).length c250_1)] 96 (0,0)))∧Aside0 (Below w.heap.size w w'))
            case atStart=>exact ⟨(0),(by rfl),H',⟨Nat.le_refl _⟩,⟨by exact BK247.out⟩,⟨by exact BK251.out⟩,⟨by with_reducible exact HB.out⟩⟩
            case round=>
             clear H'
             try clear c21b0
             try clear hcz32_0
             try clear hcz32_1
             try clear hfz32_0
             try clear hfz32_1
             obtain ⟨x11_4,rfl,HA,HK4,BK247,BK251,HB⟩:=hrel
             cases gk with
             | zero=>exact absurd HA.out (by simp [q06_May.l3])
             | succ k4=>
              have H:=HA.out
              clear HA
              simp only [q06_May.l3] at H
              by_cases c33:x11_4 < (((rd_T96 l0_0 x5_2).f1).length:Int)
              ·rw [if_pos c33] at H
               have c33b0:decide (x11_4 < (((rd_T96 l0_0 x5_2).f1).length:Int))=true:=decide_eq_true c33
               clear c33
               by_cases c34:0≤x11_4
               ·rw [if_pos c34] at H
                have c34b0:decide (0≤x11_4)=true:=decide_eq_true c34
                clear c34
                replace H:=Option.bind_eq_some_iff.mp H
                obtain ⟨t257,A350,H⟩:=H
                replace H:(if t257=true then (q06_May.l3 k4 x4_2 x5_2 (wrap64 (x11_4+1)) l0_0 ((rd_T96 l0_0 x5_2).f0) ((rd_T96 l0_0 x5_2).f1)) else (some 5))=some r:=H
                have A35:=Ak A350
                clear A350
                by_cases c36:t257=true
                ·subst c36
                 have H1:(q06_May.l3 k4 x4_2 x5_2 (wrap64 (x11_4+1)) l0_0 ((rd_T96 l0_0 x5_2).f0) ((rd_T96 l0_0 x5_2).f1))=some r:=by rw [if_pos rfl] at H;exact H
                 clear H
                 have H:=H1
                 clear H1
                 have H':=Ak H
                 clear H
                 have hnb37:=NB251_247.out
                 have hnc37:=NB247_251.out
                 have hcz38_0:wr.cell? ⟨gb251,0,none⟩=some (.slice A250_0 ((rd_T96 l0_0 x5_2).f0).length c250_0):=(blk_cell BK251.out 0).trans rfl
                 have hcz38_1:wr.cell? ⟨gb251,1,none⟩=some (.slice A250_1 ((rd_T96 l0_0 x5_2).f1).length c250_1):=(blk_cell BK251.out 1).trans rfl
                 have hfz38_0:=blk_frozen BK251.out 0
                 have hfz38_1:=blk_frozen BK251.out 1
                 have p256:0≤(x11_4:Int):=of_decide_eq_true (by (with_reducible assumption))
                 have q256:x11_4 < (((rd_T96 l0_0 x5_2).f1).length:Int):=of_decide_eq_true (by (with_reducible assumption))
                 obtain ⟨ad256,e256,hx256_0⟩:=Kd.at_string HR250_1.out x11_4 p256 q256
                 cases e256
                 replace hx256_0:=(HB.out.cell (World.block_lt_of_cell? w _ hx256_0)).trans hx256_0
                 replace p256:=eq_true p256
                 replace q256:=eq_true q256
                 go_wp2_with (((with_reducible refine gate_callee (f:=90) rfl ?_);refine goesL_ (some 87) rfl rfl Tryz.func90 (by kernel_rfl) rfl #[.string (rdOf ByteArray.empty ((rd_T96 l0_0 x5_2).f1) x11_4)] rfl (by (try simp only [List.map_toArray,List.map_cons,List.map_nil]);rfl) ?_;(with_reducible refine (q03_MayG.calls (rdOf ByteArray.empty ((rd_T96 l0_0 x5_2).f1) x11_4) true _ A35.out).mono ?_);rintro e w39 ⟨rfl,hb⟩;refine ⟨_,rfl,?_⟩;have n0_:=Ak (blk_below (g:=gb247) (o:=.cells #[.slice (some ad250) l0_0.length c0_0] 32 (0,0)) BK247.out hb);have n1_:=Ak (blk_below (g:=gb251) (o:=.cells #[.slice A250_0 ((rd_T96 l0_0 x5_2).f0).length c250_0,.slice (some ad256) ((rd_T96 l0_0 x5_2).f1).length c250_1] 96 (0,0)) BK251.out hb);have n2_:=Ak (below_step HB.out hb);clear BK247;clear BK251;clear HB;have BK247:=n0_;have BK251:=n1_;have HB:=n2_;clear n0_ n1_ n2_;(try clear hb)))
                 go_roundg k4
                 case measure=>have:=HK1.out;have:=HK2.out;have:=HK3.out;have:=HK4.out;omega
                 case rel=>exact ⟨(wrap64 (x11_4+1)),(by rfl),H',⟨by have:=HK1.out;have:=HK2.out;have:=HK3.out;have:=HK4.out;omega⟩,⟨by exact BK247.out⟩,⟨by exact BK251.out⟩,⟨by with_reducible exact HB.out⟩⟩
                ·replace c36:=Bool.eq_false_iff.mpr c36
                 subst c36
                 have H1:(some 5)=some r:=by rw [if_neg (show ¬(false=true) by decide)] at H;exact H
                 clear H
                 have H:=H1
                 clear H1
                 obtain rfl:=Option.some.inj H
                 have hnb40:=NB251_247.out
                 have hnc40:=NB247_251.out
                 have hcz41_0:wr.cell? ⟨gb251,0,none⟩=some (.slice A250_0 ((rd_T96 l0_0 x5_2).f0).length c250_0):=(blk_cell BK251.out 0).trans rfl
                 have hcz41_1:wr.cell? ⟨gb251,1,none⟩=some (.slice A250_1 ((rd_T96 l0_0 x5_2).f1).length c250_1):=(blk_cell BK251.out 1).trans rfl
                 have hfz41_0:=blk_frozen BK251.out 0
                 have hfz41_1:=blk_frozen BK251.out 1
                 have p256:0≤(x11_4:Int):=of_decide_eq_true (by (with_reducible assumption))
                 have q256:x11_4 < (((rd_T96 l0_0 x5_2).f1).length:Int):=of_decide_eq_true (by (with_reducible assumption))
                 obtain ⟨ad256,e256,hx256_0⟩:=Kd.at_string HR250_1.out x11_4 p256 q256
                 cases e256
                 replace hx256_0:=(HB.out.cell (World.block_lt_of_cell? w _ hx256_0)).trans hx256_0
                 replace p256:=eq_true p256
                 replace q256:=eq_true q256
                 go_wp2_with (((with_reducible refine gate_callee (f:=90) rfl ?_);refine goesL_ (some 87) rfl rfl Tryz.func90 (by kernel_rfl) rfl #[.string (rdOf ByteArray.empty ((rd_T96 l0_0 x5_2).f1) x11_4)] rfl (by (try simp only [List.map_toArray,List.map_cons,List.map_nil]);rfl) ?_;(with_reducible refine (q03_MayG.calls (rdOf ByteArray.empty ((rd_T96 l0_0 x5_2).f1) x11_4) false _ A35.out).mono ?_);rintro e w42 ⟨rfl,hb⟩;refine ⟨_,rfl,?_⟩;have n0_:=Ak (blk_below (g:=gb247) (o:=.cells #[.slice (some ad250) l0_0.length c0_0] 32 (0,0)) BK247.out hb);have n1_:=Ak (blk_below (g:=gb251) (o:=.cells #[.slice A250_0 ((rd_T96 l0_0 x5_2).f0).length c250_0,.slice (some ad256) ((rd_T96 l0_0 x5_2).f1).length c250_1] 96 (0,0)) BK251.out hb);have n2_:=Ak (below_step HB.out hb);clear BK247;clear BK251;clear HB;have BK247:=n0_;have BK251:=n1_;have HB:=n2_;clear n0_ n1_ n2_;(try clear hb)))
                 go_ret
                 exact ⟨by rfl,by with_reducible exact HB.out⟩
               ·rw [if_neg c34] at H
                exact absurd H (by simp)
              ·rw [if_neg c33] at H
               have c33b0:decide (x11_4 < (((rd_T96 l0_0 x5_2).f1).length:Int))=false:=decide_eq_false c33
               clear c33
               replace H:=Option.bind_eq_some_iff.mp H
               obtain ⟨t258,A430,H⟩:=H
               replace H:((q04_RiseG.f ((rd_T96 l0_0 x5_2).f1)).bind fun t259=>(if x4_2=true then (if t258=true then (q06_May.l1 k4 t259 (wrap64 (x5_2+1)) l0_0) else (q06_May.l1 k4 false (wrap64 (x5_2+1)) l0_0)) else (q06_May.l1 k4 false (wrap64 (x5_2+1)) l0_0)))=some r:=H
               have A43:=Ak A430
               clear A430
               replace H:=Option.bind_eq_some_iff.mp H
               obtain ⟨t259,A440,H⟩:=H
               replace H:(if x4_2=true then (if t258=true then (q06_May.l1 k4 t259 (wrap64 (x5_2+1)) l0_0) else (q06_May.l1 k4 false (wrap64 (x5_2+1)) l0_0)) else (q06_May.l1 k4 false (wrap64 (x5_2+1)) l0_0))=some r:=H
               have A44:=Ak A440
               clear A440
               by_cases c45:x4_2=true
               ·subst c45
                have H1:(if t258=true then (q06_May.l1 k4 t259 (wrap64 (x5_2+1)) l0_0) else (q06_May.l1 k4 false (wrap64 (x5_2+1)) l0_0))=some r:=by rw [if_pos rfl] at H;exact H
                clear H
                have H:=H1
                clear H1
                by_cases c46:t258=true
                ·subst c46
                 have H1:(q06_May.l1 k4 t259 (wrap64 (x5_2+1)) l0_0)=some r:=by rw [if_pos rfl] at H;exact H
                 clear H
                 have H:=H1
                 clear H1
                 have H':=Ak H
                 clear H
                 have hnb47:=NB251_247.out
                 have hnc47:=NB247_251.out
                 have hcz48_0:wr.cell? ⟨gb251,0,none⟩=some (.slice A250_0 ((rd_T96 l0_0 x5_2).f0).length c250_0):=(blk_cell BK251.out 0).trans rfl
                 have hcz48_1:wr.cell? ⟨gb251,1,none⟩=some (.slice A250_1 ((rd_T96 l0_0 x5_2).f1).length c250_1):=(blk_cell BK251.out 1).trans rfl
                 have hfz48_0:=blk_frozen BK251.out 0
                 have hfz48_1:=blk_frozen BK251.out 1
                 go_wp2_with (first | ((with_reducible refine gate_callee (f:=92) rfl ?_);refine goesL_ (some 92) rfl rfl Tryz.func92 (by kernel_rfl) rfl #[.slice A250_0 ((rd_T96 l0_0 x5_2).f0).length c250_0] rfl (by (try simp only [List.map_toArray,List.map_cons,List.map_nil]);rfl) ?_;(with_reducible refine (q04_RiseG.calls _ _ ((rd_T96 l0_0 x5_2).f0) true _ ?side1 ?side2 A43.out).mono ?_);(case side1=>repeat (exact (Kd.C_below HR250_0.out HB.out)));(case side2=>exact HC250_0.out);rintro e w' ⟨rfl,⟨nd,rfl⟩⟩;refine ⟨_,rfl,?_⟩) | ((with_reducible refine gate_callee (f:=92) rfl ?_);refine goesL_ (some 95) rfl rfl Tryz.func92 (by kernel_rfl) rfl #[.slice A250_1 ((rd_T96 l0_0 x5_2).f1).length c250_1] rfl (by (try simp only [List.map_toArray,List.map_cons,List.map_nil]);rfl) ?_;(with_reducible refine (q04_RiseG.calls _ _ ((rd_T96 l0_0 x5_2).f1) t259 _ ?side1 ?side2 A44.out).mono ?_);(case side1=>repeat (exact (Kd.C_below HR250_1.out (by repeat (with_reducible first | exact HB.out | apply pw_below_drewN)))));(case side2=>exact HC250_1.out);rintro e w' ⟨rfl,⟨nd,rfl⟩⟩;refine ⟨_,rfl,?_⟩))
                 go_roundg k4
                 case measure=>have:=HK1.out;have:=HK2.out;have:=HK3.out;have:=HK4.out;omega
                 case rel=>exact ⟨(t259),(wrap64 (x5_2+1)),(by rfl),(by rfl),H',⟨by have:=HK1.out;have:=HK2.out;have:=HK3.out;have:=HK4.out;omega⟩,⟨by (with_reducible repeat (refine blk_drewN ?_ _));exact BK247.out⟩,⟨by repeat (with_reducible first | exact HB.out | apply pw_below_drewN)⟩⟩
                ·replace c46:=Bool.eq_false_iff.mpr c46
                 subst c46
                 have H1:(q06_May.l1 k4 false (wrap64 (x5_2+1)) l0_0)=some r:=by rw [if_neg (show ¬(false=true) by decide)] at H;exact H
                 clear H
                 have H:=H1
                 clear H1
                 have H':=Ak H
                 clear H
                 have hnb49:=NB251_247.out
                 have hnc49:=NB247_251.out
                 have hcz50_0:wr.cell? ⟨gb251,0,none⟩=some (.slice A250_0 ((rd_T96 l0_0 x5_2).f0).length c250_0):=(blk_cell BK251.out 0).trans rfl
                 have hcz50_1:wr.cell? ⟨gb251,1,none⟩=some (.slice A250_1 ((rd_T96 l0_0 x5_2).f1).length c250_1):=(blk_cell BK251.out 1).trans rfl
                 have hfz50_0:=blk_frozen BK251.out 0
                 have hfz50_1:=blk_frozen BK251.out 1
                 go_wp2_with (first | ((with_reducible refine gate_callee (f:=92) rfl ?_);refine goesL_ (some 92) rfl rfl Tryz.func92 (by kernel_rfl) rfl #[.slice A250_0 ((rd_T96 l0_0 x5_2).f0).length c250_0] rfl (by (try simp only [List.map_toArray,List.map_cons,List.map_nil]);rfl) ?_;(with_reducible refine (q04_RiseG.calls _ _ ((rd_T96 l0_0 x5_2).f0) false _ ?side1 ?side2 A43.out).mono ?_);(case side1=>repeat (exact (Kd.C_below HR250_0.out HB.out)));(case side2=>exact HC250_0.out);rintro e w' ⟨rfl,⟨nd,rfl⟩⟩;refine ⟨_,rfl,?_⟩) | ((with_reducible refine gate_callee (f:=92) rfl ?_);refine goesL_ (some 95) rfl rfl Tryz.func92 (by kernel_rfl) rfl #[.slice A250_1 ((rd_T96 l0_0 x5_2).f1).length c250_1] rfl (by (try simp only [List.map_toArray,List.map_cons,List.map_nil]);rfl) ?_;(with_reducible refine (q04_RiseG.calls _ _ ((rd_T96 l0_0 x5_2).f1) t259 _ ?side1 ?side2 A44.out).mono ?_);(case side1=>repeat (exact (Kd.C_below HR250_1.out (by repeat (with_reducible first | exact HB.out | apply pw_below_drewN)))));(case side2=>exact HC250_1.out);rintro e w' ⟨rfl,⟨nd,rfl⟩⟩;refine ⟨_,rfl,?_⟩))
                 go_roundg k4
                 case measure=>have:=HK1.out;have:=HK2.out;have:=HK3.out;have:=HK4.out;omega
                 case rel=>exact ⟨(false),(wrap64 (x5_2+1)),(by rfl),(by rfl),H',⟨by have:=HK1.out;have:=HK2.out;have:=HK3.out;have:=HK4.out;omega⟩,⟨by (with_reducible repeat (refine blk_drewN ?_ _));exact BK247.out⟩,⟨by repeat (with_reducible first | exact HB.out | apply pw_below_drewN)⟩⟩
               ·replace c45:=Bool.eq_false_iff.mpr c45
                subst c45
                have H1:(q06_May.l1 k4 false (wrap64 (x5_2+1)) l0_0)=some r:=by rw [if_neg (show ¬(false=true) by decide)] at H;exact H
                clear H
                have H:=H1
                clear H1
                have H':=Ak H
                clear H
                have hnb51:=NB251_247.out
                have hnc51:=NB247_251.out
                have hcz52_0:wr.cell? ⟨gb251,0,none⟩=some (.slice A250_0 ((rd_T96 l0_0 x5_2).f0).length c250_0):=(blk_cell BK251.out 0).trans rfl
                have hcz52_1:wr.cell? ⟨gb251,1,none⟩=some (.slice A250_1 ((rd_T96 l0_0 x5_2).f1).length c250_1):=(blk_cell BK251.out 1).trans rfl
                have hfz52_0:=blk_frozen BK251.out 0
                have hfz52_1:=blk_frozen BK251.out 1
                go_wp2_with (first | ((with_reducible refine gate_callee (f:=92) rfl ?_);refine goesL_ (some 92) rfl rfl Tryz.func92 (by kernel_rfl) rfl #[.slice A250_0 ((rd_T96 l0_0 x5_2).f0).length c250_0] rfl (by (try simp only [List.map_toArray,List.map_cons,List.map_nil]);rfl) ?_;(with_reducible refine (q04_RiseG.calls _ _ ((rd_T96 l0_0 x5_2).f0) t258 _ ?side1 ?side2 A43.out).mono ?_);(case side1=>repeat (exact (Kd.C_below HR250_0.out HB.out)));(case side2=>exact HC250_0.out);rintro e w' ⟨rfl,⟨nd,rfl⟩⟩;refine ⟨_,rfl,?_⟩) | ((with_reducible refine gate_callee (f:=92) rfl ?_);refine goesL_ (some 95) rfl rfl Tryz.func92 (by kernel_rfl) rfl #[.slice A250_1 ((rd_T96 l0_0 x5_2).f1).length c250_1] rfl (by (try simp only [List.map_toArray,List.map_cons,List.map_nil]);rfl) ?_;(with_reducible refine (q04_RiseG.calls _ _ ((rd_T96 l0_0 x5_2).f1) t259 _ ?side1 ?side2 A44.out).mono ?_);(case side1=>repeat (exact (Kd.C_below HR250_1.out (by repeat (with_reducible first | exact HB.out | apply pw_below_drewN)))));(case side2=>exact HC250_1.out);rintro e w' ⟨rfl,⟨nd,rfl⟩⟩;refine ⟨_,rfl,?_⟩))
                go_roundg k4
                case measure=>have:=HK1.out;have:=HK2.out;have:=HK3.out;have:=HK4.out;omega
                case rel=>exact ⟨(false),(wrap64 (x5_2+1)),(by rfl),(by rfl),H',⟨by have:=HK1.out;have:=HK2.out;have:=HK3.out;have:=HK4.out;omega⟩,⟨by (with_reducible repeat (refine blk_drewN ?_ _));exact BK247.out⟩,⟨by repeat (with_reducible first | exact HB.out | apply pw_below_drewN)⟩⟩
        ·rw [if_neg c16] at H
         exact absurd H (by simp)
       ·rw [if_neg c15] at H
        have c15b0:decide (x5_2 < (l0_0.length:Int))=false:=decide_eq_false c15
        clear c15
        by_cases c53:x4_2=true
        ·subst c53
         have H1:(some 0)=some r:=by rw [if_pos rfl] at H;exact H
         clear H
         have H:=H1
         clear H1
         obtain rfl:=Option.some.inj H
         have hcz54_0:wr.cell? ⟨gb247,0,none⟩=some (.slice A0_0 l0_0.length c0_0):=(blk_cell BK247.out 0).trans rfl
         have hfz54_0:=blk_frozen BK247.out 0
         go_wp2
         go_ret
         exact ⟨by rfl,by with_reducible exact HB.out⟩
        ·replace c53:=Bool.eq_false_iff.mpr c53
         subst c53
         have H1:(some 1)=some r:=by rw [if_neg (show ¬(false=true) by decide)] at H;exact H
         clear H
         have H:=H1
         clear H1
         obtain rfl:=Option.some.inj H
         have hcz55_0:wr.cell? ⟨gb247,0,none⟩=some (.slice A0_0 l0_0.length c0_0):=(blk_cell BK247.out 0).trans rfl
         have hfz55_0:=blk_frozen BK247.out 0
         go_wp2
         go_ret
         exact ⟨by rfl,by with_reducible exact HB.out⟩
end Go.Proofs.YtocpcnmnhckcpaaGreat.Prt
namespace Go.Proofs.YtocpcnmnhckcpaaGreat.Prt
open RowKit YtocpcnmnhckcpaaGreatW.PrintWords YtocpcnmnhckcpaaGreatW.PrintLast YtocpcnmnhckcpaaGreatW.PrintMore
attribute [local go_sem] max2_int min2_int max_two min_two max_three min_three max_four min_four
def q07_texts.l0:Nat→List ByteArray→List Int→Int→Option (List Int)
 | 0,_,_,_=>none
 | k+1,x1,x5,x6=>if x6 < (x1.length:Int) then (if 0≤x6 then ((q01_PutText.f x5 (rdOf ByteArray.empty x1 x6)).bind fun t264=>(q07_texts.l0 k x1 t264 (wrap64 (x6+1)))) else (none)) else (some x5)
def q07_texts.f (k:Nat) (l0:List Int) (l1:List ByteArray):Option (List Int):=(q01_Put.f l0 (l1.length:Int)).bind fun t260=>(q07_texts.l0 k l1 t260 0)
set_option maxHeartbeats 8000000 in
set_option maxRecDepth 100000 in
theorem q07_texts.calls (k:Nat) (A0:Option Addr) (c0:Nat) (l0:List Int) (A1:Option Addr) (c1:Nat) (l1:List ByteArray) (r:List Int) (w:World) (hr0:Kd.C (Kd.int .u8) w A0 l0.length l0) (hc0:l0.length≤c0) (hr1:Kd.C Kd.string w A1 l1.length l1) (hc1:l1.length≤c1) (h:q07_texts.f k l0 l1=some r) :
  Calls Tryz.prog 65 #[.slice A0 l0.length c0,.slice A1 l1.length c1] w fun e w'=>∃ v0_:Value,e = .returned (v0_)∧Kd.R (Kd.int .u8) 5 w' w.heap.size (fun _=>True) v0_ r∧Below w.heap.size w w':=by
 have HR0:=Ak hr0
 have HC0:=Ak hc0
 clear hr0 hc0
 have HR1:=Ak hr1
 have HC1:=Ak hc1
 clear hr1 hc1
 have HB:=Ak (Below.refl w.heap.size w)
 have H:((q01_Put.f l0 (l1.length:Int)).bind fun t260=>(q07_texts.l0 k l1 t260 0))=some r:=h
 clear h
 replace H:=Option.bind_eq_some_iff.mp H
 obtain ⟨t260,A30,H⟩:=H
 replace H:(q07_texts.l0 k l1 t260 0)=some r:=H
 have A3:=Ak A30
 clear A30
 have H':=Ak H
 clear H
 go_enter Tryz.func65,Tryz.ntmps65
 go_wp2_with (((with_reducible refine gate_callee (f:=36) rfl ?_);refine goesL_ (some 10) rfl rfl Tryz.func36 (by kernel_rfl) rfl #[.slice A0 l0.length c0,.int .i64 (l1.length:Int)] rfl (by (try simp only [List.map_toArray,List.map_cons,List.map_nil]);rfl) ?_;(with_reducible refine (q01_Put.calls _ _ l0 (l1.length:Int) t260 _ ?side1 ?side2 A3.out).mono ?_);(case side1=>exact HR0.out);(case side2=>exact HC0.out);rintro e w4 ⟨v261,rfl,ho0,hb⟩;refine ⟨_,rfl,?_⟩;have n0_:=Ak (Kd.R_lower ho0 (below_size HB.out));have n1_:=Ak (below_step HB.out hb);clear HB;have HO262:=n0_;have HB:=n1_;clear n0_ n1_;(try clear hb);(try clear ho0)))
 go_loopg [5,6] k (fun kq v5 v6 w'=>∃ (x5_1:List Int) (x6_1:Int),v6 = .int .i64 x6_1∧Aside0 (q07_texts.l0 kq l1 x5_1 x6_1=some r)∧Aside0 (kq≤k)∧Aside0 (Kd.R (Kd.int .u8) 5 w' w.heap.size (fun _=>True) v5 x5_1)∧Aside0 (Below w.heap.size w w'))
 case atStart=>exact ⟨(t260),(0),(by rfl),H',⟨Nat.le_refl _⟩,⟨by exact HO262.out⟩,⟨by with_reducible exact HB.out⟩⟩
 case round=>
  clear H'
  obtain ⟨x5_1,x6_1,rfl,HA,HK1,HO_5,HB⟩:=hrel
  cases gk with
  | zero=>exact absurd HA.out (by simp [q07_texts.l0])
  | succ k1=>
   have H:=HA.out
   clear HA
   simp only [q07_texts.l0] at H
   by_cases c5:x6_1 < (l1.length:Int)
   ·rw [if_pos c5] at H
    have c5b0:decide (x6_1 < (l1.length:Int))=true:=decide_eq_true c5
    clear c5
    by_cases c6:0≤x6_1
    ·rw [if_pos c6] at H
     have c6b0:decide (0≤x6_1)=true:=decide_eq_true c6
     clear c6
     replace H:=Option.bind_eq_some_iff.mp H
     obtain ⟨t264,A70,H⟩:=H
     replace H:(q07_texts.l0 k1 l1 t264 (wrap64 (x6_1+1)))=some r:=H
     have A7:=Ak A70
     clear A70
     have H':=Ak H
     clear H
     have p263:0≤(x6_1:Int):=of_decide_eq_true (by (with_reducible assumption))
     have q263:x6_1 < (l1.length:Int):=of_decide_eq_true (by (with_reducible assumption))
     obtain ⟨ad263,e263,hx263_0⟩:=Kd.at_string HR1.out x6_1 p263 q263
     cases e263
     replace hx263_0:=(HB.out.cell (World.block_lt_of_cell? w _ hx263_0)).trans hx263_0
     replace p263:=eq_true p263
     replace q263:=eq_true q263
     obtain ⟨Ao8,co8,eo8⟩:=Kd.R_slice HO_5.out
     subst eo8
     go_wp2_with (((with_reducible refine gate_callee (f:=37) rfl ?_);refine goesL_ (some 22) rfl rfl Tryz.func37 (by kernel_rfl) rfl #[.slice Ao8 x5_1.length co8,.string (rdOf ByteArray.empty l1 x6_1)] rfl (by (try simp only [List.map_toArray,List.map_cons,List.map_nil]);rfl) ?_;(with_reducible refine (q01_PutText.calls _ _ x5_1 (rdOf ByteArray.empty l1 x6_1) t264 _ ?side1 ?side2 A7.out).mono ?_);(case side1=>repeat (exact (Kd.R_reads' HO_5.out).2.2));(case side2=>exact (Kd.R_reads' HO_5.out).2.1);rintro e w9 ⟨v265,rfl,ho0,hb⟩;refine ⟨_,rfl,?_⟩;have n0_:=Ak (Kd.R_elder' HO_5.out (Kd.R_base ho0) hb);have n1_:=Ak (Kd.R_lower (Kd.R_new' ho0 (Kd.R_lt HO_5.out)) (below_size HB.out));have n2_:=Ak (below_step HB.out hb);clear HO_5;clear HB;have HO_5:=n0_;have HO266:=n1_;have HB:=n2_;clear n0_ n1_ n2_;(try clear hb);(try clear ho0)))
     go_roundg k1
     case measure=>have:=HK1.out;omega
     case rel=>exact ⟨(t264),(wrap64 (x6_1+1)),(by rfl),H',⟨by have:=HK1.out;omega⟩,⟨by exact Kd.R_mono HO266.out (fun _ hk=>trivial)⟩,⟨by with_reducible exact HB.out⟩⟩
    ·rw [if_neg c6] at H
     exact absurd H (by simp)
   ·rw [if_neg c5] at H
    have c5b0:decide (x6_1 < (l1.length:Int))=false:=decide_eq_false c5
    clear c5
    obtain rfl:=Option.some.inj H
    go_wp2
    go_ret
    exact ⟨_,by rfl,by exact HO_5.out,by with_reducible exact HB.out⟩
end Go.Proofs.YtocpcnmnhckcpaaGreat.Prt
namespace Go.Proofs.YtocpcnmnhckcpaaGreat.Prt
open RowKit YtocpcnmnhckcpaaGreatW.PrintWords YtocpcnmnhckcpaaGreatW.PrintLast YtocpcnmnhckcpaaGreatW.PrintMore YtocpcnmnhckcpaaGreat.Num YtocpcnmnhckcpaaGreat.Nam
theorem drop_rdC (l:List S96) (i:Nat) (h:i < l.length):l.drop i=rd_T96 l (i:Int) :: l.drop (i+1):=by
 rw [List.drop_eq_getElem_cons h]
 unfold rd_T96
 rw [Int.toNat_natCast,List.getD_eq_getElem?_getD,List.getElem?_eq_getElem h];rfl
theorem rdC_mem {l:List S96} {i:Nat} (h:i < l.length):rd_T96 l (i:Int) ∈ l:=getD_mem' h _
theorem may06_l3 (k j:Nat) (b:Bool) (l:List S96) (tags types:List ByteArray) (hj:j < 1000) (ht:tags.length≤1000) (hy:types.length≤1000) (hs:∀ s ∈ types,s.size≤9223372036854775807):∀ (n i:Nat),i+n=types.length→q06_May.l3 (k+n+1) b (j:Int) (i:Int) l tags types=if (types.drop i).any (fun s=>!mayL (bytesOf s))=true then some 5 else q06_May.l1 k (b && (riseB tags && riseB types)) ((j+1:Nat):Int) l:=by
 intro n
 induction n with
 | zero=>
  intro i hi
  have m1:q04_RiseG.f tags=some (riseB tags):=if_pos (by omega)
  have m2:q04_RiseG.f types=some (riseB types):=if_pos (by omega)
  rw [Nat.add_zero,q06_May.l3,if_neg (by omega),m1,m2,List.drop_eq_nil_of_le (by omega),List.any_nil,if_neg (by decide),succW j (by omega)]
  simp only [Option.bind_some]
  cases b <;> cases riseB tags <;> cases riseB types <;> rfl
 | succ n ih=>
  intro i hi
  have m1:q03_MayG.f (rdOf ByteArray.empty types (i:Int))=some (mayL (bytesOf (rdOf ByteArray.empty types (i:Int)))):=if_pos (hs _ (rdOf_mem (by omega)))
  rw [show k+(n+1)+1=(k+n+1)+1 by omega,q06_May.l3,if_pos (by omega),if_pos (by omega),m1,drop_rd types i (by omega),List.any_cons]
  simp only [Option.bind_some]
  cases mayL (bytesOf (rdOf ByteArray.empty types (i:Int))) with
  | true=>rw [if_pos rfl,succW i (by omega),ih (i+1) (by omega)];rfl
  | false=>rfl
theorem may06_l2 (k j:Nat) (b:Bool) (l:List S96) (tags types:List ByteArray) (ht:tags.length≤1000) (hs:∀ s ∈ tags,s.size≤9223372036854775807):∀ (n i:Nat),i+n=tags.length→q06_May.l2 (k+n+1) b (j:Int) (i:Int) l tags types=if (tags.drop i).any (fun s=>!tagB s)=true then some 5 else q06_May.l3 k b (j:Int) 0 l tags types:=by
 intro n
 induction n with
 | zero=>
  intro i hi
  rw [Nat.add_zero,q06_May.l2,if_neg (by omega),List.drop_eq_nil_of_le (by omega),List.any_nil,if_neg (by decide)]
 | succ n ih=>
  intro i hi
  have m1:q03_PartsG.f (rdOf ByteArray.empty tags (i:Int))=some (partsS (rdOf ByteArray.empty tags (i:Int))):=if_pos (hs _ (rdOf_mem (by omega)))
  rw [show k+(n+1)+1=(k+n+1)+1 by omega,q06_May.l2,if_pos (by omega),if_pos (by omega),m1,drop_rd tags i (by omega),List.any_cons]
  simp only [Option.bind_some]
  rw [partsS_tag]
  cases tagB (rdOf ByteArray.empty tags (i:Int)) with
  | true=>rw [if_pos rfl,succW i (by omega),ih (i+1) (by omega)];rfl
  | false=>rfl
theorem may06_l1 (l:List S96) (hl:l.length≤4) (hb:∀ x ∈ l,bigC x=false) (hf:∀ x ∈ l,fitC x=true):∀ (n j k:Nat) (b:Bool),j+n=l.length→11 * n+1≤k→q06_May.l1 k b (j:Int) l=some (if (l.drop j).any noneC=true then 5 else if (b && !(l.drop j).any downC)=true then 0 else 1):=by
 intro n
 induction n with
 | zero=>
  intro j k b hj hk
  obtain ⟨k,rfl⟩:∃ m,k=m+1:=⟨k - 1,by omega⟩
  rw [q06_May.l1,if_neg (by omega),List.drop_eq_nil_of_le (by omega)]
  simp only [List.any_nil]
  cases b <;> rfl
 | succ n ih=>
  intro j k b hj hk
  have hm:=rdC_mem (l:=l) (i:=j) (by omega)
  have h1:=hb _ hm
  have h2:=fitC_iff.1 (hf _ hm)
  rw [drop_rdC l j (by omega),List.any_cons,List.any_cons]
  obtain ⟨x,hx⟩:∃ x,x=rd_T96 l (j:Int):=⟨_,rfl⟩
  rw [←hx] at h1 h2 ⊢
  unfold bigC at h1
  rw [Bool.or_eq_false_iff,decide_eq_false_iff_not,decide_eq_false_iff_not] at h1
  obtain ⟨k,rfl⟩:∃ m,k=((m+x.f1.length+1)+x.f0.length+1)+1:=⟨k - x.f1.length - x.f0.length - 3,by omega⟩
  have e0:((0:Nat):Int)=0:=rfl
  rw [q06_May.l1,if_pos (by omega),if_pos (by omega),←hx,←e0,may06_l2 _ j b l x.f0 x.f1 (by omega) h2.1 x.f0.length 0 (by omega),List.drop_zero]
  have hnc:noneC x=((x.f0.any fun s=>!tagB s) || (x.f1.any fun s=>!mayL (bytesOf s))):=rfl
  rw [hnc]
  by_cases c1:(x.f0.any fun s=>!tagB s)=true
  ·rw [if_pos c1,c1];rfl
  ·rw [if_neg c1,←e0,may06_l3 k j b l x.f0 x.f1 (by omega) (by omega) (by omega) h2.2 x.f1.length 0 (by omega),List.drop_zero]
   rw [Bool.not_eq_true] at c1
   rw [c1,Bool.false_or]
   by_cases c2:(x.f1.any fun s=>!mayL (bytesOf s))=true
   ·rw [if_pos c2,c2];rfl
   ·rw [if_neg c2,ih (j+1) k _ (by omega) (by omega)]
    rw [Bool.not_eq_true] at c2
    rw [c2,Bool.false_or]
    have hd:downC x=(!riseB x.f0 || !riseB x.f1):=rfl
    rw [hd]
    generalize (l.drop (j+1)).any noneC=u
    generalize (l.drop (j+1)).any downC=v
    generalize riseB x.f0=p
    generalize riseB x.f1=q
    cases b <;> cases p <;> cases q <;> cases v <;> cases u <;> rfl
theorem may06_l0 (l:List S96) (hl:l.length≤4) (k:Nat):∀ (n i:Nat),i+n=l.length→q06_May.l0 (k+n+1) (i:Int) l=if (l.drop i).any bigC=true then some 3 else q06_May.l1 k true 0 l:=by
 intro n
 induction n with
 | zero=>
  intro i hi
  rw [Nat.add_zero,q06_May.l0,if_neg (by omega),List.drop_eq_nil_of_le (by omega),List.any_nil,if_neg (by decide)]
 | succ n ih=>
  intro i hi
  rw [show k+(n+1)+1=(k+n+1)+1 by omega,q06_May.l0,if_pos (by omega),if_pos (by omega),drop_rdC l i (by omega),List.any_cons]
  generalize rd_T96 l (i:Int)=x
  unfold bigC
  by_cases c1:(x.f0.length:Int) > 4
  ·rw [if_pos c1,decide_eq_true (show 4 < x.f0.length by omega)];rfl
  ·rw [if_neg c1,decide_eq_false (show ¬4 < x.f0.length by omega)]
   by_cases c2:(x.f1.length:Int) > 4
   ·rw [if_pos c2,decide_eq_true (show 4 < x.f1.length by omega)];rfl
   ·rw [if_neg c2,decide_eq_false (show ¬4 < x.f1.length by omega),succW i (by omega),ih (i+1) (by omega)];rfl
def q06_MayG.f (l0_0:List (S96)):Option (Int):=if l0_0.all fitC=true then some (mayQ l0_0) else none
theorem q06_MayG.val {l0_0:List (S96)} {r:Int} (h:q06_MayG.f l0_0=some r):∃ k,q06_May.f k l0_0=some r:=by
 unfold q06_MayG.f at h
 by_cases hc:l0_0.all fitC=true
 ·rw [if_pos hc] at h
  rw [←h]
  have hf:=List.all_eq_true.1 hc
  refine ⟨100+l0_0.length+1,?_⟩
  unfold q06_May.f mayQ
  by_cases c1:4 < l0_0.length
  ·rw [if_pos (by omega),if_pos (.inl c1)]
  ·have e0:((0:Nat):Int)=0:=rfl
   rw [if_neg (by omega),←e0,may06_l0 l0_0 (by omega) 100 l0_0.length 0 (by omega),List.drop_zero]
   by_cases c2:l0_0.any bigC=true
   ·rw [if_pos c2,if_pos (.inr c2)]
   ·rw [if_neg c2,if_neg (by rw [not_or];exact ⟨c1,c2⟩),←e0,may06_l1 l0_0 (by omega) (any_no c2) hf l0_0.length 0 100 true (by omega) (by omega),List.drop_zero]
    cases l0_0.any noneC <;> cases l0_0.any downC <;> rfl
 ·rw [if_neg hc] at h;cases h
theorem q06_MayG.calls (A0_0:Option Addr) (c0_0:Nat) (l0_0:List (S96)) (r:Int) (w:World) (hr0_0:Kd.C k96 w A0_0 l0_0.length l0_0) (hc0_0:l0_0.length≤c0_0) (h:q06_MayG.f l0_0=some r) :
  Calls Tryz.prog 62 #[.agg #[.slice A0_0 l0_0.length c0_0]] w fun e w'=>e = .returned (.int .i64 r)∧Below w.heap.size w w':=by
 obtain ⟨k,hk⟩:=q06_MayG.val h
 exact q06_May.calls k A0_0 c0_0 l0_0 r w hr0_0 hc0_0 hk
theorem encTs_drop (l:List ByteArray) (i:Nat) (h:i < l.length):encTs (l.drop i)=encT (bytesOf (rdOf ByteArray.empty l (i:Int)))++encTs (l.drop (i+1)):=by
 rw [drop_rd l i h];unfold encTs;rw [List.flatMap_cons]
theorem texts07_loop (l:List ByteArray) (hl:l.length≤1000000000000):∀ (n i k:Nat) (x:List Int),i+n=l.length→n < k→x.length+(encTs (l.drop i)).length≤1000000000000→q07_texts.l0 k l x (i:Int)=some (x++encTs (l.drop i)):=by
 intro n
 induction n with
 | zero=>
  intro i k x hi hk hx
  obtain ⟨k,rfl⟩:∃ m,k=m+1:=⟨k - 1,by omega⟩
  rw [q07_texts.l0,if_neg (by omega),List.drop_eq_nil_of_le (by omega)]
  simp [encTs]
 | succ n ih=>
  intro i k x hi hk hx
  obtain ⟨k,rfl⟩:∃ m,k=m+1:=⟨k - 1,by omega⟩
  have hd:=encTs_drop l i (by omega)
  rw [hd,List.length_append] at hx
  have hg:=encT_ge (rdOf ByteArray.empty l (i:Int))
  have m1:q01_PutText.f x (rdOf ByteArray.empty l (i:Int))=some (x++encT (bytesOf (rdOf ByteArray.empty l (i:Int)))):=if_pos (by omega)
  rw [q07_texts.l0,if_pos (by omega),if_pos (by omega),m1,hd]
  simp only [Option.bind_some]
  rw [succW i (by omega),ih (i+1) k _ (by omega) (by omega) (by rw [List.length_append];omega),List.append_assoc]
def q07_textsG.f (l0:List Int) (l1:List ByteArray):Option (List Int):=if l0.length+(encL l1).length≤1000000000000∧l1.length≤1000000000000 then some (l0++encL l1) else none
theorem q07_textsG.val {l0:List Int} {l1:List ByteArray} {r:List Int} (h:q07_textsG.f l0 l1=some r):∃ k,q07_texts.f k l0 l1=some r:=by
 unfold q07_textsG.f at h
 by_cases hc:l0.length+(encL l1).length≤1000000000000∧l1.length≤1000000000000
 ·rw [if_pos hc] at h
  rw [←h]
  refine ⟨l1.length+1,?_⟩
  have hc1:=hc.1
  unfold encL at hc1 ⊢
  rw [List.length_append] at hc1
  have m1:q01_Put.f l0 (l1.length:Int)=some (l0++enc (l1.length:Int)):=if_pos ⟨by omega,by omega,by omega⟩
  unfold q07_texts.f
  rw [m1]
  simp only [Option.bind_some]
  have:=texts07_loop l1 hc.2 l1.length 0 (l1.length+1) (l0++enc (l1.length:Int)) (by omega) (by omega) (by rw [List.drop_zero,List.length_append];omega)
  rw [List.drop_zero,List.append_assoc] at this
  exact this
 ·rw [if_neg hc] at h;cases h
theorem q07_textsG.calls (A0:Option Addr) (c0:Nat) (l0:List Int) (A1:Option Addr) (c1:Nat) (l1:List ByteArray) (r:List Int) (w:World) (hr0:Kd.C (Kd.int .u8) w A0 l0.length l0) (hc0:l0.length≤c0) (hr1:Kd.C Kd.string w A1 l1.length l1) (hc1:l1.length≤c1) (h:q07_textsG.f l0 l1=some r) :
  Calls Tryz.prog 65 #[.slice A0 l0.length c0,.slice A1 l1.length c1] w fun e w'=>∃ v0_:Value,e = .returned (v0_)∧Kd.R (Kd.int .u8) 5 w' w.heap.size (fun _=>True) v0_ r∧Below w.heap.size w w':=by
 obtain ⟨k,hk⟩:=q07_textsG.val h
 exact q07_texts.calls k A0 c0 l0 A1 c1 l1 r w hr0 hc0 hr1 hc1 hk
end Go.Proofs.YtocpcnmnhckcpaaGreat.Prt
namespace Go.Proofs.YtocpcnmnhckcpaaGreat.Prt
open RowKit YtocpcnmnhckcpaaGreatW.PrintWords YtocpcnmnhckcpaaGreatW.PrintLast YtocpcnmnhckcpaaGreatW.PrintMore
attribute [local go_sem] max2_int min2_int max_two min_two max_three min_three max_four min_four
def q06_Same.l0:Nat→Int→List (S96)→List (S96)→Option (Bool)
 | 0,_,_,_=>none
 | k+1,x5,x340000,x341000=>if x5 < (x340000.length:Int) then (if 0≤x5 then (if x5 < (x341000.length:Int) then ((q04_TextsG.f ((rd_T96 x340000 x5).f0) ((rd_T96 x341000 x5).f0)).bind fun t343=>((q04_TextsG.f ((rd_T96 x340000 x5).f1) ((rd_T96 x341000 x5).f1)).bind fun t346=>(if t343=true then (if t346=true then (q06_Same.l0 k (wrap64 (x5+1)) x340000 x341000) else (some false)) else (some false)))) else (none)) else (none)) else (some true)
def q06_Same.f (k:Nat) (l0_0:List (S96)) (l1_0:List (S96)):Option (Bool):=if (l0_0.length:Int)=(l1_0.length:Int) then (q06_Same.l0 k 0 l0_0 l1_0) else (some false)
set_option maxHeartbeats 8000000 in
set_option maxRecDepth 100000 in
theorem q06_Same.calls (k:Nat) (A0_0:Option Addr) (c0_0:Nat) (l0_0:List (S96)) (A1_0:Option Addr) (c1_0:Nat) (l1_0:List (S96)) (r:Bool) (w:World) (hr0_0:Kd.C k96 w A0_0 l0_0.length l0_0) (hc0_0:l0_0.length≤c0_0) (hr1_0:Kd.C k96 w A1_0 l1_0.length l1_0) (hc1_0:l1_0.length≤c1_0) (h:q06_Same.f k l0_0 l1_0=some r) :
  Calls Tryz.prog 28 #[.agg #[.slice A0_0 l0_0.length c0_0],.agg #[.slice A1_0 l1_0.length c1_0]] w fun e w'=>e = .returned (.bool r)∧Below w.heap.size w w':=by
 have hu32:=Tryz.underlying32
 have HR0_0:=Ak hr0_0
 have HC0_0:=Ak hc0_0
 clear hr0_0 hc0_0
 have HR1_0:=Ak hr1_0
 have HC1_0:=Ak hc1_0
 clear hr1_0 hc1_0
 have HB:=Ak (Below.refl w.heap.size w)
 have H:(if (l0_0.length:Int)=(l1_0.length:Int) then (q06_Same.l0 k 0 l0_0 l1_0) else (some false))=some r:=h
 clear h
 by_cases c3:(l0_0.length:Int)=(l1_0.length:Int)
 ·rw [if_pos c3] at H
  have c3b0:((l0_0.length:Int) == (l1_0.length:Int))=true:=beq_iff_eq.mpr c3
  have c3b1:((l0_0.length:Int) != (l1_0.length:Int))=false:=bne_eq_false_iff_eq.mpr c3
  have c3b2:(l0_0.length == l1_0.length)=true:=by (simp at c3 ⊢;omega)
  clear c3
  have H':=Ak H
  clear H
  go_enter Tryz.func28,Tryz.ntmps28
  go_wp2_with (first | ((with_reducible refine gate_dst (N:=2) rfl ?_);refine box_event ?hg (N:=2) ?hd (cs:=#[.slice A0_0 l0_0.length c0_0]) (t:=32) ?hr ?_;(case hd=>rfl);(case hg=>rfl);(case hr=>(go_simp;done));intro gb339 hg w4 hbox hb;have n0_:=Ak (below_step HB.out hb);have n1_:=Ak (hbox);have n2_:=Ak ((by rw [hg];exact (below_size HB.out):w.heap.size≤gb339));have n3_:=Ak ((by rw [hg];exact (below_size HB.out):w.heap.size≤gb339));clear HB;have HB:=n0_;have BK339:=n1_;have GW339:=n2_;have GE339:=n3_;clear n0_ n1_ n2_ n3_;clear hb hbox hg) | ((with_reducible refine gate_dst (N:=3) rfl ?_);refine box_event ?hg (N:=3) ?hd (cs:=#[.slice A1_0 l1_0.length c1_0]) (t:=32) ?hr ?_;(case hd=>rfl);(case hg=>rfl);(case hr=>(go_simp;done));intro gb340 hg w5 hbox hb;have n0_:=Ak (blk_below (g:=gb339) (o:=.cells #[.slice A0_0 l0_0.length c0_0] 32 (0,0)) BK339.out hb);have n1_:=Ak (below_step HB.out hb);have n2_:=Ak (hbox);have n3_:=Ak ((by rw [hg];exact (below_size HB.out):w.heap.size≤gb340));have n4_:=Ak ((by rw [hg];exact (below_size HB.out):w.heap.size≤gb340));have n5_:=Ak ((by rw [hg];exact Nat.ne_of_lt (blk_lt (g:=gb339) (o:=.cells #[.slice A0_0 l0_0.length c0_0] 32 (0,0)) BK339.out):gb339≠gb340));have n6_:=Ak ((by rw [hg];exact Nat.ne_of_gt (blk_lt (g:=gb339) (o:=.cells #[.slice A0_0 l0_0.length c0_0] 32 (0,0)) BK339.out):gb340≠gb339));clear BK339;clear HB;have BK339:=n0_;have HB:=n1_;have BK340:=n2_;have GW340:=n3_;have GE340:=n4_;have NB339_340:=n5_;have NB340_339:=n6_;clear n0_ n1_ n2_ n3_ n4_ n5_ n6_;clear hb hbox hg;have hnb6:=NB339_340.out;have hnc6:=NB340_339.out;have hcz7_0:w5.cell? ⟨gb339,0,none⟩=some (.slice A0_0 l0_0.length c0_0):=(blk_cell BK339.out 0).trans rfl;have hfz7_0:=blk_frozen BK339.out 0;have hcz8_0:w5.cell? ⟨gb340,0,none⟩=some (.slice A1_0 l1_0.length c1_0):=(blk_cell BK340.out 0).trans rfl;have hfz8_0:=blk_frozen BK340.out 0))
  repeat (go_quiet (fail))
  go_loopg [5] k (fun kq v5 w'=>∃ (x5_1:Int),v5 = .int .i64 x5_1∧Aside0 (q06_Same.l0 kq x5_1 l0_0 l1_0=some r)∧Aside0 (kq≤k)∧Aside0 (w'.heap[gb339]? = some (.cells #[(.slice A0_0 l0_0.length c0_0)] 32 (0,0)))∧Aside0 (w'.heap[gb340]? = some (.cells #[(.slice A1_0 l1_0.length c1_0)] 32 (0,0)))∧Aside0 (Below w.heap.size w w'))
  case atStart=>exact ⟨(0),(by rfl),H',⟨Nat.le_refl _⟩,⟨by exact BK339.out⟩,⟨by exact BK340.out⟩,⟨by with_reducible exact HB.out⟩⟩
  case round=>
   clear H'
   try clear c3b0
   try clear c3b1
   try clear c3b2
   try clear hcz7_0
   try clear hcz8_0
   try clear hfz7_0
   try clear hfz8_0
   obtain ⟨x5_1,rfl,HA,HK1,BK339,BK340,HB⟩:=hrel
   cases gk with
   | zero=>exact absurd HA.out (by simp [q06_Same.l0])
   | succ k1=>
    have H:=HA.out
    clear HA
    simp only [q06_Same.l0] at H
    by_cases c9:x5_1 < (l0_0.length:Int)
    ·rw [if_pos c9] at H
     have c9b0:decide (x5_1 < (l0_0.length:Int))=true:=decide_eq_true c9
     clear c9
     by_cases c10:0≤x5_1
     ·rw [if_pos c10] at H
      have c10b0:decide (0≤x5_1)=true:=decide_eq_true c10
      clear c10
      by_cases c11:x5_1 < (l1_0.length:Int)
      ·rw [if_pos c11] at H
       have c11b0:decide (x5_1 < (l1_0.length:Int))=true:=decide_eq_true c11
       clear c11
       replace H:=Option.bind_eq_some_iff.mp H
       obtain ⟨t343,A120,H⟩:=H
       replace H:((q04_TextsG.f ((rd_T96 l0_0 x5_1).f1) ((rd_T96 l1_0 x5_1).f1)).bind fun t346=>(if t343=true then (if t346=true then (q06_Same.l0 k1 (wrap64 (x5_1+1)) l0_0 l1_0) else (some false)) else (some false)))=some r:=H
       have A12:=Ak A120
       clear A120
       replace H:=Option.bind_eq_some_iff.mp H
       obtain ⟨t346,A130,H⟩:=H
       replace H:(if t343=true then (if t346=true then (q06_Same.l0 k1 (wrap64 (x5_1+1)) l0_0 l1_0) else (some false)) else (some false))=some r:=H
       have A13:=Ak A130
       clear A130
       by_cases c14:t343=true
       ·subst c14
        have H1:(if t346=true then (q06_Same.l0 k1 (wrap64 (x5_1+1)) l0_0 l1_0) else (some false))=some r:=by rw [if_pos rfl] at H;exact H
        clear H
        have H:=H1
        clear H1
        by_cases c15:t346=true
        ·subst c15
         have H1:(q06_Same.l0 k1 (wrap64 (x5_1+1)) l0_0 l1_0)=some r:=by rw [if_pos rfl] at H;exact H
         clear H
         have H:=H1
         clear H1
         have H':=Ak H
         clear H
         have hnb16:=NB339_340.out
         have hnc16:=NB340_339.out
         have hcz17_0:wr.cell? ⟨gb339,0,none⟩=some (.slice A0_0 l0_0.length c0_0):=(blk_cell BK339.out 0).trans rfl
         have hfz17_0:=blk_frozen BK339.out 0
         have p341:0≤(x5_1:Int):=of_decide_eq_true (by (with_reducible assumption))
         have q341:x5_1 < (l0_0.length:Int):=of_decide_eq_true (by (with_reducible assumption))
         obtain ⟨ad341,A341_0,c341_0,A341_1,c341_1,e341,hx341_0,hx341_1,hl341_0,hi341_0,hl341_1,hi341_1⟩:=at_T96 HR0_0.out x5_1 p341 q341
         cases e341
         replace hx341_0:=(HB.out.cell (World.block_lt_of_cell? w _ hx341_0)).trans hx341_0
         replace hx341_1:=(HB.out.cell (World.block_lt_of_cell? w _ hx341_1)).trans hx341_1
         have HR341_0:=Ak hi341_0
         have HC341_0:=Ak hl341_0
         clear hi341_0 hl341_0
         have HR341_1:=Ak hi341_1
         have HC341_1:=Ak hl341_1
         clear hi341_1 hl341_1
         replace p341:=eq_true p341
         replace q341:=eq_true q341
         have hcz18_0:wr.cell? ⟨gb340,0,none⟩=some (.slice A1_0 l1_0.length c1_0):=(blk_cell BK340.out 0).trans rfl
         have hfz18_0:=blk_frozen BK340.out 0
         have p342:0≤(x5_1:Int):=of_decide_eq_true (by (with_reducible assumption))
         have q342:x5_1 < (l1_0.length:Int):=of_decide_eq_true (by (with_reducible assumption))
         obtain ⟨ad342,A342_0,c342_0,A342_1,c342_1,e342,hx342_0,hx342_1,hl342_0,hi342_0,hl342_1,hi342_1⟩:=at_T96 HR1_0.out x5_1 p342 q342
         cases e342
         replace hx342_0:=(HB.out.cell (World.block_lt_of_cell? w _ hx342_0)).trans hx342_0
         replace hx342_1:=(HB.out.cell (World.block_lt_of_cell? w _ hx342_1)).trans hx342_1
         have HR342_0:=Ak hi342_0
         have HC342_0:=Ak hl342_0
         clear hi342_0 hl342_0
         have HR342_1:=Ak hi342_1
         have HC342_1:=Ak hl342_1
         clear hi342_1 hl342_1
         replace p342:=eq_true p342
         replace q342:=eq_true q342
         go_wp2_with (fail)
         repeat (go_quiet (first | (go_at_call 63;(with_reducible refine (q04_TextsG.calls _ _ ((rd_T96 l0_0 x5_1).f0) _ _ ((rd_T96 l1_0 x5_1).f0) true _ ?side1 ?side2 ?side3 ?side4 A12.out).mono ?_);(case side1=>repeat (first | exact (Kd.C_below HR341_0.out HB.out) | (with_reducible refine Kd.C_drewN ?_ _)));(case side2=>exact HC341_0.out);(case side3=>repeat (first | exact (Kd.C_below HR342_0.out HB.out) | (with_reducible refine Kd.C_drewN ?_ _)));(case side4=>exact HC342_0.out);rintro e w' ⟨rfl,⟨nd,rfl⟩⟩;(try exact ⟨rfl,_,World.drewN_drewN _ _ _⟩);have p344:0≤(x5_1:Int):=of_decide_eq_true (by (with_reducible assumption));have q344:x5_1 < (l0_0.length:Int):=of_decide_eq_true (by (with_reducible assumption));obtain ⟨ad344,A344_0,c344_0,A344_1,c344_1,e344,hx344_0,hx344_1,hl344_0,hi344_0,hl344_1,hi344_1⟩:=at_T96 HR0_0.out x5_1 p344 q344;obtain rfl:ad341=ad344:=(by injection e344);replace hx344_0:=(HB.out.cell (World.block_lt_of_cell? w _ hx344_0)).trans hx344_0;replace hx344_1:=(HB.out.cell (World.block_lt_of_cell? w _ hx344_1)).trans hx344_1;have HR344_0:=Ak hi344_0;have HC344_0:=Ak hl344_0;clear hi344_0 hl344_0;have HR344_1:=Ak hi344_1;have HC344_1:=Ak hl344_1;clear hi344_1 hl344_1;replace p344:=eq_true p344;replace q344:=eq_true q344;have ea_:=Option.some.inj (hx341_0.symm.trans hx344_0);injection ea_ with ea_ en_ ec_;subst ea_;subst ec_;clear en_;have ea_:=Option.some.inj (hx341_1.symm.trans hx344_1);injection ea_ with ea_ en_ ec_;subst ea_;subst ec_;clear en_;have p345:0≤(x5_1:Int):=of_decide_eq_true (by (with_reducible assumption));have q345:x5_1 < (l1_0.length:Int):=of_decide_eq_true (by (with_reducible assumption));obtain ⟨ad345,A345_0,c345_0,A345_1,c345_1,e345,hx345_0,hx345_1,hl345_0,hi345_0,hl345_1,hi345_1⟩:=at_T96 HR1_0.out x5_1 p345 q345;obtain rfl:ad342=ad345:=(by injection e345);replace hx345_0:=(HB.out.cell (World.block_lt_of_cell? w _ hx345_0)).trans hx345_0;replace hx345_1:=(HB.out.cell (World.block_lt_of_cell? w _ hx345_1)).trans hx345_1;have HR345_0:=Ak hi345_0;have HC345_0:=Ak hl345_0;clear hi345_0 hl345_0;have HR345_1:=Ak hi345_1;have HC345_1:=Ak hl345_1;clear hi345_1 hl345_1;replace p345:=eq_true p345;replace q345:=eq_true q345;have ea_:=Option.some.inj (hx342_0.symm.trans hx345_0);injection ea_ with ea_ en_ ec_;subst ea_;subst ec_;clear en_;have ea_:=Option.some.inj (hx342_1.symm.trans hx345_1);injection ea_ with ea_ en_ ec_;subst ea_;subst ec_;clear en_) | (go_at_call 63;(with_reducible refine (q04_TextsG.calls _ _ ((rd_T96 l0_0 x5_1).f1) _ _ ((rd_T96 l1_0 x5_1).f1) true _ ?side1 ?side2 ?side3 ?side4 A13.out).mono ?_);(case side1=>repeat (exact (Kd.C_below HR344_1.out (by repeat (with_reducible first | exact HB.out | apply pw_below_drewN)))));(case side2=>exact HC344_1.out);(case side3=>repeat (exact (Kd.C_below HR345_1.out (by repeat (with_reducible first | exact HB.out | apply pw_below_drewN)))));(case side4=>exact HC345_1.out);rintro e w' ⟨rfl,⟨nd,rfl⟩⟩;(try exact ⟨rfl,_,Eq.trans (World.drewN_drewN _ _ _) (congrArg (World.drewN _) (Nat.add_assoc _ _ _))⟩)));try go_wp2_with (fail))
         go_roundg k1
         case measure=>have:=HK1.out;omega
         case rel=>exact ⟨(wrap64 (x5_1+1)),(by rfl),H',⟨by have:=HK1.out;omega⟩,⟨by (with_reducible repeat (refine blk_drewN ?_ _));exact BK339.out⟩,⟨by (with_reducible repeat (refine blk_drewN ?_ _));exact BK340.out⟩,⟨by repeat (with_reducible first | exact HB.out | apply pw_below_drewN)⟩⟩
        ·replace c15:=Bool.eq_false_iff.mpr c15
         subst c15
         have H1:(some false)=some r:=by rw [if_neg (show ¬(false=true) by decide)] at H;exact H
         clear H
         have H:=H1
         clear H1
         obtain rfl:=Option.some.inj H
         have hnb19:=NB339_340.out
         have hnc19:=NB340_339.out
         have hcz20_0:wr.cell? ⟨gb339,0,none⟩=some (.slice A0_0 l0_0.length c0_0):=(blk_cell BK339.out 0).trans rfl
         have hfz20_0:=blk_frozen BK339.out 0
         have p341:0≤(x5_1:Int):=of_decide_eq_true (by (with_reducible assumption))
         have q341:x5_1 < (l0_0.length:Int):=of_decide_eq_true (by (with_reducible assumption))
         obtain ⟨ad341,A341_0,c341_0,A341_1,c341_1,e341,hx341_0,hx341_1,hl341_0,hi341_0,hl341_1,hi341_1⟩:=at_T96 HR0_0.out x5_1 p341 q341
         cases e341
         replace hx341_0:=(HB.out.cell (World.block_lt_of_cell? w _ hx341_0)).trans hx341_0
         replace hx341_1:=(HB.out.cell (World.block_lt_of_cell? w _ hx341_1)).trans hx341_1
         have HR341_0:=Ak hi341_0
         have HC341_0:=Ak hl341_0
         clear hi341_0 hl341_0
         have HR341_1:=Ak hi341_1
         have HC341_1:=Ak hl341_1
         clear hi341_1 hl341_1
         replace p341:=eq_true p341
         replace q341:=eq_true q341
         have hcz21_0:wr.cell? ⟨gb340,0,none⟩=some (.slice A1_0 l1_0.length c1_0):=(blk_cell BK340.out 0).trans rfl
         have hfz21_0:=blk_frozen BK340.out 0
         have p342:0≤(x5_1:Int):=of_decide_eq_true (by (with_reducible assumption))
         have q342:x5_1 < (l1_0.length:Int):=of_decide_eq_true (by (with_reducible assumption))
         obtain ⟨ad342,A342_0,c342_0,A342_1,c342_1,e342,hx342_0,hx342_1,hl342_0,hi342_0,hl342_1,hi342_1⟩:=at_T96 HR1_0.out x5_1 p342 q342
         cases e342
         replace hx342_0:=(HB.out.cell (World.block_lt_of_cell? w _ hx342_0)).trans hx342_0
         replace hx342_1:=(HB.out.cell (World.block_lt_of_cell? w _ hx342_1)).trans hx342_1
         have HR342_0:=Ak hi342_0
         have HC342_0:=Ak hl342_0
         clear hi342_0 hl342_0
         have HR342_1:=Ak hi342_1
         have HC342_1:=Ak hl342_1
         clear hi342_1 hl342_1
         replace p342:=eq_true p342
         replace q342:=eq_true q342
         go_wp2_with (fail)
         repeat (go_quiet (first | (go_at_call 63;(with_reducible refine (q04_TextsG.calls _ _ ((rd_T96 l0_0 x5_1).f0) _ _ ((rd_T96 l1_0 x5_1).f0) true _ ?side1 ?side2 ?side3 ?side4 A12.out).mono ?_);(case side1=>repeat (first | exact (Kd.C_below HR341_0.out HB.out) | (with_reducible refine Kd.C_drewN ?_ _)));(case side2=>exact HC341_0.out);(case side3=>repeat (first | exact (Kd.C_below HR342_0.out HB.out) | (with_reducible refine Kd.C_drewN ?_ _)));(case side4=>exact HC342_0.out);rintro e w' ⟨rfl,⟨nd,rfl⟩⟩;(try exact ⟨rfl,_,World.drewN_drewN _ _ _⟩);have p344:0≤(x5_1:Int):=of_decide_eq_true (by (with_reducible assumption));have q344:x5_1 < (l0_0.length:Int):=of_decide_eq_true (by (with_reducible assumption));obtain ⟨ad344,A344_0,c344_0,A344_1,c344_1,e344,hx344_0,hx344_1,hl344_0,hi344_0,hl344_1,hi344_1⟩:=at_T96 HR0_0.out x5_1 p344 q344;obtain rfl:ad341=ad344:=(by injection e344);replace hx344_0:=(HB.out.cell (World.block_lt_of_cell? w _ hx344_0)).trans hx344_0;replace hx344_1:=(HB.out.cell (World.block_lt_of_cell? w _ hx344_1)).trans hx344_1;have HR344_0:=Ak hi344_0;have HC344_0:=Ak hl344_0;clear hi344_0 hl344_0;have HR344_1:=Ak hi344_1;have HC344_1:=Ak hl344_1;clear hi344_1 hl344_1;replace p344:=eq_true p344;replace q344:=eq_true q344;have ea_:=Option.some.inj (hx341_0.symm.trans hx344_0);injection ea_ with ea_ en_ ec_;subst ea_;subst ec_;clear en_;have ea_:=Option.some.inj (hx341_1.symm.trans hx344_1);injection ea_ with ea_ en_ ec_;subst ea_;subst ec_;clear en_;have p345:0≤(x5_1:Int):=of_decide_eq_true (by (with_reducible assumption));have q345:x5_1 < (l1_0.length:Int):=of_decide_eq_true (by (with_reducible assumption));obtain ⟨ad345,A345_0,c345_0,A345_1,c345_1,e345,hx345_0,hx345_1,hl345_0,hi345_0,hl345_1,hi345_1⟩:=at_T96 HR1_0.out x5_1 p345 q345;obtain rfl:ad342=ad345:=(by injection e345);replace hx345_0:=(HB.out.cell (World.block_lt_of_cell? w _ hx345_0)).trans hx345_0;replace hx345_1:=(HB.out.cell (World.block_lt_of_cell? w _ hx345_1)).trans hx345_1;have HR345_0:=Ak hi345_0;have HC345_0:=Ak hl345_0;clear hi345_0 hl345_0;have HR345_1:=Ak hi345_1;have HC345_1:=Ak hl345_1;clear hi345_1 hl345_1;replace p345:=eq_true p345;replace q345:=eq_true q345;have ea_:=Option.some.inj (hx342_0.symm.trans hx345_0);injection ea_ with ea_ en_ ec_;subst ea_;subst ec_;clear en_;have ea_:=Option.some.inj (hx342_1.symm.trans hx345_1);injection ea_ with ea_ en_ ec_;subst ea_;subst ec_;clear en_) | (go_at_call 63;(with_reducible refine (q04_TextsG.calls _ _ ((rd_T96 l0_0 x5_1).f1) _ _ ((rd_T96 l1_0 x5_1).f1) false _ ?side1 ?side2 ?side3 ?side4 A13.out).mono ?_);(case side1=>repeat (exact (Kd.C_below HR344_1.out (by repeat (with_reducible first | exact HB.out | apply pw_below_drewN)))));(case side2=>exact HC344_1.out);(case side3=>repeat (exact (Kd.C_below HR345_1.out (by repeat (with_reducible first | exact HB.out | apply pw_below_drewN)))));(case side4=>exact HC345_1.out);rintro e w' ⟨rfl,⟨nd,rfl⟩⟩;(try exact ⟨rfl,_,Eq.trans (World.drewN_drewN _ _ _) (congrArg (World.drewN _) (Nat.add_assoc _ _ _))⟩)));try go_wp2_with (fail))
         go_ret
         exact ⟨by rfl,by repeat (with_reducible first | exact HB.out | apply pw_below_drewN)⟩
       ·replace c14:=Bool.eq_false_iff.mpr c14
        subst c14
        have H1:(some false)=some r:=by rw [if_neg (show ¬(false=true) by decide)] at H;exact H
        clear H
        have H:=H1
        clear H1
        obtain rfl:=Option.some.inj H
        have hnb22:=NB339_340.out
        have hnc22:=NB340_339.out
        have hcz23_0:wr.cell? ⟨gb339,0,none⟩=some (.slice A0_0 l0_0.length c0_0):=(blk_cell BK339.out 0).trans rfl
        have hfz23_0:=blk_frozen BK339.out 0
        have p341:0≤(x5_1:Int):=of_decide_eq_true (by (with_reducible assumption))
        have q341:x5_1 < (l0_0.length:Int):=of_decide_eq_true (by (with_reducible assumption))
        obtain ⟨ad341,A341_0,c341_0,A341_1,c341_1,e341,hx341_0,hx341_1,hl341_0,hi341_0,hl341_1,hi341_1⟩:=at_T96 HR0_0.out x5_1 p341 q341
        cases e341
        replace hx341_0:=(HB.out.cell (World.block_lt_of_cell? w _ hx341_0)).trans hx341_0
        replace hx341_1:=(HB.out.cell (World.block_lt_of_cell? w _ hx341_1)).trans hx341_1
        have HR341_0:=Ak hi341_0
        have HC341_0:=Ak hl341_0
        clear hi341_0 hl341_0
        have HR341_1:=Ak hi341_1
        have HC341_1:=Ak hl341_1
        clear hi341_1 hl341_1
        replace p341:=eq_true p341
        replace q341:=eq_true q341
        have hcz24_0:wr.cell? ⟨gb340,0,none⟩=some (.slice A1_0 l1_0.length c1_0):=(blk_cell BK340.out 0).trans rfl
        have hfz24_0:=blk_frozen BK340.out 0
        have p342:0≤(x5_1:Int):=of_decide_eq_true (by (with_reducible assumption))
        have q342:x5_1 < (l1_0.length:Int):=of_decide_eq_true (by (with_reducible assumption))
        obtain ⟨ad342,A342_0,c342_0,A342_1,c342_1,e342,hx342_0,hx342_1,hl342_0,hi342_0,hl342_1,hi342_1⟩:=at_T96 HR1_0.out x5_1 p342 q342
        cases e342
        replace hx342_0:=(HB.out.cell (World.block_lt_of_cell? w _ hx342_0)).trans hx342_0
        replace hx342_1:=(HB.out.cell (World.block_lt_of_cell? w _ hx342_1)).trans hx342_1
        have HR342_0:=Ak hi342_0
        have HC342_0:=Ak hl342_0
        clear hi342_0 hl342_0
        have HR342_1:=Ak hi342_1
        have HC342_1:=Ak hl342_1
        clear hi342_1 hl342_1
        replace p342:=eq_true p342
        replace q342:=eq_true q342
        go_wp2_with (fail)
        repeat (go_quiet (first | (go_at_call 63;(with_reducible refine (q04_TextsG.calls _ _ ((rd_T96 l0_0 x5_1).f0) _ _ ((rd_T96 l1_0 x5_1).f0) false _ ?side1 ?side2 ?side3 ?side4 A12.out).mono ?_);(case side1=>repeat (first | exact (Kd.C_below HR341_0.out HB.out) | (with_reducible refine Kd.C_drewN ?_ _)));(case side2=>exact HC341_0.out);(case side3=>repeat (first | exact (Kd.C_below HR342_0.out HB.out) | (with_reducible refine Kd.C_drewN ?_ _)));(case side4=>exact HC342_0.out);rintro e w' ⟨rfl,⟨nd,rfl⟩⟩;(try exact ⟨rfl,_,World.drewN_drewN _ _ _⟩);have p344:0≤(x5_1:Int):=of_decide_eq_true (by (with_reducible assumption));have q344:x5_1 < (l0_0.length:Int):=of_decide_eq_true (by (with_reducible assumption));obtain ⟨ad344,A344_0,c344_0,A344_1,c344_1,e344,hx344_0,hx344_1,hl344_0,hi344_0,hl344_1,hi344_1⟩:=at_T96 HR0_0.out x5_1 p344 q344;obtain rfl:ad341=ad344:=(by injection e344);replace hx344_0:=(HB.out.cell (World.block_lt_of_cell? w _ hx344_0)).trans hx344_0;replace hx344_1:=(HB.out.cell (World.block_lt_of_cell? w _ hx344_1)).trans hx344_1;have HR344_0:=Ak hi344_0;have HC344_0:=Ak hl344_0;clear hi344_0 hl344_0;have HR344_1:=Ak hi344_1;have HC344_1:=Ak hl344_1;clear hi344_1 hl344_1;replace p344:=eq_true p344;replace q344:=eq_true q344;have ea_:=Option.some.inj (hx341_0.symm.trans hx344_0);injection ea_ with ea_ en_ ec_;subst ea_;subst ec_;clear en_;have ea_:=Option.some.inj (hx341_1.symm.trans hx344_1);injection ea_ with ea_ en_ ec_;subst ea_;subst ec_;clear en_;have p345:0≤(x5_1:Int):=of_decide_eq_true (by (with_reducible assumption));have q345:x5_1 < (l1_0.length:Int):=of_decide_eq_true (by (with_reducible assumption));obtain ⟨ad345,A345_0,c345_0,A345_1,c345_1,e345,hx345_0,hx345_1,hl345_0,hi345_0,hl345_1,hi345_1⟩:=at_T96 HR1_0.out x5_1 p345 q345;obtain rfl:ad342=ad345:=(by injection e345);replace hx345_0:=(HB.out.cell (World.block_lt_of_cell? w _ hx345_0)).trans hx345_0;replace hx345_1:=(HB.out.cell (World.block_lt_of_cell? w _ hx345_1)).trans hx345_1;have HR345_0:=Ak hi345_0;have HC345_0:=Ak hl345_0;clear hi345_0 hl345_0;have HR345_1:=Ak hi345_1;have HC345_1:=Ak hl345_1;clear hi345_1 hl345_1;replace p345:=eq_true p345;replace q345:=eq_true q345;have ea_:=Option.some.inj (hx342_0.symm.trans hx345_0);injection ea_ with ea_ en_ ec_;subst ea_;subst ec_;clear en_;have ea_:=Option.some.inj (hx342_1.symm.trans hx345_1);injection ea_ with ea_ en_ ec_;subst ea_;subst ec_;clear en_) | (go_at_call 63;(with_reducible refine (q04_TextsG.calls _ _ ((rd_T96 l0_0 x5_1).f1) _ _ ((rd_T96 l1_0 x5_1).f1) t346 _ ?side1 ?side2 ?side3 ?side4 A13.out).mono ?_);(case side1=>repeat (exact (Kd.C_below HR344_1.out (by repeat (with_reducible first | exact HB.out | apply pw_below_drewN)))));(case side2=>exact HC344_1.out);(case side3=>repeat (exact (Kd.C_below HR345_1.out (by repeat (with_reducible first | exact HB.out | apply pw_below_drewN)))));(case side4=>exact HC345_1.out);rintro e w' ⟨rfl,⟨nd,rfl⟩⟩;(try exact ⟨rfl,_,Eq.trans (World.drewN_drewN _ _ _) (congrArg (World.drewN _) (Nat.add_assoc _ _ _))⟩)));try go_wp2_with (fail))
        go_ret
        exact ⟨by rfl,by repeat (with_reducible first | exact HB.out | apply pw_below_drewN)⟩
      ·rw [if_neg c11] at H
       exact absurd H (by simp)
     ·rw [if_neg c10] at H
      exact absurd H (by simp)
    ·rw [if_neg c9] at H
     have c9b0:decide (x5_1 < (l0_0.length:Int))=false:=decide_eq_false c9
     clear c9
     obtain rfl:=Option.some.inj H
     have hnb25:=NB339_340.out
     have hnc25:=NB340_339.out
     have hcz26_0:wr.cell? ⟨gb339,0,none⟩=some (.slice A0_0 l0_0.length c0_0):=(blk_cell BK339.out 0).trans rfl
     have hfz26_0:=blk_frozen BK339.out 0
     go_wp2
     repeat (go_quiet (fail))
     go_ret
     exact ⟨by rfl,by with_reducible exact HB.out⟩
 ·rw [if_neg c3] at H
  have c3b0:((l0_0.length:Int) == (l1_0.length:Int))=false:=beq_eq_false_iff_ne.mpr c3
  have c3b1:((l0_0.length:Int) != (l1_0.length:Int))=true:=bne_iff_ne.mpr c3
  have c3b2:(l0_0.length == l1_0.length)=false:=by (simp at c3 ⊢;omega)
  obtain rfl:=Option.some.inj H
  go_enter Tryz.func28,Tryz.ntmps28
  go_wp2_with (first | ((with_reducible refine gate_dst (N:=2) rfl ?_);refine box_event ?hg (N:=2) ?hd (cs:=#[.slice A0_0 l0_0.length c0_0]) (t:=32) ?hr ?_;(case hd=>rfl);(case hg=>rfl);(case hr=>(go_simp;done));intro gb339 hg w27 hbox hb;have n0_:=Ak (below_step HB.out hb);have n1_:=Ak (hbox);have n2_:=Ak ((by rw [hg];exact (below_size HB.out):w.heap.size≤gb339));have n3_:=Ak ((by rw [hg];exact (below_size HB.out):w.heap.size≤gb339));clear HB;have HB:=n0_;have BK339:=n1_;have GW339:=n2_;have GE339:=n3_;clear n0_ n1_ n2_ n3_;clear hb hbox hg) | ((with_reducible refine gate_dst (N:=3) rfl ?_);refine box_event ?hg (N:=3) ?hd (cs:=#[.slice A1_0 l1_0.length c1_0]) (t:=32) ?hr ?_;(case hd=>rfl);(case hg=>rfl);(case hr=>(go_simp;done));intro gb340 hg w28 hbox hb;have n0_:=Ak (blk_below (g:=gb339) (o:=.cells #[.slice A0_0 l0_0.length c0_0] 32 (0,0)) BK339.out hb);have n1_:=Ak (below_step HB.out hb);have n2_:=Ak (hbox);have n3_:=Ak ((by rw [hg];exact (below_size HB.out):w.heap.size≤gb340));have n4_:=Ak ((by rw [hg];exact (below_size HB.out):w.heap.size≤gb340));have n5_:=Ak ((by rw [hg];exact Nat.ne_of_lt (blk_lt (g:=gb339) (o:=.cells #[.slice A0_0 l0_0.length c0_0] 32 (0,0)) BK339.out):gb339≠gb340));have n6_:=Ak ((by rw [hg];exact Nat.ne_of_gt (blk_lt (g:=gb339) (o:=.cells #[.slice A0_0 l0_0.length c0_0] 32 (0,0)) BK339.out):gb340≠gb339));clear BK339;clear HB;have BK339:=n0_;have HB:=n1_;have BK340:=n2_;have GW340:=n3_;have GE340:=n4_;have NB339_340:=n5_;have NB340_339:=n6_;clear n0_ n1_ n2_ n3_ n4_ n5_ n6_;clear hb hbox hg;have hnb29:=NB339_340.out;have hnc29:=NB340_339.out;have hcz30_0:w28.cell? ⟨gb339,0,none⟩=some (.slice A0_0 l0_0.length c0_0):=(blk_cell BK339.out 0).trans rfl;have hfz30_0:=blk_frozen BK339.out 0;have hcz31_0:w28.cell? ⟨gb340,0,none⟩=some (.slice A1_0 l1_0.length c1_0):=(blk_cell BK340.out 0).trans rfl;have hfz31_0:=blk_frozen BK340.out 0))
  repeat (go_quiet (fail))
  go_ret
  exact ⟨by rfl,by with_reducible exact HB.out⟩
end Go.Proofs.YtocpcnmnhckcpaaGreat.Prt
namespace Go.Proofs.YtocpcnmnhckcpaaGreat.Prt
open RowKit YtocpcnmnhckcpaaGreatW.PrintWords YtocpcnmnhckcpaaGreatW.PrintLast YtocpcnmnhckcpaaGreatW.PrintMore
attribute [local go_sem] max2_int min2_int max_two min_two max_three min_three max_four min_four
def q07_Put.l0:Nat→List Int→Int→List (S96)→Option (List Int × Int)
 | 0,_,_,_=>none
 | k+1,x7,x8,x268000=>if x8 < (x268000.length:Int) then (if 0≤x8 then ((q07_textsG.f x7 ((rd_T96 x268000 x8).f0)).bind fun t273=>((q07_textsG.f t273 ((rd_T96 x268000 x8).f1)).bind fun t277=>(q07_Put.l0 k t277 (wrap64 (x8+1)) x268000))) else (none)) else (some (x7,0))
def q07_Put.f (k:Nat) (l0:List Int) (l1_0:List (S96)):Option (List Int × Int):=(q06_MayG.f l1_0).bind fun t268=>(if t268=0 then ((q01_Put.f l0 (l1_0.length:Int)).bind fun t269=>(q07_Put.l0 k t269 0 l1_0)) else (some (([]:List Int),t268)))
def q07_Put.T8:Bool × List (List Nat × List Nat):=(true,[([],[]),([],[]),([1],[1]),([],[]),([2,3],[2,3]),([4],[4]),([5],[5]),([0,6],[0,6]),([],[]),([8],[8]),([],[]),([9,10],[9,10]),([11],[11]),([12],[12]),([7,13,7],[7,13]),([14,14,0,1,2,3,4,5,6,7,8,9,10,11,12,13,14],[0,14])])
def q07_Put.B8:List Nat:=[0,0,2,0,14,30,62,127,0,256,0,1792,3840,7936,16383,32767]
theorem q07_Put.tab8:rtab .any (opsOf Tryz.f39 8)=q07_Put.T8:=by kernel_rfl
theorem q07_Put.bits8:waitsOk q07_Put.T8.2 q07_Put.B8=true:=by kernel_rfl
set_option maxHeartbeats 8000000 in
set_option maxRecDepth 100000 in
theorem q07_Put.calls (k:Nat) (A0:Option Addr) (c0:Nat) (l0:List Int) (A1_0:Option Addr) (c1_0:Nat) (l1_0:List (S96)) (r1:List Int) (r2:Int) (w:World) (hr0:Kd.C (Kd.int .u8) w A0 l0.length l0) (hc0:l0.length≤c0) (hr1_0:Kd.C k96 w A1_0 l1_0.length l1_0) (hc1_0:l1_0.length≤c1_0) (h:q07_Put.f k l0 l1_0=some (r1,r2)) :
  Calls Tryz.prog 39 #[.slice A0 l0.length c0,.agg #[.slice A1_0 l1_0.length c1_0]] w fun e w'=>∃ v0_:Value,e = .returned (.tuple #[v0_,.int .i64 r2])∧Kd.R (Kd.int .u8) 5 w' w.heap.size (fun _=>True) v0_ r1∧Below w.heap.size w w':=by
 have hu32:=Tryz.underlying32
 have HR0:=Ak hr0
 have HC0:=Ak hc0
 clear hr0 hc0
 have HR1_0:=Ak hr1_0
 have HC1_0:=Ak hc1_0
 clear hr1_0 hc1_0
 have HB:=Ak (Below.refl w.heap.size w)
 have H:((q06_MayG.f l1_0).bind fun t268=>(if t268=0 then ((q01_Put.f l0 (l1_0.length:Int)).bind fun t269=>(q07_Put.l0 k t269 0 l1_0)) else (some (([]:List Int),t268))))=some (r1,r2):=h
 clear h
 replace H:=Option.bind_eq_some_iff.mp H
 obtain ⟨t268,A30,H⟩:=H
 replace H:(if t268=0 then ((q01_Put.f l0 (l1_0.length:Int)).bind fun t269=>(q07_Put.l0 k t269 0 l1_0)) else (some (([]:List Int),t268)))=some (r1,r2):=H
 have A3:=Ak A30
 clear A30
 by_cases c4:t268=0
 ·rw [if_pos c4] at H
  have c4b0:(t268 == 0)=true:=beq_iff_eq.mpr c4
  have c4b1:(t268 != 0)=false:=bne_eq_false_iff_eq.mpr c4
  clear c4
  replace H:=Option.bind_eq_some_iff.mp H
  obtain ⟨t269,A50,H⟩:=H
  replace H:(q07_Put.l0 k t269 0 l1_0)=some (r1,r2):=H
  have A5:=Ak A50
  clear A50
  have H':=Ak H
  clear H
  go_enter Tryz.func39,Tryz.ntmps39
  go_wp2_with (first | ((with_reducible refine gate_dst (N:=3) rfl ?_);refine box_event ?hg (N:=3) ?hd (cs:=#[.slice A1_0 l1_0.length c1_0]) (t:=32) ?hr ?_;(case hd=>rfl);(case hg=>rfl);(case hr=>(go_simp;done));intro gb267 hg w6 hbox hb;have n0_:=Ak (below_step HB.out hb);have n1_:=Ak (hbox);have n2_:=Ak ((by rw [hg];exact (below_size HB.out):w.heap.size≤gb267));have n3_:=Ak ((by rw [hg];exact (below_size HB.out):w.heap.size≤gb267));clear HB;have HB:=n0_;have BK267:=n1_;have GW267:=n2_;have GE267:=n3_;clear n0_ n1_ n2_ n3_;clear hb hbox hg;have hcz7_0:w6.cell? ⟨gb267,0,none⟩=some (.slice A1_0 l1_0.length c1_0):=(blk_cell BK267.out 0).trans rfl;have hfz7_0:=blk_frozen BK267.out 0) | ((with_reducible refine gate_callee (f:=62) rfl ?_);refine goesL_ (some 10) rfl rfl Tryz.func62 (by kernel_rfl) rfl #[.agg #[.slice A1_0 l1_0.length c1_0]] rfl (by (try simp only [List.map_toArray,List.map_cons,List.map_nil]);rfl) ?_;(with_reducible refine (q06_MayG.calls _ _ l1_0 t268 _ ?side1 ?side2 A3.out).mono ?_);(case side1=>repeat (exact (Kd.C_below HR1_0.out HB.out)));(case side2=>exact HC1_0.out);rintro e w8 ⟨rfl,hb⟩;refine ⟨_,rfl,?_⟩;have n0_:=Ak (blk_below (g:=gb267) (o:=.cells #[.slice A1_0 l1_0.length c1_0] 32 (0,0)) BK267.out hb);have n1_:=Ak (below_step HB.out hb);clear BK267;clear HB;have BK267:=n0_;have HB:=n1_;clear n0_ n1_;(try clear hb);have hcz9_0:w8.cell? ⟨gb267,0,none⟩=some (.slice A1_0 l1_0.length c1_0):=(blk_cell BK267.out 0).trans rfl;have hfz9_0:=blk_frozen BK267.out 0) | ((with_reducible refine gate_callee (f:=36) rfl ?_);refine goesL_ (some 18) rfl rfl Tryz.func36 (by kernel_rfl) rfl #[.slice A0 l0.length c0,.int .i64 (l1_0.length:Int)] rfl (by (try simp only [List.map_toArray,List.map_cons,List.map_nil]);rfl) ?_;(with_reducible refine (q01_Put.calls _ _ l0 (l1_0.length:Int) t269 _ ?side1 ?side2 A5.out).mono ?_);(case side1=>repeat (exact (Kd.C_below HR0.out HB.out)));(case side2=>exact HC0.out);rintro e w10 ⟨v270,rfl,ho0,hb⟩;refine ⟨_,rfl,?_⟩;have n0_:=Ak (Kd.R_lower ho0 (below_size HB.out));have n1_:=Ak (blk_below (g:=gb267) (o:=.cells #[.slice A1_0 l1_0.length c1_0] 32 (0,0)) BK267.out hb);have n2_:=Ak (below_step HB.out hb);clear BK267;clear HB;have HO271:=n0_;have BK267:=n1_;have HB:=n2_;clear n0_ n1_ n2_;(try clear hb);(try clear ho0)))
  go_loopg [7,8] k (fun kq v7 v8 w'=>∃ (x7_1:List Int) (x8_1:Int),v8 = .int .i64 x8_1∧Aside0 (q07_Put.l0 kq x7_1 x8_1 l1_0=some (r1,r2))∧Aside0 (kq≤k)∧Aside0 (Kd.R (Kd.int .u8) 5 w' w.heap.size (fun _=>True) v7 x7_1)∧Aside0 (w'.heap[gb267]? = some (.cells #[(.slice A1_0 l1_0.length c1_0)] 32 (0,0)))∧Aside0 (Below w.heap.size w w'))
  case atStart=>exact ⟨(t269),(0),(by rfl),H',⟨Nat.le_refl _⟩,⟨by exact HO271.out⟩,⟨by exact BK267.out⟩,⟨by with_reducible exact HB.out⟩⟩
  case round=>
   clear H'
   try clear c4b0
   try clear c4b1
   try clear hcz7_0
   try clear hcz9_0
   try clear hfz7_0
   try clear hfz9_0
   obtain ⟨x7_1,x8_1,rfl,HA,HK1,HO_7,BK267,HB⟩:=hrel
   cases gk with
   | zero=>exact absurd HA.out (by simp [q07_Put.l0])
   | succ k1=>
    have H:=HA.out
    clear HA
    simp only [q07_Put.l0] at H
    by_cases c11:x8_1 < (l1_0.length:Int)
    ·rw [if_pos c11] at H
     have c11b0:decide (x8_1 < (l1_0.length:Int))=true:=decide_eq_true c11
     clear c11
     by_cases c12:0≤x8_1
     ·rw [if_pos c12] at H
      have c12b0:decide (0≤x8_1)=true:=decide_eq_true c12
      clear c12
      replace H:=Option.bind_eq_some_iff.mp H
      obtain ⟨t273,A130,H⟩:=H
      replace H:((q07_textsG.f t273 ((rd_T96 l1_0 x8_1).f1)).bind fun t277=>(q07_Put.l0 k1 t277 (wrap64 (x8_1+1)) l1_0))=some (r1,r2):=H
      have A13:=Ak A130
      clear A130
      replace H:=Option.bind_eq_some_iff.mp H
      obtain ⟨t277,A140,H⟩:=H
      replace H:(q07_Put.l0 k1 t277 (wrap64 (x8_1+1)) l1_0)=some (r1,r2):=H
      have A14:=Ak A140
      clear A140
      have H':=Ak H
      clear H
      have hcz15_0:wr.cell? ⟨gb267,0,none⟩=some (.slice A1_0 l1_0.length c1_0):=(blk_cell BK267.out 0).trans rfl
      have hfz15_0:=blk_frozen BK267.out 0
      try go_wp2
      replace HO_7:=Ak (Kd.R_drew HO_7.out)
      replace BK267:=Ak (blk_drew BK267.out)
      replace HB:=Ak (below_drew1 HB.out)
      have p272:0≤(x8_1:Int):=of_decide_eq_true (by (with_reducible assumption))
      have q272:x8_1 < (l1_0.length:Int):=of_decide_eq_true (by (with_reducible assumption))
      obtain ⟨ad272,A272_0,c272_0,A272_1,c272_1,e272,hx272_0,hx272_1,hl272_0,hi272_0,hl272_1,hi272_1⟩:=at_T96 HR1_0.out x8_1 p272 q272
      have hw272_1:=hx272_1
      have hw272_0:=hx272_0
      cases e272
      replace hx272_0:=(HB.out.cell (World.block_lt_of_cell? w _ hx272_0)).trans hx272_0
      replace hx272_1:=(HB.out.cell (World.block_lt_of_cell? w _ hx272_1)).trans hx272_1
      have HR272_0:=Ak hi272_0
      have HC272_0:=Ak hl272_0
      clear hi272_0 hl272_0
      have HR272_1:=Ak hi272_1
      have HC272_1:=Ak hl272_1
      clear hi272_1 hl272_1
      replace p272:=eq_true p272
      replace q272:=eq_true q272
      have p276:0≤(x8_1:Int):=of_decide_eq_true (by (with_reducible assumption))
      have q276:x8_1 < (l1_0.length:Int):=of_decide_eq_true (by (with_reducible assumption))
      obtain ⟨ad276,A276_0,c276_0,A276_1,c276_1,e276,hx276_0,hx276_1,hl276_0,hi276_0,hl276_1,hi276_1⟩:=at_T96 HR1_0.out x8_1 p276 q276
      have hw276_1:=hx276_1
      have hw276_0:=hx276_0
      obtain rfl:ad272=ad276:=(by injection e276)
      replace hx276_0:=(HB.out.cell (World.block_lt_of_cell? w _ hx276_0)).trans hx276_0
      replace hx276_1:=(HB.out.cell (World.block_lt_of_cell? w _ hx276_1)).trans hx276_1
      have HR276_0:=Ak hi276_0
      have HC276_0:=Ak hl276_0
      clear hi276_0 hl276_0
      have HR276_1:=Ak hi276_1
      have HC276_1:=Ak hl276_1
      clear hi276_1 hl276_1
      replace p276:=eq_true p276
      replace q276:=eq_true q276
      have ea_:=Option.some.inj (hx272_0.symm.trans hx276_0)
      injection ea_ with ea_ en_ ec_
      subst ea_
      subst ec_
      clear en_
      have ea_:=Option.some.inj (hx272_1.symm.trans hx276_1)
      injection ea_ with ea_ en_ ec_
      subst ea_
      subst ec_
      clear en_
      obtain ⟨Ao17,co17,eo17⟩:=Kd.R_slice HO_7.out
      (subst eo17)
      refine start_ (n:=16) (S:=fun w'=>w'.cell? ⟨gb267,0,none⟩=some (.slice (some ad272) l1_0.length c1_0)∧w'.cell? (ad272.add ((x8_1).toNat * 2))=some (.slice A272_0 ((rd_T96 l1_0 x8_1).f0).length c272_0)∧w'.cell? ⟨(ad272.add ((x8_1).toNat * 2)).block,(ad272.add ((x8_1).toNat * 2)).off+1,none⟩=some (.slice A272_1 ((rd_T96 l1_0 x8_1).f1).length c272_1)∧w'.cell? (ad272.add ((x8_1).toNat * 2))=some (.slice A272_0 ((rd_T96 l1_0 x8_1).f0).length c272_0)∧w'.cell? ⟨(ad272.add ((x8_1).toNat * 2)).block,(ad272.add ((x8_1).toNat * 2)).off+1,none⟩=some (.slice A272_1 ((rd_T96 l1_0 x8_1).f1).length c272_1)) (ds:=[]) #[false,false,false,false,false,false,false,false,false,false,false,false,false,false,false,false] (by kernel_rfl) rfl rfl ⟨(blk_cell BK267.out 0).trans rfl,((HB.out.cell (World.block_lt_of_cell? w _ hw272_0)).trans hw272_0),((HB.out.cell (World.block_lt_of_cell? w _ hw272_1)).trans hw272_1),((HB.out.cell (World.block_lt_of_cell? w _ hw276_0)).trans hw276_0),((HB.out.cell (World.block_lt_of_cell? w _ hw276_1)).trans hw276_1)⟩ (fun hHeld=>?_);refine with_tabW q07_Put.tab8 q07_Put.bits8 (fun HT_ HW_=>?_)
      generalize wr.drew=w16 at HO_7 BK267 HB HR272_0 HR272_1 HR276_0 HR276_1 hx272_0 hx272_1 hx276_0 hx276_1 hHeld ⊢
      refine pure_ (i:=0) (N:=some 26) (v:=?_) (a':=?_) #[true,false,false,false,false,false,false,false,false,false,false,false,false,false,false,false] rfl rfl (any_of HT_.out (by kernel_rfl)) (fun _ _ _ h=>h) (Or.inl ⟨by rfl,?_⟩) ?_ ?_
      rotate_left
      ·intro w'
       go_simp
       with_reducible rfl
      rotate_left
      ·simp only [Act.put,List.setIfInBounds_toArray,List.set_cons_zero,List.set_cons_succ,i64_w,i32_w]
       rfl
      refine pure_ (i:=1) (N:=some 27) (v:=?_) (a':=?_) #[true,true,false,false,false,false,false,false,false,false,false,false,false,false,false,false] rfl rfl (any_of HT_.out (by kernel_rfl)) (fun _ _ _ h=>h) (Or.inl ⟨by rfl,?_⟩) ?_ ?_
      rotate_left
      ·intro w'
       go_simp
       with_reducible rfl
      rotate_left
      ·simp only [Act.put,List.setIfInBounds_toArray,List.set_cons_zero,List.set_cons_succ,i64_w,i32_w]
       rfl
      refine pure_ (i:=3) (N:=some 29) (v:=?_) (a':=?_) #[true,true,false,true,false,false,false,false,false,false,false,false,false,false,false,false] rfl rfl (any_of HT_.out (by kernel_rfl)) (fun _ _ _ h=>h) (Or.inl ⟨by rfl,?_⟩) ?_ ?_
      rotate_left
      ·intro w'
       go_simp
       with_reducible rfl
      rotate_left
      ·simp only [Act.put,List.setIfInBounds_toArray,List.set_cons_zero,List.set_cons_succ,i64_w,i32_w]
       rfl
      refine pure_ (i:=8) (N:=some 34) (v:=?_) (a':=?_) #[true,true,false,true,false,false,false,false,true,false,false,false,false,false,false,false] rfl rfl (any_of HT_.out (by kernel_rfl)) (fun _ _ _ h=>h) (Or.inl ⟨by rfl,?_⟩) ?_ ?_
      rotate_left
      ·intro w'
       go_simp
       with_reducible rfl
      rotate_left
      ·simp only [Act.put,List.setIfInBounds_toArray,List.set_cons_zero,List.set_cons_succ,i64_w,i32_w]
       rfl
      refine pure_ (i:=10) (N:=some 36) (v:=?_) (a':=?_) #[true,true,false,true,false,false,false,false,true,false,true,false,false,false,false,false] rfl rfl (any_of HT_.out (by kernel_rfl)) (fun _ _ _ h=>h) (Or.inl ⟨by rfl,?_⟩) ?_ ?_
      rotate_left
      ·intro w'
       go_simp
       with_reducible rfl
      rotate_left
      ·simp only [Act.put,List.setIfInBounds_toArray,List.set_cons_zero,List.set_cons_succ,i64_w,i32_w]
       rfl
      refine take_ (i:=2) (N:=some 28) (v:=?_) (a':=?_) #[true,true,true,true,false,false,false,false,true,false,true,false,false,false,false,false] rfl rfl (take_ofW HT_.out HW_.out (by kernel_rfl)) (fun _ _ _ h=>h) (Or.inl ⟨by rfl,?_⟩) hHeld ?_ ?_
      rotate_left
      ·rintro w' ⟨s0,s1,s2,s3,s4⟩
       go_simp
       with_reducible rfl
      rotate_left
      ·simp only [Act.put,List.setIfInBounds_toArray,List.set_cons_zero,List.set_cons_succ,i64_w,i32_w]
       rfl
      refine pure_ (i:=4) (N:=some 30) (v:=?_) (a':=?_) #[true,true,true,true,true,false,false,false,true,false,true,false,false,false,false,false] rfl rfl (any_of HT_.out (by kernel_rfl)) (fun _ _ _ h=>h) (Or.inl ⟨by rfl,?_⟩) ?_ ?_
      rotate_left
      ·intro w'
       go_simp
       with_reducible rfl
      rotate_left
      ·simp only [Act.put,List.setIfInBounds_toArray,List.set_cons_zero,List.set_cons_succ,i64_w,i32_w]
       rfl
      refine pure_ (i:=5) (N:=some 31) (v:=?_) (a':=?_) #[true,true,true,true,true,true,false,false,true,false,true,false,false,false,false,false] rfl rfl (any_of HT_.out (by kernel_rfl)) (fun _ _ _ h=>h) (Or.inl ⟨by rfl,?_⟩) ?_ ?_
      rotate_left
      ·intro w'
       go_simp
       with_reducible rfl
      rotate_left
      ·simp only [Act.put,List.setIfInBounds_toArray,List.set_cons_zero,List.set_cons_succ,i64_w,i32_w]
       rfl
      refine take_ (i:=6) (N:=some 32) (v:=?_) (a':=?_) #[true,true,true,true,true,true,true,false,true,false,true,false,false,false,false,false] rfl rfl (take_ofW HT_.out HW_.out (by kernel_rfl)) (fun _ _ _ h=>h) (Or.inl ⟨by rfl,?_⟩) hHeld ?_ ?_
      rotate_left
      ·rintro w' ⟨s0,s1,s2,s3,s4⟩
       go_simp
       with_reducible rfl
      rotate_left
      ·simp only [Act.put,List.setIfInBounds_toArray,List.set_cons_zero,List.set_cons_succ,i64_w,i32_w]
       rfl
      refine take_ (i:=9) (N:=some 35) (v:=?_) (a':=?_) #[true,true,true,true,true,true,true,false,true,true,true,false,false,false,false,false] rfl rfl (take_ofW HT_.out HW_.out (by kernel_rfl)) (fun _ _ _ h=>h) (Or.inl ⟨by rfl,?_⟩) hHeld ?_ ?_
      rotate_left
      ·rintro w' ⟨s0,s1,s2,s3,s4⟩
       go_simp
       with_reducible rfl
      rotate_left
      ·simp only [Act.put,List.setIfInBounds_toArray,List.set_cons_zero,List.set_cons_succ,i64_w,i32_w]
       rfl
      refine pure_ (i:=11) (N:=some 37) (v:=?_) (a':=?_) #[true,true,true,true,true,true,true,false,true,true,true,true,false,false,false,false] rfl rfl (any_of HT_.out (by kernel_rfl)) (fun _ _ _ h=>h) (Or.inl ⟨by rfl,?_⟩) ?_ ?_
      rotate_left
      ·intro w'
       go_simp
       with_reducible rfl
      rotate_left
      ·simp only [Act.put,List.setIfInBounds_toArray,List.set_cons_zero,List.set_cons_succ,i64_w,i32_w]
       rfl
      refine pure_ (i:=12) (N:=some 38) (v:=?_) (a':=?_) #[true,true,true,true,true,true,true,false,true,true,true,true,true,false,false,false] rfl rfl (any_of HT_.out (by kernel_rfl)) (fun _ _ _ h=>h) (Or.inl ⟨by rfl,?_⟩) ?_ ?_
      rotate_left
      ·intro w'
       go_simp
       with_reducible rfl
      rotate_left
      ·simp only [Act.put,List.setIfInBounds_toArray,List.set_cons_zero,List.set_cons_succ,i64_w,i32_w]
       rfl
      refine take_ (i:=13) (N:=some 39) (v:=?_) (a':=?_) #[true,true,true,true,true,true,true,false,true,true,true,true,true,true,false,false] rfl rfl (take_ofW HT_.out HW_.out (by kernel_rfl)) (fun _ _ _ h=>h) (Or.inl ⟨by rfl,?_⟩) hHeld ?_ ?_
      rotate_left
      ·rintro w' ⟨s0,s1,s2,s3,s4⟩
       go_simp
       with_reducible rfl
      rotate_left
      ·simp only [Act.put,List.setIfInBounds_toArray,List.set_cons_zero,List.set_cons_succ,i64_w,i32_w]
       rfl
      refine one_ (i:=7) (N:=some 33) #[true,true,true,true,true,true,true,true,true,true,true,true,true,true,false,false] rfl rfl (one_of HT_.out (by kernel_rfl)) (by decide) (fun K hK=>?_)
      refine goes_ Tryz.func65 (by kernel_rfl) rfl #[.slice Ao17 x7_1.length co17,.slice A272_0 ((rd_T96 l1_0 x8_1).f0).length c272_0] (by rfl) rfl rfl (by (try simp only [List.map_toArray,List.map_cons,List.map_nil]);rfl) ?_
      with_reducible refine (q07_textsG.calls _ _ x7_1 _ _ ((rd_T96 l1_0 x8_1).f0) t273 _ ?side1 ?side2 ?side3 ?side4 A13.out).mono ?_
      (case side1=>repeat (exact (Kd.R_reads' HO_7.out).2.2))
      (case side2=>exact (Kd.R_reads' HO_7.out).2.1)
      (case side3=>repeat (exact (Kd.C_below HR272_0.out HB.out)))
      (case side4=>exact HC272_0.out)
      rintro e w18 ⟨v274,rfl,ho0,hb⟩
      refine ⟨_,rfl,?_⟩
      have n0_:=Ak (Kd.R_elder' HO_7.out (Kd.R_base ho0) hb)
      have n1_:=Ak (Kd.R_lower (Kd.R_new' ho0 (Kd.R_lt HO_7.out)) (below_size HB.out))
      have n2_:=Ak (blk_below (g:=gb267) (o:=.cells #[.slice (some ad272) l1_0.length c1_0] 32 (0,0)) BK267.out hb)
      have n3_:=Ak (below_step HB.out hb)
      clear HO_7
      clear BK267
      clear HB
      have HO_7:=n0_
      have HO275:=n1_
      have BK267:=n2_
      have HB:=n3_
      clear n0_ n1_ n2_ n3_
      (try clear hb)
      (try clear ho0)
      obtain ⟨Ao19,co19,eo19⟩:=Kd.R_slice HO275.out
      (subst eo19)
      refine hK.out _ _ ⟨(blk_cell BK267.out 0).trans rfl,((HB.out.cell (World.block_lt_of_cell? w _ hw272_0)).trans hw272_0),((HB.out.cell (World.block_lt_of_cell? w _ hw272_1)).trans hw272_1),((HB.out.cell (World.block_lt_of_cell? w _ hw276_0)).trans hw276_0),((HB.out.cell (World.block_lt_of_cell? w _ hw276_1)).trans hw276_1)⟩ (fun hHeld=>?_)
      clear hK K
      refine norm_ (a':=?_) ?_ ?_
      rotate_left
      ·show Act.put _ (some 33) _=_
       simp only [Act.put,List.setIfInBounds_toArray,List.set_cons_zero,List.set_cons_succ,i64_w,i32_w]
       rfl
      refine one_ (i:=14) (N:=some 40) #[true,true,true,true,true,true,true,true,true,true,true,true,true,true,true,false] rfl rfl (one_of HT_.out (by kernel_rfl)) (by decide) (fun K hK=>?_)
      refine goes_ Tryz.func65 (by kernel_rfl) rfl #[.slice Ao19 t273.length co19,.slice A272_1 ((rd_T96 l1_0 x8_1).f1).length c272_1] (by rfl) rfl rfl (by (try simp only [List.map_toArray,List.map_cons,List.map_nil]);rfl) ?_
      with_reducible refine (q07_textsG.calls _ _ t273 _ _ ((rd_T96 l1_0 x8_1).f1) t277 _ ?side1 ?side2 ?side3 ?side4 A14.out).mono ?_
      (case side1=>repeat (exact (Kd.R_reads' HO275.out).2.2))
      (case side2=>exact (Kd.R_reads' HO275.out).2.1)
      (case side3=>repeat (exact (Kd.C_below HR276_1.out HB.out)))
      (case side4=>exact HC276_1.out)
      rintro e w20 ⟨v278,rfl,ho0,hb⟩
      refine ⟨_,rfl,?_⟩
      have n0_:=Ak (Kd.R_elder' HO_7.out (Kd.R_base ho0) hb)
      have n1_:=Ak (Kd.R_elder' HO275.out (Kd.R_base ho0) hb)
      have n2_:=Ak (Kd.R_lower (Kd.R_new' (Kd.R_new' ho0 (Kd.R_lt HO_7.out)) (Kd.R_lt HO275.out)) (below_size HB.out))
      have n3_:=Ak (blk_below (g:=gb267) (o:=.cells #[.slice (some ad272) l1_0.length c1_0] 32 (0,0)) BK267.out hb)
      have n4_:=Ak (below_step HB.out hb)
      clear HO_7
      clear HO275
      clear BK267
      clear HB
      have HO_7:=n0_
      have HO275:=n1_
      have HO279:=n2_
      have BK267:=n3_
      have HB:=n4_
      clear n0_ n1_ n2_ n3_ n4_
      (try clear hb)
      (try clear ho0)
      refine hK.out _ _ ⟨(blk_cell BK267.out 0).trans rfl,((HB.out.cell (World.block_lt_of_cell? w _ hw272_0)).trans hw272_0),((HB.out.cell (World.block_lt_of_cell? w _ hw272_1)).trans hw272_1),((HB.out.cell (World.block_lt_of_cell? w _ hw276_0)).trans hw276_0),((HB.out.cell (World.block_lt_of_cell? w _ hw276_1)).trans hw276_1)⟩ (fun hHeld=>?_)
      clear hK K
      refine norm_ (a':=?_) ?_ ?_
      rotate_left
      ·show Act.put _ (some 40) _=_
       simp only [Act.put,List.setIfInBounds_toArray,List.set_cons_zero,List.set_cons_succ,i64_w,i32_w]
       rfl
      refine pure_ (i:=15) (N:=some 7) (v:=?_) (a':=?_) #[true,true,true,true,true,true,true,true,true,true,true,true,true,true,true,true] rfl rfl (any_of HT_.out (by kernel_rfl)) (fun _ _ _ h=>h) (Or.inl ⟨by rfl,?_⟩) ?_ ?_
      rotate_left
      ·intro w'
       go_simp
       with_reducible rfl
      rotate_left
      ·simp only [Act.put,List.setIfInBounds_toArray,List.set_cons_zero,List.set_cons_succ,i64_w,i32_w]
       rfl
      refine done_ (done_of HT_.out (by kernel_rfl)) ?_
      try go_wp2
      go_roundg k1
      case measure=>have:=HK1.out;omega
      case rel=>exact ⟨(t277),(wrap64 (x8_1+1)),(by rfl),H',⟨by have:=HK1.out;omega⟩,⟨by exact Kd.R_mono HO279.out (fun _ hk=>trivial)⟩,⟨by exact BK267.out⟩,⟨by with_reducible exact HB.out⟩⟩
     ·rw [if_neg c12] at H
      exact absurd H (by simp)
    ·rw [if_neg c11] at H
     have c11b0:decide (x8_1 < (l1_0.length:Int))=false:=decide_eq_false c11
     clear c11
     simp only [Option.some.injEq,Prod.mk.injEq] at H
     obtain ⟨rfl,rfl⟩:=H
     have hcz21_0:wr.cell? ⟨gb267,0,none⟩=some (.slice A1_0 l1_0.length c1_0):=(blk_cell BK267.out 0).trans rfl
     have hfz21_0:=blk_frozen BK267.out 0
     go_wp2
     go_ret2
     exact ⟨_,by rfl,by exact HO_7.out,by with_reducible exact HB.out⟩
 ·rw [if_neg c4] at H
  have c4b0:(t268 == 0)=false:=beq_eq_false_iff_ne.mpr c4
  have c4b1:(t268 != 0)=true:=bne_iff_ne.mpr c4
  simp only [Option.some.injEq,Prod.mk.injEq] at H
  obtain ⟨rfl,rfl⟩:=H
  go_enter Tryz.func39,Tryz.ntmps39
  go_wp2_with (first | ((with_reducible refine gate_dst (N:=3) rfl ?_);refine box_event ?hg (N:=3) ?hd (cs:=#[.slice A1_0 l1_0.length c1_0]) (t:=32) ?hr ?_;(case hd=>rfl);(case hg=>rfl);(case hr=>(go_simp;done));intro gb267 hg w22 hbox hb;have n0_:=Ak (below_step HB.out hb);have n1_:=Ak (hbox);have n2_:=Ak ((by rw [hg];exact (below_size HB.out):w.heap.size≤gb267));have n3_:=Ak ((by rw [hg];exact (below_size HB.out):w.heap.size≤gb267));clear HB;have HB:=n0_;have BK267:=n1_;have GW267:=n2_;have GE267:=n3_;clear n0_ n1_ n2_ n3_;clear hb hbox hg;have hcz23_0:w22.cell? ⟨gb267,0,none⟩=some (.slice A1_0 l1_0.length c1_0):=(blk_cell BK267.out 0).trans rfl;have hfz23_0:=blk_frozen BK267.out 0) | ((with_reducible refine gate_callee (f:=62) rfl ?_);refine goesL_ (some 10) rfl rfl Tryz.func62 (by kernel_rfl) rfl #[.agg #[.slice A1_0 l1_0.length c1_0]] rfl (by (try simp only [List.map_toArray,List.map_cons,List.map_nil]);rfl) ?_;(with_reducible refine (q06_MayG.calls _ _ l1_0 t268 _ ?side1 ?side2 A3.out).mono ?_);(case side1=>repeat (exact (Kd.C_below HR1_0.out HB.out)));(case side2=>exact HC1_0.out);rintro e w24 ⟨rfl,hb⟩;refine ⟨_,rfl,?_⟩;have n0_:=Ak (blk_below (g:=gb267) (o:=.cells #[.slice A1_0 l1_0.length c1_0] 32 (0,0)) BK267.out hb);have n1_:=Ak (below_step HB.out hb);clear BK267;clear HB;have BK267:=n0_;have HB:=n1_;clear n0_ n1_;(try clear hb)))
  go_ret2
  exact ⟨_,by rfl,by exact Kd.R_nil _ _ _ _ _,by with_reducible exact HB.out⟩
end Go.Proofs.YtocpcnmnhckcpaaGreat.Prt
namespace Go.Proofs.YtocpcnmnhckcpaaGreat.Prt
open RowKit YtocpcnmnhckcpaaGreatW.PrintWords YtocpcnmnhckcpaaGreatW.PrintLast YtocpcnmnhckcpaaGreatW.PrintMore YtocpcnmnhckcpaaGreat.Num YtocpcnmnhckcpaaGreat.Nam
theorem encC_drop (l:List S96) (i:Nat) (h:i < l.length):(l.drop i).flatMap encC=encC (rd_T96 l (i:Int))++(l.drop (i+1)).flatMap encC:=by
 rw [drop_rdC l i h,List.flatMap_cons]
theorem put07_loop (l:List S96) (ho:OkQ l):∀ (n i k:Nat) (x:List Int),i+n=l.length→n < k→x.length+500 * n≤200000000000→q07_Put.l0 k x (i:Int) l=some (x++(l.drop i).flatMap encC,0):=by
 have hl:=ho.h4
 intro n
 induction n with
 | zero=>
  intro i k x hi hk hx
  obtain ⟨k,rfl⟩:∃ m,k=m+1:=⟨k - 1,by omega⟩
  rw [q07_Put.l0,if_neg (by omega),List.drop_eq_nil_of_le (by omega)]
  simp
 | succ n ih=>
  intro i k x hi hk hx
  obtain ⟨k,rfl⟩:∃ m,k=m+1:=⟨k - 1,by omega⟩
  have hm:=ho.hc _ (rdC_mem (l:=l) (i:=i) (by omega))
  have hz:=encC_size hm
  have hd:=encC_drop l i (by omega)
  obtain ⟨y,hy⟩:∃ y,y=rd_T96 l (i:Int):=⟨_,rfl⟩
  rw [←hy] at hm hz hd
  have e:encC y=encL y.f0++encL y.f1:=rfl
  rw [e,List.length_append] at hz
  have h0:=hm.h0
  have h1:=hm.h1
  have m1:q07_textsG.f x y.f0=some (x++encL y.f0):=if_pos ⟨by omega,by omega⟩
  have m2:q07_textsG.f (x++encL y.f0) y.f1=some ((x++encL y.f0)++encL y.f1):=if_pos ⟨by rw [List.length_append];omega,by omega⟩
  rw [q07_Put.l0,if_pos (by omega),if_pos (by omega),←hy,m1]
  simp only [Option.bind_some]
  rw [m2]
  simp only [Option.bind_some]
  rw [succW i (by omega),ih (i+1) k _ (by omega) (by omega) (by rw [List.length_append,List.length_append];omega),hd,e]
  simp only [List.append_assoc]
def q07_PutG.f (l0:List Int) (l1_0:List (S96)):Option (List Int × Int):=if l1_0.all fitC=true∧l0.length≤100000000000 then some (if mayQ l1_0=0 then (l0++encQ l1_0,0) else ([],mayQ l1_0)) else none
theorem q07_PutG.val {l0:List Int} {l1_0:List (S96)} {r1:List Int} {r2:Int} (h:q07_PutG.f l0 l1_0=some (r1,r2)):∃ k,q07_Put.f k l0 l1_0=some (r1,r2):=by
 unfold q07_PutG.f at h
 by_cases hc:l1_0.all fitC=true∧l0.length≤100000000000
 ·rw [if_pos hc] at h
  rw [←h]
  refine ⟨5,?_⟩
  have m1:q06_MayG.f l1_0=some (mayQ l1_0):=if_pos hc.1
  unfold q07_Put.f
  rw [m1]
  simp only [Option.bind_some]
  by_cases h0:mayQ l1_0=0
  ·have ok:=mayQ_zero.1 h0
   have h4:=ok.h4
   have e1:=enc_len (x:=(l1_0.length:Int)) ⟨by omega,by omega⟩
   have hl0:=hc.2
   have m2:q01_Put.f l0 (l1_0.length:Int)=some (l0++enc (l1_0.length:Int)):=if_pos ⟨by omega,by omega,by omega⟩
   rw [if_pos h0,if_pos h0,m2]
   simp only [Option.bind_some]
   have:=put07_loop l1_0 ok l1_0.length 0 5 (l0++enc (l1_0.length:Int)) (by omega) (by omega) (by rw [List.length_append];omega)
   rw [List.drop_zero,List.append_assoc] at this
   exact this
  ·rw [if_neg h0,if_neg h0]
 ·rw [if_neg hc] at h;cases h
theorem q07_PutG.calls (A0:Option Addr) (c0:Nat) (l0:List Int) (A1_0:Option Addr) (c1_0:Nat) (l1_0:List (S96)) (r1:List Int) (r2:Int) (w:World) (hr0:Kd.C (Kd.int .u8) w A0 l0.length l0) (hc0:l0.length≤c0) (hr1_0:Kd.C k96 w A1_0 l1_0.length l1_0) (hc1_0:l1_0.length≤c1_0) (h:q07_PutG.f l0 l1_0=some (r1,r2)) :
  Calls Tryz.prog 39 #[.slice A0 l0.length c0,.agg #[.slice A1_0 l1_0.length c1_0]] w fun e w'=>∃ v0_:Value,e = .returned (.tuple #[v0_,.int .i64 r2])∧Kd.R (Kd.int .u8) 5 w' w.heap.size (fun _=>True) v0_ r1∧Below w.heap.size w w':=by
 obtain ⟨k,hk⟩:=q07_PutG.val h
 exact q07_Put.calls k A0 c0 l0 A1_0 c1_0 l1_0 r1 r2 w hr0 hc0 hr1_0 hc1_0 hk
def eqC (x y:S96):Bool:=eqL eqS x.f0 y.f0 && eqL eqS x.f1 y.f1
theorem eqC_iff (x y:S96):eqC x y=true↔x=y:=by
 unfold eqC
 rw [Bool.and_eq_true,eqL_iff eqS_iff,eqL_iff eqS_iff]
 cases x;cases y;simp
def lenC (x:S96):Bool:=decide (x.f0.length≤9223372036854775807) && decide (x.f1.length≤9223372036854775807)
theorem same06_loop (a b:List S96) (hl:a.length≤9223372036854775807) (hab:a.length=b.length) (hla:a.all lenC=true):∀ (n i k:Nat),i+n=a.length→n < k→q06_Same.l0 k (i:Int) a b=some (eqL eqC (a.drop i) (b.drop i)):=by
 intro n
 induction n with
 | zero=>
  intro i k hi hk
  obtain ⟨k,rfl⟩:∃ m,k=m+1:=⟨k - 1,by omega⟩
  rw [q06_Same.l0,if_neg (by omega),List.drop_eq_nil_of_le (by omega),List.drop_eq_nil_of_le (by omega)];rfl
 | succ n ih=>
  intro i k hi hk
  obtain ⟨k,rfl⟩:∃ m,k=m+1:=⟨k - 1,by omega⟩
  have hx:=List.all_eq_true.1 hla _ (rdC_mem (l:=a) (i:=i) (by omega))
  unfold lenC at hx
  rw [Bool.and_eq_true,decide_eq_true_iff,decide_eq_true_iff] at hx
  have m1:q04_TextsG.f (rd_T96 a (i:Int)).f0 (rd_T96 b (i:Int)).f0=some (eqL eqS (rd_T96 a (i:Int)).f0 (rd_T96 b (i:Int)).f0):=if_pos hx.1
  have m2:q04_TextsG.f (rd_T96 a (i:Int)).f1 (rd_T96 b (i:Int)).f1=some (eqL eqS (rd_T96 a (i:Int)).f1 (rd_T96 b (i:Int)).f1):=if_pos hx.2
  rw [q06_Same.l0,if_pos (by omega),if_pos (by omega),if_pos (by omega),m1,m2,drop_rdC a i (by omega),drop_rdC b i (by omega),eqL]
  simp only [Option.bind_some]
  unfold eqC
  cases eqL eqS (rd_T96 a (i:Int)).f0 (rd_T96 b (i:Int)).f0 with
  | true=>
   cases eqL eqS (rd_T96 a (i:Int)).f1 (rd_T96 b (i:Int)).f1 with
   | true=>rw [if_pos rfl,if_pos rfl,succW i (by omega),ih (i+1) k (by omega) (by omega)];rfl
   | false=>rfl
  | false=>rfl
def q06_SameG.f (l0_0:List (S96)) (l1_0:List (S96)):Option (Bool):=if l0_0.length≤9223372036854775807∧l0_0.all lenC=true then some (eqL eqC l0_0 l1_0) else none
theorem q06_SameG.val {l0_0 l1_0:List (S96)} {r:Bool} (h:q06_SameG.f l0_0 l1_0=some r):∃ k,q06_Same.f k l0_0 l1_0=some r:=by
 unfold q06_SameG.f at h
 by_cases hc:l0_0.length≤9223372036854775807∧l0_0.all lenC=true
 ·rw [if_pos hc] at h
  rw [←h]
  refine ⟨l0_0.length+1,?_⟩
  unfold q06_Same.f
  by_cases hl:l0_0.length=l1_0.length
  ·rw [if_pos (by omega)]
   exact same06_loop l0_0 l1_0 hc.1 hl hc.2 l0_0.length 0 (l0_0.length+1) (by omega) (by omega)
  ·rw [if_neg (by omega),eqL_len _ _ hl]
 ·rw [if_neg hc] at h;cases h
theorem q06_SameG.calls (A0_0:Option Addr) (c0_0:Nat) (l0_0:List (S96)) (A1_0:Option Addr) (c1_0:Nat) (l1_0:List (S96)) (r:Bool) (w:World) (hr0_0:Kd.C k96 w A0_0 l0_0.length l0_0) (hc0_0:l0_0.length≤c0_0) (hr1_0:Kd.C k96 w A1_0 l1_0.length l1_0) (hc1_0:l1_0.length≤c1_0) (h:q06_SameG.f l0_0 l1_0=some r) :
  Calls Tryz.prog 28 #[.agg #[.slice A0_0 l0_0.length c0_0],.agg #[.slice A1_0 l1_0.length c1_0]] w fun e w'=>e = .returned (.bool r)∧Below w.heap.size w w':=by
 obtain ⟨k,hk⟩:=q06_SameG.val h
 exact q06_Same.calls k A0_0 c0_0 l0_0 A1_0 c1_0 l1_0 r w hr0_0 hc0_0 hr1_0 hc1_0 hk
def Wc (w0:World):Type:={W:World // Below w0.heap.size w0 W}
instance wcNonempty (w0:World):Nonempty (Wc w0):=⟨⟨w0,Below.refl _ _⟩⟩
theorem region_class {P:Program} {w0:World} {id:Nat} {Q:Exit→Act→World→Prop} {a:Act} {w:World} {l:List Oper} (hm:P.follows .mixedOrders=true) (hB:Region.lexB .any l.toArray=true) (hw:Below w0.heap.size w0 w)
  (h:wpQuiet P l.toArray (fun W=>∃ n:Wc w0,W=n.1) (fun a'=>∀ w',(∃ n:Wc w0,w'=n.1)→Q .normal a' w') l a):(Code.region id l.toArray true).wp P Q a w:=
 wp_region_quiet (C:=fun W=>∃ n:Wc w0,W=n.1) hm hB ⟨⟨_,hw.drew⟩,rfl⟩ (by simpa using h)
def eqT (x y:S34):Bool:=decide (x.f0=y.f0) && (decide (x.f1=y.f1) && (decide (x.f2=y.f2) && (decide (x.f3=y.f3) && (decide (x.f4=y.f4) && (eqE x.f5 y.f5 && eqL eqC x.f6.f0 y.f6.f0)))))
theorem eqT_iff (x y:S34):eqT x y=true↔x=y:=by
 unfold eqT
 simp only [Bool.and_eq_true,decide_eq_true_iff]
 rw [eqE_iff,eqL_iff eqC_iff]
 obtain ⟨x0,x1,x2,x3,x4,x5,⟨x6⟩⟩:=x
 obtain ⟨y0,y1,y2,y3,y4,y5,⟨y6⟩⟩:=y
 simp
theorem str_same (s:ByteArray):(s.toList == s.toList)=true:=by simp
theorem str_ne {s t:ByteArray} (h:s≠t):(s.toList == t.toList)=false:=by rw [str_beq'];exact decide_eq_false h
theorem str_nb {s t:ByteArray} (h:s≠t):(s.toList != t.toList)=true:=by unfold bne;rw [str_ne h];rfl
theorem eqT_step {x y:S34}:∀ {a b:List S34},eqL eqT (x :: a) (y :: b)=(eqT x y && eqL eqT a b):=rfl
def LenS (t:S34):Prop:=t.f5.f2.length≤1000000∧t.f5.f3.length≤1000000∧t.f6.f0.length≤1000000∧t.f6.f0.all lenC=true
set_option maxRecDepth 100000 in
set_option maxHeartbeats 8000000 in
theorem same_calls22 (A:Option Addr) (c:Nat) (l:List S34) (A':Option Addr) (c':Nat) (l':List S34) (w:World) (hC:Kd.C k34 w A l.length l) (hc:l.length≤c) (hC':Kd.C k34 w A' l'.length l') (hc':l'.length≤c') (hl:∀ t ∈ l,LenS t) (r:Bool) (hr:eqL eqT l l'=r) :
  Calls Tryz.prog 9 #[.slice A l.length c,.slice A' l'.length c'] w fun e w'=>e = .returned (.bool r)∧Below w.heap.size w w':=by
 have hm1:=Kd.C_max hC
 have hm2:=Kd.C_max hC'
 have HC:=Ak hC
 have HD:=Ak hC'
 have HL:=Ak hl
 have HR:=Ak hr
 clear hC hc hC' hc' hl hr
 have hu34:=Tryz.underlying34
 have hu29:=Tryz.underlying29
 have hu32:=Tryz.underlying32
 by_cases hln:l.length=l'.length
 case neg=>
  have hd:decide ((l.length:Int)=(l'.length:Int))=false:=decide_eq_false (by omega)
  have hr:=HR.out
  rw [eqL_len l l' hln] at hr
  subst hr
  clear HR HC HD HL
  go_enter Tryz.func9,Tryz.ntmps9
  go_wp2
  go_ret
  exact ⟨rfl,Below.refl _ _⟩
 have hd:decide ((l.length:Int)=(l'.length:Int))=true:=decide_eq_true (by omega)
 have HLN:=Ak hln
 go_enter Tryz.func9,Tryz.ntmps9
 go_upto_region 4 with (fail)
 clear hd hln
 go_loopg [5] l.length (fun gk v5 w'=>∃ i:Nat,v5 = .int .i64 (i:Int)∧Aside0 (i+gk=l.length)∧Aside0 (eqL eqT (l.drop i) (l'.drop i)=r)∧Aside0 (Below w.heap.size w w'))
 case atStart=>exact ⟨0,rfl,⟨by omega⟩,HR,⟨Below.refl _ _⟩⟩
 case round=>
  clear HR
  obtain ⟨i,rfl,HE,HR,HB⟩:=hrel
  by_cases hlt:i < l.length
  ·have hb1:decide ((i:Int) < (l.length:Int))=true:=decide_eq_true (by omega)
   have hlt':i < l'.length:=by have:=HLN.out;omega
   obtain ⟨ad,A7,c7,A8,c8,A9,c9,e_,hx0,hx1,hx2,hx3,hx4,hx5,hx6,hx7,hx8,hx9,l7,g7,l8,g8,l9,g9⟩:=at_T34 HC.out (i:Int) (by omega) (by omega)
   obtain ⟨bd,B7,d7,B8,d8,B9,d9,f_,hy0,hy1,hy2,hy3,hy4,hy5,hy6,hy7,hy8,hy9,m7,j7,m8,j8,m9,j9⟩:=at_T34 HD.out (i:Int) (by omega) (by omega)
   cases e_
   cases f_
   rw [Int.toNat_natCast] at hx0 hx1 hx2 hx3 hx4 hx5 hx6 hx7 hx8 hx9 hy0 hy1 hy2 hy3 hy4 hy5 hy6 hy7 hy8 hy9
   have hdr:=HR.out
   rw [drop_rdS l i hlt,drop_rdS l' i hlt',eqT_step] at hdr
   have hls:=HL.out _ (rdS_mem hlt)
   obtain ⟨x,hxd⟩:∃ x,x=rd_T34 l (i:Int):=⟨_,rfl⟩
   obtain ⟨y,hyd⟩:∃ y,y=rd_T34 l' (i:Int):=⟨_,rfl⟩
   rw [←hxd] at hx0 hx1 hx2 hx3 hx4 hx5 hx6 hx7 hx8 hx9 l7 g7 l8 g8 l9 g9 hdr hls
   rw [←hyd] at hy0 hy1 hy2 hy3 hy4 hy5 hy6 hy7 hy8 hy9 m7 j7 m8 j8 m9 j9 hdr
   clear hxd hyd HR
   obtain ⟨x0,x1,x2,x3,x4,⟨xs,xt,xg,xf⟩,⟨xq⟩⟩:=x
   obtain ⟨y0,y1,y2,y3,y4,⟨ys,yt,yg,yf⟩,⟨yq⟩⟩:=y
   simp only at hx0 hx1 hx2 hx3 hx4 hx5 hx6 hx7 hx8 hx9 hy0 hy1 hy2 hy3 hy4 hy5 hy6 hy7 hy8 hy9 l7 g7 l8 g8 l9 g9 m7 j7 m8 j8 m9 j9
   have HSC:=Ak (And.intro (And.intro g7 (And.intro l7 (And.intro g8 (And.intro l8 (And.intro g9 l9))))) (And.intro j7 (And.intro m7 (And.intro j8 (And.intro m8 (And.intro j9 m9))))))
   obtain ⟨v,hv⟩:∃ v,eqE ⟨xs,xt,xg,xf⟩ ⟨ys,yt,yg,yf⟩=v:=⟨_,rfl⟩
   obtain ⟨q,hq⟩:∃ q,eqL eqC xq yq=q:=⟨_,rfl⟩
   have HV:=Ak (show q04_SameG.f xs xt xg xf ys yt yg yf=some v by
    obtain ⟨z1,z2,z3,z4⟩:=hls
    simp only at z1 z2
    rw [←hv]
    exact if_pos ⟨by omega,by omega⟩)
   have HQ:=Ak (show q06_SameG.f xq yq=some q by
    obtain ⟨z1,z2,z3,z4⟩:=hls
    simp only at z3 z4
    rw [←hq]
    exact if_pos ⟨by omega,z4⟩)
   have HDR:Aside0 (((decide (x0=y0) && (decide (x1=y1) && (decide (x2=y2) && (decide (x3=y3) && (decide (x4=y4) && (v && q)))))) && eqL eqT (l.drop (i+1)) (l'.drop (i+1)))=r):=⟨by rw [←hdr,←hv,←hq];rfl⟩
   clear hdr hls hv hq l7 g7 l8 g8 l9 g9 m7 j7 m8 j8 m9 j9
   have hib:(i:Int) * 10≤92233720368547758070:=by omega
   have cx0:∀ n:Wc w,n.1.cell? _=_:=fun n=>pw_cell_below n.2 hx0
   have cx1:∀ n:Wc w,n.1.cell? _=_:=fun n=>pw_cell_below n.2 hx1
   have cx2:∀ n:Wc w,n.1.cell? _=_:=fun n=>pw_cell_below n.2 hx2
   have cx3:∀ n:Wc w,n.1.cell? _=_:=fun n=>pw_cell_below n.2 hx3
   have cx4:∀ n:Wc w,n.1.cell? _=_:=fun n=>pw_cell_below n.2 hx4
   have cx5:∀ n:Wc w,n.1.cell? _=_:=fun n=>pw_cell_below n.2 hx5
   have cx6:∀ n:Wc w,n.1.cell? _=_:=fun n=>pw_cell_below n.2 hx6
   have cx7:∀ n:Wc w,n.1.cell? _=_:=fun n=>pw_cell_below n.2 hx7
   have cx8:∀ n:Wc w,n.1.cell? _=_:=fun n=>pw_cell_below n.2 hx8
   have cx9:∀ n:Wc w,n.1.cell? _=_:=fun n=>pw_cell_below n.2 hx9
   have cy0:∀ n:Wc w,n.1.cell? _=_:=fun n=>pw_cell_below n.2 hy0
   have cy1:∀ n:Wc w,n.1.cell? _=_:=fun n=>pw_cell_below n.2 hy1
   have cy2:∀ n:Wc w,n.1.cell? _=_:=fun n=>pw_cell_below n.2 hy2
   have cy3:∀ n:Wc w,n.1.cell? _=_:=fun n=>pw_cell_below n.2 hy3
   have cy4:∀ n:Wc w,n.1.cell? _=_:=fun n=>pw_cell_below n.2 hy4
   have cy5:∀ n:Wc w,n.1.cell? _=_:=fun n=>pw_cell_below n.2 hy5
   have cy6:∀ n:Wc w,n.1.cell? _=_:=fun n=>pw_cell_below n.2 hy6
   have cy7:∀ n:Wc w,n.1.cell? _=_:=fun n=>pw_cell_below n.2 hy7
   have cy8:∀ n:Wc w,n.1.cell? _=_:=fun n=>pw_cell_below n.2 hy8
   have cy9:∀ n:Wc w,n.1.cell? _=_:=fun n=>pw_cell_below n.2 hy9
   clear hx0 hx1 hx2 hx3 hx4 hx5 hx6 hx7 hx8 hx9 hy0 hy1 hy2 hy3 hy4 hy5 hy6 hy7 hy8 hy9
   have HQV:Aside0 (∀ n:Wc w,Calls Tryz.prog 27 #[.agg #[.string xs,.string xt,.slice A7 xg.length c7,.slice A8 xf.length c8],.agg #[.string ys,.string yt,.slice B7 yg.length d7,.slice B8 yf.length d8]] n.1 fun e w''=>e = .returned (.bool v)∧∃ m:Wc w,w''=m.1):=⟨fun n=>by
    obtain ⟨⟨g7,l7,g8,l8,g9,l9⟩,⟨j7,m7,j8,m8,j9,m9⟩⟩:=HSC.out
    refine (q04_SameG.calls xs xt A7 c7 xg A8 c8 xf ys yt B7 d7 yg B8 d8 yf v n.1 (Kd.C_below g7 n.2) l7 (Kd.C_below g8 n.2) l8 (Kd.C_below j7 n.2) m7 (Kd.C_below j8 n.2) m8 HV.out).mono ?_
    rintro e w' ⟨rfl,hb⟩
    exact ⟨rfl,⟨w',below_step n.2 hb⟩,rfl⟩⟩
   have HQQ:Aside0 (∀ n:Wc w,Calls Tryz.prog 28 #[.agg #[.slice A9 xq.length c9],.agg #[.slice B9 yq.length d9]] n.1 fun e w''=>e = .returned (.bool q)∧∃ m:Wc w,w''=m.1):=⟨fun n=>by
    obtain ⟨⟨g7,l7,g8,l8,g9,l9⟩,⟨j7,m7,j8,m8,j9,m9⟩⟩:=HSC.out
    refine (q06_SameG.calls A9 c9 xq B9 d9 yq q n.1 (Kd.C_below g9 n.2) l9 (Kd.C_below j9 n.2) m9 HQ.out).mono ?_
    rintro e w' ⟨rfl,hb⟩
    exact ⟨rfl,⟨w',below_step n.2 hb⟩,rfl⟩⟩
   clear HSC HV HQ
   go_upto_region 6 with (fail)
   refine region_class (w0:=w) (by kernel_rfl) (by kernel_rfl) HB.out ?_
   repeat (go_big_quiet_step (exact HQV.out _))
   refine wpQuiet_nil ?_
   rintro w2 ⟨n1,hw2⟩
   have HB2:=Ak (show Below w.heap.size w w2 by rw [hw2];exact n1.2)
   clear hw2 n1 HQV HB
   go_upto_region 7 with (fail)
   refine region_class (w0:=w) (by kernel_rfl) (by kernel_rfl) HB2.out ?_
   repeat (go_big_quiet_step (exact HQQ.out _))
   refine wpQuiet_nil ?_
   rintro w3 ⟨n2,hw3⟩
   have HB3:=Ak (show Below w.heap.size w w3 by rw [hw3];exact n2.2)
   clear hw3 n2 HQQ HB2
   go_upto_region 8 with (fail)
   by_cases e0:x0=y0
   case neg=>
    have hd0:(x0 != y0)=true:=bne_iff_ne.mpr e0
    refine region_class (w0:=w) (by kernel_rfl) (by kernel_rfl) HB3.out ?_
    simp only [List.cons_append,List.nil_append,List.append_eq]
    repeat (go_big_quiet_step (fail))
    refine wpQuiet_nil ?_
    rintro w4 ⟨n3,hw4⟩
    have HB4:=Ak (show Below w.heap.size w w4 by rw [hw4];exact n3.2)
    clear hw4 n3 HB3
    obtain rfl:false=r:=by rw [←HDR.out];simp [e0]
    clear HDR
    go_wp2_with fail
    go_ret
    exact ⟨rfl,HB4.out⟩
   subst e0
   by_cases e1:x1=y1
   case neg=>
    have hd1:(x1 != y1)=true:=bne_iff_ne.mpr e1
    refine region_class (w0:=w) (by kernel_rfl) (by kernel_rfl) HB3.out ?_
    simp only [List.cons_append,List.nil_append,List.append_eq]
    repeat (go_big_quiet_step (fail))
    refine wpQuiet_nil ?_
    rintro w4 ⟨n3,hw4⟩
    have HB4:=Ak (show Below w.heap.size w w4 by rw [hw4];exact n3.2)
    clear hw4 n3 HB3
    obtain rfl:false=r:=by rw [←HDR.out];simp [e1]
    clear HDR
    go_wp2_with fail
    go_ret
    exact ⟨rfl,HB4.out⟩
   subst e1
   by_cases e2:x2=y2
   case neg=>
    have hd2:(x2 != y2)=true:=bne_iff_ne.mpr e2
    refine region_class (w0:=w) (by kernel_rfl) (by kernel_rfl) HB3.out ?_
    simp only [List.cons_append,List.nil_append,List.append_eq]
    repeat (go_big_quiet_step (fail))
    refine wpQuiet_nil ?_
    rintro w4 ⟨n3,hw4⟩
    have HB4:=Ak (show Below w.heap.size w w4 by rw [hw4];exact n3.2)
    clear hw4 n3 HB3
    obtain rfl:false=r:=by rw [←HDR.out];simp [e2]
    clear HDR
    go_wp2_with fail
    go_ret
    exact ⟨rfl,HB4.out⟩
   subst e2
   by_cases e3:x3=y3
   case neg=>
    have hd3:(x3 != y3)=true:=bne_iff_ne.mpr e3
    refine region_class (w0:=w) (by kernel_rfl) (by kernel_rfl) HB3.out ?_
    simp only [List.cons_append,List.nil_append,List.append_eq]
    repeat (go_big_quiet_step (fail))
    refine wpQuiet_nil ?_
    rintro w4 ⟨n3,hw4⟩
    have HB4:=Ak (show Below w.heap.size w w4 by rw [hw4];exact n3.2)
    clear hw4 n3 HB3
    obtain rfl:false=r:=by rw [←HDR.out];simp [e3]
    clear HDR
    go_wp2_with fail
    go_ret
    exact ⟨rfl,HB4.out⟩
   subst e3
   by_cases e4:x4=y4
   case neg=>
    have hd4:=str_ne e4
    have he4:=str_nb e4
    refine region_class (w0:=w) (by kernel_rfl) (by kernel_rfl) HB3.out ?_
    simp only [List.cons_append,List.nil_append,List.append_eq]
    repeat (go_big_quiet_step (fail))
    refine wpQuiet_nil ?_
    rintro w4 ⟨n3,hw4⟩
    have HB4:=Ak (show Below w.heap.size w w4 by rw [hw4];exact n3.2)
    clear hw4 n3 HB3
    obtain rfl:false=r:=by rw [←HDR.out];simp [e4]
    clear HDR
    go_wp2_with fail
    go_ret
    exact ⟨rfl,HB4.out⟩
   subst e4
   have hd4:=str_same x4
   have he4:(x4.toList != x4.toList)=false:=by unfold bne;rw [hd4];rfl
   cases v with
   | false=>
    refine region_class (w0:=w) (by kernel_rfl) (by kernel_rfl) HB3.out ?_
    simp only [List.cons_append,List.nil_append,List.append_eq]
    repeat (go_big_quiet_step (fail))
    refine wpQuiet_nil ?_
    rintro w4 ⟨n3,hw4⟩
    have HB4:=Ak (show Below w.heap.size w w4 by rw [hw4];exact n3.2)
    clear hw4 n3 HB3
    obtain rfl:false=r:=by rw [←HDR.out];simp
    clear HDR
    go_wp2_with fail
    go_ret
    exact ⟨rfl,HB4.out⟩
   | true=>
    cases q with
    | false=>
     refine region_class (w0:=w) (by kernel_rfl) (by kernel_rfl) HB3.out ?_
     simp only [List.cons_append,List.nil_append,List.append_eq]
     repeat (go_big_quiet_step (fail))
     refine wpQuiet_nil ?_
     rintro w4 ⟨n3,hw4⟩
     have HB4:=Ak (show Below w.heap.size w w4 by rw [hw4];exact n3.2)
     clear hw4 n3 HB3
     obtain rfl:false=r:=by rw [←HDR.out];simp
     clear HDR
     go_wp2_with fail
     go_ret
     exact ⟨rfl,HB4.out⟩
    | true=>
     refine region_class (w0:=w) (by kernel_rfl) (by kernel_rfl) HB3.out ?_
     simp only [List.cons_append,List.nil_append,List.append_eq]
     repeat (go_big_quiet_step (fail))
     refine wpQuiet_nil ?_
     rintro w4 ⟨n3,hw4⟩
     have HB4:=Ak (show Below w.heap.size w w4 by rw [hw4];exact n3.2)
     clear hw4 n3 HB3
     have HR2:Aside0 (eqL eqT (l.drop (i+1)) (l'.drop (i+1))=r):=⟨by have:=HDR.out;simpa using this⟩
     clear HDR
     go_wp2_with fail
     go_roundg (l.length - (i+1))
     case measure=>have:=HE.out;omega
     case rel=>exact ⟨i+1,by go_num,⟨by have:=HE.out;omega⟩,HR2,HB4⟩
  ·have hb1:decide ((i:Int) < (l.length:Int))=false:=decide_eq_false (by omega)
   have hr:=HR.out
   rw [List.drop_eq_nil_of_le (by omega),List.drop_eq_nil_of_le (by have:=HLN.out;omega)] at hr
   obtain rfl:true=r:=hr
   clear HR
   go_wp2_with fail
   go_ret
   exact ⟨rfl,HB.out⟩
def Fw (ro:Option Nat):Fence:={ Fence.wide with round:=ro }
theorem Fw_calls {ro:Option Nat} {n:Nat} {P:Program} {f:FuncId} {args:Array Value} {w:World} {R:Ending→World→Prop} (h:Calls P f args w R):CallsIn (Fw ro) n P f args w R:=by
 cases ro with
 | none=>exact callsIn_wide.2 h
 | some l=>exact CallsIn.inRound l (callsIn_wide.2 h)
section
variable {P : Program} {ops : Array Oper} {C : World → Prop} {ro : Option Nat} {n : Nat}
theorem quiet_wpIn {o:Oper} {a:Act} {K:Act→Prop} {K':Act→World→Prop} {Q':Exit→Act→World→Prop} {w:World} (hs:∀ c,o.op ≠ .defer c) (hw:C w) (h:∀ a w',C w'→K a→K' a w') (hh:o.quiet P a C K):o.wpIn (Fw ro) n P a w K' Q':=by
 obtain ⟨v,h1,h2⟩:=hh
 have h3:=h1 w hw
 unfold Oper.quietAt at h3
 refine ⟨fun _ _=>trivial,?_⟩
 rw [show (Fw ro).round=ro from rfl,Oper.semAt_eq ro a.eval o hs]
 generalize (execOp a.eval o).run P w=r at *
 cases r with
 | ok nx w'=>
  cases nx <;> simp only [Oper.quietUpon] at h3 <;> simp only [Oper.uponIn]
  case value u=>
   obtain ⟨e1,e2⟩:=h3
   rw [e1,e2]
   exact h _ _ hw h2
  case skip=>
   obtain ⟨e1,e2⟩:=h3
   rw [e1,←e2]
   exact h _ _ hw h2
  case enter f args=>
   obtain ⟨e1,hc⟩:=h3
   rw [e1]
   refine ⟨fun hd=>(by cases hd),(Fw_calls hc).mono fun e w'' ⟨he,hw''⟩=>?_⟩
   subst he
   exact h _ _ hw'' h2
 | halt x w'=>simp only [Oper.quietUpon] at h3
theorem qOp_wpIn {i:Nat} {a:Act} {K:Act→Prop} {K':Act→World→Prop} {Q':Exit→Act→World→Prop} {w:World} (hs:∀ o ∈ ops.toList,∀ c,o.op ≠ .defer c) (hC:C w) (h:∀ a w',C w'→K a→K' a w') (hh:qOp P ops C i K a):wpOpIn (Fw ro) n P ops Q' i K' a w:=by
 unfold qOp at hh
 unfold wpOpIn
 split
 ·rename_i ho;simp only [ho] at hh;exact h _ _ hC hh
 ·rename_i o ho
  simp only [ho] at hh
  split
  ·rename_i hw;simp only [hw,if_true] at hh;exact quiet_wpIn (hs o (Array.mem_toList_iff.2 (Array.mem_of_getElem? ho))) hC h hh
  ·rename_i hw;simp only [hw] at hh;exact ⟨fun _ _=>trivial,h _ _ hC hh⟩
theorem wpAnyIn_of_quiet {md:Region.Mode} {Q:Act→Prop} {Q':Exit→Act→World→Prop} (hs:∀ o ∈ ops.toList,∀ c,o.op ≠ .defer c) (hQ:∀ a w,C w→Q a→Q' .normal a w):∀ (fuel:Nat) (listed:Array Bool) (a:Act) (w:World),C w →
  wpAnyQ P md ops C Q fuel listed a→wpAnyIn (Fw ro) n P md ops Q' fuel listed a w
 | 0,_,_,_,hw,h=>⟨h.1,hQ _ _ hw h.2⟩
 | fuel+1,_,_,_,hw,h=>⟨fun h0=>hQ _ _ hw (h.1 h0),fun i hi=>qOp_wpIn hs hw (fun a' w' hw'=>wpAnyIn_of_quiet hs hQ fuel _ a' w' hw') (h.2 i hi)⟩
theorem region_classIn {w0:World} {id:Nat} {Q:Exit→Act→World→Prop} {a:Act} {w:World} {l:List Oper} (hm:P.follows .mixedOrders=true) (hB:Region.lexB .any l.toArray=true) (hs:∀ o ∈ l,∀ c,o.op ≠ .defer c) (hw:Below w0.heap.size w0 w)
  (h:wpQuiet P l.toArray (fun W=>∃ n:Wc w0,W=n.1) (fun a'=>∀ w',(∃ n:Wc w0,w'=n.1)→Q .normal a' w') l a):(Code.region id l.toArray true).wpIn (Fw ro) n P Q a w:=by
 have hB':=hB
 simp only [Region.lexB,Bool.and_eq_true] at hB
 refine wpIn_region_any hm (wpAnyIn_of_quiet (C:=fun W=>∃ n:Wc w0,W=n.1) (Q:=fun a'=>∀ w',(∃ n:Wc w0,w'=n.1)→Q .normal a' w') (by simpa using hs) (fun _ w' hw' h=>h w' hw') _ _ _ _ ⟨⟨_,hw.drew⟩,rfl⟩ ?_)
 have:=wpAnyQ_lex (C:=fun W=>∃ n:Wc w0,W=n.1) (md:=.any) hB.1 l 0 (Array.replicate l.toArray.size false) a (by simp) (by simpa using hB.2) h
 simpa using this
end
set_option maxRecDepth 100000 in
theorem chunk_calls (A:Option Addr) (n c:Nat) (w:World) :
  Calls Tryz.prog 72 #[.slice A n c,.int .i64 2] w fun e w'=>∃ g h,e = .returned (.func (.func 99) #[] #[.pointer (some ⟨g,0,none⟩),.pointer (some ⟨h,0,none⟩)])∧w'.heap[g]? = some (.cells #[.slice A n c] 23 (0,0))∧w'.heap[h]? = some (.cells #[.int .i64 2] 3 (0,0))∧w.heap.size≤g∧w.heap.size≤h∧Below w.heap.size w w':=by
 go_enter Tryz.func72,Tryz.ntmps72
 go_upto_region 1 with (first | ((with_reducible refine gate_dst (N:=2) rfl ?_);(try (refine gate_guard (by rfl) ?_;dsimp only));refine box_event ?hg (N:=2) ?hd (cs:=#[.slice A n c]) (t:=23) ?hr ?_;(case hd=>rfl);(case hg=>rfl);(case hr=>(go_simp;done));intro X hg_ w1 hbox_ hb_;have HX:=Ak hbox_;have HXN:=Ak hg_;have HXB:=Ak hb_;clear hbox_ hg_ hb_) | ((with_reducible refine gate_dst (N:=3) rfl ?_);(try (refine gate_guard (by rfl) ?_;dsimp only));refine box_event ?hg (N:=3) ?hd (cs:=#[.int .i64 2]) (t:=3) ?hr ?_;(case hd=>rfl);(case hg=>rfl);(case hr=>(go_simp;done));intro Y hg_ w2 hbox_ hb_;have HY:=Ak hbox_;have HYN:=Ak hg_;have HYB:=Ak hb_;clear hbox_ hg_ hb_;have hy0:=blk_cell HY.out 0;have hf0:=blk_frozen HY.out 0))
 go_wp2
 go_ret
 exact ⟨X,Y,rfl,blk_below HX.out HYB.out,HY.out,by rw [HXN.out];exact Nat.le_refl _,by rw [HYN.out];exact HXB.out.size,below_step HXB.out HYB.out⟩
end Go.Proofs.YtocpcnmnhckcpaaGreat.Prt
namespace Go.Proofs.YtocpcnmnhckcpaaGreat.Prt
open RowKit YtocpcnmnhckcpaaGreatW.PrintWords YtocpcnmnhckcpaaGreatW.PrintLast YtocpcnmnhckcpaaGreatW.PrintMore YtocpcnmnhckcpaaGreat.Num YtocpcnmnhckcpaaGreat.Nam Go.Shelf
theorem Fw_round (ro:Option Nat):(Fw ro).round=ro:=rfl
theorem Fw_depth (ro:Option Nat):(Fw ro).depth=none:=rfl
theorem Fw_fn (ro:Option Nat) (f:FuncId):(Fw ro).fn f=True:=rfl
attribute [local go_sem] Oper.semAt_some Fw_round Fw_depth Fw_fn
def pieceV (ad:Addr) (m:Nat) (k:Nat):Value:=.slice (some (ad.add (2 * min k (m - 1)))) 2 2
def Kc (Bs Bn:Nat) (A B:World):Prop:=B.heap[Bs]? = A.heap[Bs]? ∧ B.heap[Bn]? = A.heap[Bn]?
theorem Kc.trans {Bs Bn:Nat} {A B C:World} (h:Kc Bs Bn A B) (k:Kc Bs Bn B C):Kc Bs Bn A C:=⟨k.1.trans h.1,k.2.trans h.2⟩
theorem Kc.of_below {Bs Bn:Nat} {A B:World} (h:Below A.heap.size A B) (h1:Bs < A.heap.size) (h2:Bn < A.heap.size):Kc Bs Bn A B:=⟨h.block Bs h1,h.block Bn h2⟩
set_option maxRecDepth 100000 in
set_option maxHeartbeats 4000000 in
theorem chunk1_in (n:Nat) (l Bs Bn:Nat) (ad:Addr) (m c:Nat) (hm:2 * m≤1000000000) (hmc:2 * m≤c) (J Jx:List Nat→World→Prop)
  (hY:∀ pre x W,J pre W→pre.length < m→YieldAt (Fw none) (n - 1) Tryz.prog l #[pieceV ad m x] W fun e W'=>
   (e = .returned (.bool true)∧J (pre++[x]) W'∧Kc Bs Bn W W')∨(e = .returned (.bool false)∧Jx (pre++[x]) W'))
  (hJd:∀ pre W W',J pre W→Below W.heap.size W W'→J pre W')
  (W:World) (hs:W.heap[Bs]? = some (.cells #[.slice (some ad) (2 * m) c] 23 (0,0))) (hn:W.heap[Bn]? = some (.cells #[.int .i64 2] 3 (0,0))) (h0:J [] W) :
  CallsIn (Fw none) n Tryz.prog 99 #[.func (.yield l) #[] #[],.pointer (some ⟨Bs,0,none⟩),.pointer (some ⟨Bn,0,none⟩)] W fun e W'=>(∃ v,e = .returned v) ∧
   ((∃ ys,ys=List.range m∧J ys W')∨(∃ pre,(∃ k,k≤m∧pre=List.range k)∧Jx pre W')):=by
 refine callsIn_of_wp Tryz.func99 rfl trivial ?_ rfl
 simp only [Tryz.ntmps99,List.size_toArray,List.length_cons,List.length_nil,Nat.reduceAdd,Nat.reduceSub,Array.replicate_succ,Array.replicate_zero,List.push_toArray,List.append_toArray,List.nil_append,List.cons_append]
 gi_wp2
 gi_loopw [4] (fun i wr=>∃ k:Nat,k≤m∧i = .int .i64 ((2 * k:Nat):Int)∧J (List.range k) wr∧Kc Bs Bn W wr)
  (fun i _=>2 * m - (intOf i).toNat)
 case atStart=>exact ⟨0,Nat.zero_le _,rfl,h0,rfl,rfl⟩
 case round=>
  obtain ⟨k,hk,rfl,hJs,hnx⟩:=hrel
  have hs1:=blk_cell (hnx.1.trans hs) 0
  have hn1:=blk_cell (hnx.2.trans hn) 0
  by_cases hlt:k < m
  ·have hb1:decide (((2 * k:Nat):Int) < ((2 * m:Nat):Int))=true:=decide_eq_true (by omega)
   gi_wp2
   have q1:∀ q:Wc wr,q.1.cell? ⟨Bs,0,none⟩=some (.slice (some ad) (2 * m) c):=fun q=>pw_cell_below q.2 (hs1.trans rfl)
   have q2:∀ q:Wc wr,q.1.cell? ⟨Bn,0,none⟩=some (.int .i64 2):=fun q=>pw_cell_below q.2 (hn1.trans rfl)
   refine region_classIn (w0:=wr) (by kernel_rfl) (by kernel_rfl) (by simp) (Below.refl _ _) ?_
   repeat (go_big_quiet_step (fail))
   have e2:min (2:Int) ((2 * m - 2 * k:Nat):Int)=2:=by omega
   rw [e2]
   refine wpQuiet_nil ?_
   rintro w3 ⟨q,hw3⟩
   have hB3:Below wr.heap.size wr w3:=by rw [hw3];exact q.2
   have hs3:w3.cell? ⟨Bs,0,none⟩=some (.slice (some ad) (2 * m) c):=pw_cell_below hB3 (hs1.trans rfl)
   have hn3:w3.cell? ⟨Bn,0,none⟩=some (.int .i64 2):=pw_cell_below hB3 (hn1.trans rfl)
   have hJ3:=hJd _ _ _ hJs hB3
   have hnx3:Kc Bs Bn W w3:=hnx.trans (Kc.of_below hB3 (blk_lt (hnx.1.trans hs)) (blk_lt (hnx.2.trans hn)))
   clear q1 q2 hw3 q hB3 hs1 hn1 hJs hnx e2
   obtain ⟨fn,tmps,assign,body,hy,hR⟩:=hY (List.range k) k w3 hJ3 (by rw [List.length_range];exact hlt)
   unfold pieceV at hy
   rw [show min k (m - 1)=k by omega] at hy
   gi_wp2
   refine hR.mono ?_
   rintro e W3 (⟨rfl,hJ4,hk4⟩ | ⟨rfl,hJx4⟩)
   ·have hs4:=blk_cell ((hnx3.trans hk4).1.trans hs) 0
    have hn4:=blk_cell ((hnx3.trans hk4).2.trans hn) 0
    gi_wp2
    go_roundw
    case rel=>exact ⟨k+1,by omega,by go_num,by rw [List.range_succ];exact hJ4,hnx3.trans hk4⟩
    case measure=>simp [intOf];omega
   ·gi_wp2
    refine bodyPost_ret (results_none rfl _ _ _) rfl ?_
    exact ⟨⟨_,rfl⟩,.inr ⟨_,⟨k+1,by omega,(List.range_succ).symm⟩,hJx4⟩⟩
  ·obtain rfl:k=m:=by omega
   have hb1:decide (((2 * k:Nat):Int) < ((2 * k:Nat):Int))=false:=decide_eq_false (by omega)
   gi_wp2
   go_end0
   exact ⟨⟨_,rfl⟩,.inl ⟨_,rfl,hJs⟩⟩
theorem chunk1_nil (n:Nat) (l Bs Bn:Nat) (A:Option Addr) (c:Nat) (J:List Nat→World→Prop) (W:World) (hs:W.heap[Bs]? = some (.cells #[.slice A 0 c] 23 (0,0))) (h0:J [] W) :
  CallsIn (Fw none) n Tryz.prog 99 #[.func (.yield l) #[] #[],.pointer (some ⟨Bs,0,none⟩),.pointer (some ⟨Bn,0,none⟩)] W fun e W'=>(∃ v,e = .returned v)∧J [] W':=by
 refine callsIn_of_wp Tryz.func99 rfl trivial ?_ rfl
 simp only [Tryz.ntmps99,List.size_toArray,List.length_cons,List.length_nil,Nat.reduceAdd,Nat.reduceSub,Array.replicate_succ,Array.replicate_zero,List.push_toArray,List.append_toArray,List.nil_append,List.cons_append]
 gi_wp2
 gi_loopw [4] (fun i wr=>i = .int .i64 0∧J [] wr∧wr.heap[Bs]? = some (.cells #[.slice A 0 c] 23 (0,0))) (fun _ _=>0)
 case atStart=>exact ⟨rfl,h0,hs⟩
 case round=>
  obtain ⟨rfl,hJs,hs1⟩:=hrel
  have hs2:=blk_cell hs1 0
  gi_wp2
  go_end0
  exact ⟨⟨_,rfl⟩,hJs⟩
theorem chunk_stops (n:Nat) (Bs Bn:Nat) (A:Option Addr) (ad:Addr) (m c:Nat) (hA:0 < m→A=some ad) (hm:2 * m≤1000000000) (hmc:2 * m≤c) (w:World) (hs:w.heap[Bs]? = some (.cells #[.slice A (2 * m) c] 23 (0,0))) (hn:w.heap[Bn]? = some (.cells #[.int .i64 2] 3 (0,0))) :
  SeqStopsK (Fw none) n Tryz.prog 99 #[.pointer (some ⟨Bs,0,none⟩),.pointer (some ⟨Bn,0,none⟩)] (fun k:Nat=>#[pieceV ad m k]) (Kc Bs Bn) (fun ys=>ys=List.range m) (fun pre=>∃ k,k≤m∧pre=List.range k) m w:=fun l J Jx W hW hJ hJx hY h0=>by
 have hs':=(hW.block Bs (blk_lt hs)).trans hs
 have hn':=(hW.block Bn (blk_lt hn)).trans hn
 by_cases hm0:m=0
 ·subst hm0
  refine (chunk1_nil n l Bs Bn A c J W hs' h0).mono ?_
  rintro e W' ⟨he,hj⟩
  exact ⟨he,.inl ⟨[],rfl,hj⟩⟩
 ·have hA':=hA (by omega)
  subst hA'
  refine (chunk1_in n l Bs Bn ad m c hm hmc J Jx hY (fun pre A1 A2 hj hb=>hJ pre A1 A2 none hj ⟨hb.os,hb.tape,hb.output,hb.size,fun k hk _=>hb.block k hk⟩ (fun _ e=>by cases e)) W hs' hn' h0).mono ?_
  rintro e W' ⟨he,⟨ys,rfl,hj⟩ | ⟨pre,hp,hj⟩⟩
  ·exact ⟨he,.inl ⟨_,rfl,hj⟩⟩
  ·exact ⟨he,.inr ⟨_,hp,hj⟩⟩
end Go.Proofs.YtocpcnmnhckcpaaGreat.Prt
namespace Go.Proofs.YtocpcnmnhckcpaaGreat.Prt
open RowKit YtocpcnmnhckcpaaGreatW.PrintWords YtocpcnmnhckcpaaGreatW.PrintLast YtocpcnmnhckcpaaGreatW.PrintMore YtocpcnmnhckcpaaGreat.Num YtocpcnmnhckcpaaGreat.Nam
theorem info_step:(Tryz.prog.info? 34).map (fun i=>(i.zero,i.size,i.bytes))=some (some (.agg #[.int .i64 0,.int .i64 0,.int .i64 0,.int .i64 0,.string ⟨#[]⟩,.string ⟨#[]⟩,.string ⟨#[]⟩,.slice none 0 0,.slice none 0 0,.slice none 0 0]),10,152):=by kernel_rfl
def stepOne (k s:Int):S34:=⟨k,s,0,0,⟨#[]⟩,z29,⟨[]⟩⟩
theorem enc_small {x:Int} (h0:0≤x) (h1:x < 64):enc x=[2 * x]:=by
 unfold enc
 have hz:zz x=(2 * x).toNat:=by unfold zz;rw [if_neg (by omega)]
 rw [hz,encN_lt (by omega)]
 congr 1;omega
theorem encS_one {k s:Int} (hk0:0≤k) (hk:k < 64) (hs0:0≤s) (hs:s < 64):encS (stepOne k s)=[2 * k,2 * s,0,0,0,0,0]:=by
 have hv:encV (stepOne k s).f5=enc 0:=by unfold encV;rw [if_pos ((noV_iff (stepOne k s).f5).2 rfl)]
 have hw:encW (stepOne k s).f6.f0=enc 0:=rfl
 have h0:enc 0=[0]:=by rw [enc_small (by decide) (by decide)];rfl
 have ht:encT (bytesOf (stepOne k s).f4)=[0]:=by
  show enc ((bytesOf (⟨#[]⟩:ByteArray)).length:Int)++bytesOf (⟨#[]⟩:ByteArray)=[0]
  have e:bytesOf (⟨#[]⟩:ByteArray)=[]:=rfl
  rw [e];show enc 0++[]=[0];rw [h0];rfl
 unfold encS encK
 rw [hv,hw,ht]
 show enc k++(enc s++(enc 0++(enc 0++[0])))++(enc 0++enc 0)=_
 rw [h0,enc_small hk0 hk,enc_small hs0 hs]
 rfl
theorem i64_zero:i64 0:=⟨by decide,by decide⟩
theorem okS_one {k s:Int} (hk:i64 k) (hs:i64 s):OkS (stepOne k s):=⟨hk,hs,i64_zero,i64_zero,Nat.zero_le _,mayV_zero,rfl⟩
theorem fitS_one {k s:Int} (hk:i64 k) (hs:i64 s):FitS (stepOne k s):=⟨hk,hs,i64_zero,i64_zero,Nat.zero_le _,Nat.zero_le _,rfl,rfl⟩
theorem print_one:printS [stepOne 1 1]=([48,50,48,50,48,48,48,48,48,48,48,48,48,48,10],0):=by
 have hok:=okS_one (k:=1) (s:=1) ⟨by decide,by decide⟩ ⟨by decide,by decide⟩
 have hf:firstS [stepOne 1 1]=0:=firstS_zero.2 (fun t ht=>by rw [List.mem_singleton.1 ht,putS_ok hok.hv hok.hq])
 unfold printS
 rw [if_neg (by decide),if_neg (fun h=>h hf)]
 congr 1
 unfold printL lineT
 rw [List.flatMap_cons,encS_one (by decide) (by decide) (by decide) (by decide)]
 rfl
theorem FK_one {w:World} {k s:Int}:Kd.FK k34 w (fun _=>False) (stepOne k s) [.int .i64 k,.int .i64 s,.int .i64 0,.int .i64 0,.string ⟨#[]⟩,.string ⟨#[]⟩,.string ⟨#[]⟩,.slice none 0 0,.slice none 0 0,.slice none 0 0]:=
 fun W' hW=>k34_mk W' (stepOne k s) (A7:=none) (c7:=0) (Nat.zero_le _) (Kd.C_nil _ _) (A8:=none) (c8:=0) (Nat.zero_le _) (Kd.C_nil _ _) (A9:=none) (c9:=0) (Nat.zero_le _) (Kd.C_nil _ _)
set_option maxRecDepth 100000 in
theorem shown_calls22 (w:World):Calls Tryz.prog 5 #[] w fun e w'=>e = .returned (.bool true)∧Below w.heap.size w w':=by
 have hu34:=Tryz.underlying34
 go_enter Tryz.func5,Tryz.ntmps5
 go_wp2_with (((with_reducible refine gate_dst (N:=5) rfl ?_);refine Kd.N_lit k34 (w0:=w) w.heap.size 34 ?hg (N':=5) ?hd (xs:=[stepOne 1 1]) (inner:=[.int .i64 1,.int .i64 1,.int .i64 0,.int .i64 0,.string ⟨#[]⟩,.string ⟨#[]⟩,.string ⟨#[]⟩,.slice none 0 0,.slice none 0 0,.slice none 0 0]) (ok:=fun _=>True) (okp:=fun _=>False) ?hr ?hp (fun _ hk=>hk.elim) trivial (Below.refl _ _) (Nat.le_refl _) (by simp) ?_;(case hd=>rfl);(case hg=>rfl);(case hr=>(go_simp;done));(case hp=>exact Reps.snoc (Reps.none _ _) FK_one rfl);intro v5 w5 ho hb hg hat;obtain ⟨A5,c5,e5,hc5,hC5⟩:=Kd.N_reads ho;subst e5;have HC5:=Ak (And.intro hc5 hC5);have HB5:=Ak hb;clear ho hb hg hat hc5 hC5))
 have HPC:=Ak (print_calls22 A5 c5 [stepOne 1 1] w5 HC5.out.2 HC5.out.1 (fun t ht=>by rw [List.mem_singleton.1 ht];exact ⟨fitS_one ⟨by decide,by decide⟩ ⟨by decide,by decide⟩,Nat.zero_le _⟩) _ _ print_one)
 refine HPC.out.mono ?_
 rintro e w6 ⟨rfl,hb⟩
 have HB6:=Ak (below_step HB5.out hb)
 clear hb HPC HC5
 have hs:(strOfNums [48,50,48,50,48,48,48,48,48,48,48,48,48,48,10]).toList=[48,50,48,50,48,48,48,48,48,48,48,48,48,48,10]:=by rw [strOfNums_toList];rfl
 go_wp2
 go_ret
 exact ⟨rfl,HB6.out⟩
theorem eqT_self (l:List S34):eqL eqT l l=true:=(eqL_iff eqT_iff l l).2 rfl
end Go.Proofs.YtocpcnmnhckcpaaGreat.Prt
