/- script.line: its walk. strings.Cut at an end of a line; ends of lines counted. script.Parse: its walk. registrarlaw22.few, with the blocks that its rows lead to. What the laws of scripts need in plain words; elements of a row read with what they lead to. Scripts joined: plain laws. Functions of the program, told as plain functions, with their walks: written by a program of this claim's out of the translation. The reference of scripts: what its printed parts compute. What stands in memory while the reference takes an event. What the reference's Take finds is what Take finds: plain laws. registrarref05.Take walked. Queries that the reference takes, of plain functions: as the program takes them. The reference's taken: its walk. -/
import Derived.Test.YtocpcnmnhckcpaaGreatYScriptParses1
import Derived.Test.YtocpcnmnhckcpaaGreatYScriptParses2
import Derived.Test.YtocpcnmnhckcpaaGreatYScriptParses3
import Derived.Test.YtocpcnmnhckcpaaGreatYScriptParses4
import Derived.Test.YtocpcnmnhckcpaaGreatYScriptParses5
set_option linter.unusedVariables false
set_option linter.unusedSimpArgs false
namespace Go.Proofs.YtocpcnmnhckcpaaGreat.Prt
open RowKit YtocpcnmnhckcpaaGreatW.PrintWords YtocpcnmnhckcpaaGreatW.PrintLast YtocpcnmnhckcpaaGreatW.PrintMore YtocpcnmnhckcpaaGreat.Num YtocpcnmnhckcpaaGreat.Nam Go.Shelf
attribute [local go_sem] Oper.semAt_some Fw_round Fw_depth Fw_fn
section
variable {P : Program} {ops : Array Oper} {ro : Option Nat} {n : Nat} {Q : Exit → Act → World → Prop}
theorem rowsIn_of {row:String} {args:Array Value} {w:World} {R:Value→World→Prop} (h:Rows P row args w R):RowsIn (Fw ro) n P row args w R:=fun c cs _=>
 let ⟨v,w',r,s⟩:=h c cs;⟨v,w',r,stepsIn_wide.2 s⟩
theorem oper_unfenced {o:Oper} {a:Act} {w:World} {K:Act→World→Prop} (hs:∀ c,o.op ≠ .defer c) (h:o.wp P a w K Q):o.wpIn (Fw ro) n P a w K Q:=by
 refine ⟨fun _ _=>trivial,?_⟩
 unfold Oper.wp at h
 rw [show (Fw ro).round=ro from rfl,Oper.semAt_eq ro a.eval o hs]
 generalize (execOp a.eval o).run P w=r at *
 cases r with
 | ok nx w'=>
  cases nx <;> simp only [Oper.upon] at h <;> simp only [Oper.uponIn]
  case value u=>exact h
  case skip=>exact h
  case defer d=>exact h
  case enter f args=>exact ⟨fun hd=>(by cases hd),Fw_calls h⟩
  case row row args=>exact ⟨fun hd=>(by cases hd),rowsIn_of h⟩
 | halt x w'=>cases x <;> simp only [Oper.upon] at h <;> simp only [Oper.uponIn] <;> exact h
theorem list_unfenced (hq:¬LetsOut Q):∀ (l:List Oper),(∀ o ∈ l,∀ c,o.op ≠ .defer c)→∀ a w,wpList P ops Q l a w→wpListIn (Fw ro) n P ops Q l a w
 | [],_,a,w,h=>h
 | o :: rest,hs,a,w,h=>by
  unfold wpList at h
  unfold wpListIn
  by_cases hw:Region.wanted o (yielded ops a.tmps)=true
  ·rw [if_pos hw] at h ⊢
   have h2:o.wp P a w (wpListIn (Fw ro) n P ops Q rest) Q:=Oper.wp_mono (fun a w hk=>list_unfenced hq rest (fun o ho=>hs o (by simp [ho])) a w hk) (h.resolve_right fun h2=>hq h2.2)
   exact oper_unfenced (hs o (by simp)) h2
  ·rw [if_neg hw] at h ⊢
   exact ⟨fun _ _=>trivial,list_unfenced hq rest (fun o ho=>hs o (by simp [ho])) _ _ h⟩
theorem region_unfenced {id:Nat} {l:List Oper} {a:Act} {w:World} (hs:∀ o ∈ l,∀ c,o.op ≠ .defer c) (hq:¬LetsOut Q) (h:wpList P l.toArray Q l a w):(Code.region id l.toArray false).wpIn (Fw ro) n P Q a w:=
 wpIn_region_lit (list_unfenced hq l hs a w h)
end
theorem ev_bytesN {P:Program} {ops:Array Oper} {rest:List Oper} {o:Oper} {a:Act} {Q:Exit→Act→World→Prop} {W:World} (hgd:o.guard=none) (src dst e:TypeId) (x:Operand) (ho:o.op = .convert src dst x) (hs:P.underlying src=some .string) (hd:P.underlying dst=some (.slice e)) (he:P.underlying e=some (.int .u8))
  (s:ByteArray) (hx:a.eval x = .string s) (hn:s.size≤9223372036854775807)
  (h:∀ g c w1,g=W.heap.size→Kd.C (Kd.int .u8) w1 (some ⟨g,0,none⟩) s.size (bytesOf s)→s.size≤c→Below W.heap.size W w1→wpList P ops Q rest (a.put o.dst (.slice (some ⟨g,0,none⟩) s.size c)) w1) :
  wpList P ops Q (o :: rest) a W:=by
 refine Kd.event_run hgd (v:=.slice (some ⟨W.heap.size,0,none⟩) s.size (grownCap W s.size 0 e)) (w1:=Lib.bytesWorld W e s) ?_ (h _ _ _ rfl (Kd.C_of_reads (d:=(0:Int)) (h1:=fun _=>rfl) (bytes_reads W e s hn)) ?_ (bytes_below (Below.refl _ _) (Nat.le_refl _) e s))
 ·have hr:=print_bytes (P:=P) src dst e hs hd he s W
  simp [execOp,ho,hx,hr]
 ·exact grownCap_ge W s.size 0 e
theorem ix_digit:∀ k:Fin 256,Lib.indexByte (⟨#[48,49,50,51,52,53,54,55,56,57,97,98,99,100,101,102]⟩:ByteArray).data.toList (k.val:Int).toNat.toUInt8=undig (k.val:Int):=by decide +kernel
theorem ix_dig {c:Int} (h0:0≤c) (h1:c < 256):Lib.indexByte (⟨#[48,49,50,51,52,53,54,55,56,57,97,98,99,100,101,102]⟩:ByteArray).data.toList c.toNat.toUInt8=undig c:=by
 obtain ⟨k,rfl⟩:=Int.eq_ofNat_of_zero_le h0
 exact ix_digit ⟨k,by omega⟩
structure LnI (w:World) (Z E B M:Nat) (ad:Addr) (bs:List Int) (m:Nat) (pre:List Nat) (W:World):Prop where
 hZ:W.heap[Z]? = some (.cells #[.int .i64 0,.int .i64 0,.int .i64 0,.int .i64 0,.string ⟨#[]⟩,.string ⟨#[]⟩,.string ⟨#[]⟩,.slice none 0 0,.slice none 0 0,.slice none 0 0] 34 (0,0))
 hE:W.heap[E]? = some (.cells #[.int .i64 0] 35 (0,0))
 hB:∃ v,W.heap[B]? = some (.cells #[v] 23 (0,0))∧Kd.R (Kd.int .u8) 5 W M (fun _=>True) v (pre.map fun k=>undig (bs.getD (2 * min k (m - 1)) 0) * 16+undig (bs.getD (2 * min k (m - 1)+1) 0))
 hC:Kd.C (Kd.int .u8) W (some ad) bs.length bs
 hok:∀ k ∈ pre,¬(undig (bs.getD (2 * min k (m - 1)) 0) < 0∨undig (bs.getD (2 * min k (m - 1)+1) 0) < 0)
 hlen:pre.length≤m
 hw:Below w.heap.size w W
 hM:M≤W.heap.size
structure LnX (w:World) (Z E:Nat) (bs:List Int) (m:Nat) (pre:List Nat) (W:World):Prop where
 hZ:W.heap[Z]? = some (.cells #[.int .i64 0,.int .i64 0,.int .i64 0,.int .i64 0,.string ⟨#[]⟩,.string ⟨#[]⟩,.string ⟨#[]⟩,.slice none 0 0,.slice none 0 0,.slice none 0 0] 34 (0,0))
 hE:W.heap[E]? = some (.cells #[.int .i64 240] 35 (0,0))
 hbad:∃ k ∈ pre,(undig (bs.getD (2 * min k (m - 1)) 0) < 0∨undig (bs.getD (2 * min k (m - 1)+1) 0) < 0)
 hw:Below w.heap.size w W
theorem blk_own {W W':World} {row:Option Nat} {g M:Nat} {o:Obj} (h:W.heap[g]? = some o) (hg:W.grownBy W' row) (hr:∀ r,row=some r→M≤r∧∃ o:Obj,W.heap[r]? = some o∧o.isCells=false) (hM:g < M):W'.heap[g]? = some o:=by
 refine (hg.block g (blk_lt h) ?_).trans h
 intro e
 have:=(hr g e.symm).1
 omega
theorem C_own {W W':World} {row:Option Nat} {ad:Addr} {M:Nat} {bs:List Int} (h:Kd.C (Kd.int .u8) W (some ad) bs.length bs) (hg:W.grownBy W' row) (hr:∀ r,row=some r→M≤r∧∃ o:Obj,W.heap[r]? = some o∧o.isCells=false) (hM:ad.block < M):Kd.C (Kd.int .u8) W' (some ad) bs.length bs:=by
 cases row with
 | none=>exact Kd.C_keep (0:Int) h (KeepBut.of_grown hg (ad.block+1)) (fun a e hn he=>by cases e;omega)
 | some b=>
  have hk:KeepBut W W' b none:=⟨hg.size,fun i hi hb _=>hg.block i hi (by simpa using hb)⟩
  exact Kd.C_keep (0:Int) h hk (fun a e hn he=>by cases e;have:=(hr b rfl).1;omega)
theorem R_ownF {W W':World} {row:Option Nat} {N M:Nat} {v:Value} {l:List Int} (h:Kd.R (Kd.int .u8) 5 W N (fun _=>True) v l) (hg:W.grownBy W' row) (hr:∀ r,row=some r→M≤r∧∃ o:Obj,W.heap[r]? = some o∧o.isCells=false):Kd.R (Kd.int .u8) 5 W' N (fun _=>True) v l:=by
 refine Kd.R_grown2 h rfl hg (fun k e e2=>?_)
 obtain ⟨cells,hc⟩:=Kd.R_typed h k e2.symm
 obtain ⟨-,o,ho,hn⟩:=hr k e
 rw [hc] at ho
 cases ho
 cases hn
theorem LnI.own {w:World} {Z E B M:Nat} {ad:Addr} {bs:List Int} {m:Nat} (hZ:Z < M) (hE:E < M) (hB:B < M) (hA:ad.block < M) (hwM:w.heap.size≤M):OwnFrom M (LnI w Z E B M ad bs m):=fun pre W W' row h hg hr=>by
 obtain ⟨v,hv,hR⟩:=h.hB
 exact ⟨blk_own h.hZ hg hr hZ,blk_own h.hE hg hr hE,⟨v,blk_own hv hg hr hB,R_ownF hR hg hr⟩,C_own h.hC hg hr hA,h.hok,h.hlen,h.hw.grown hg h.hw.size (fun k e=>Nat.le_trans hwM (hr k e).1),Nat.le_trans h.hM hg.size⟩
theorem LnX.own {w:World} {Z E M:Nat} {bs:List Int} {m:Nat} (hZ:Z < M) (hE:E < M) (hwM:w.heap.size≤M):OwnFrom M (LnX w Z E bs m):=fun pre W W' row h hg hr=>
 ⟨blk_own h.hZ hg hr hZ,blk_own h.hE hg hr hE,h.hbad,h.hw.grown hg h.hw.size (fun k e=>Nat.le_trans hwM (hr k e).1)⟩
theorem LnI.below {w:World} {Z E B M:Nat} {ad:Addr} {bs:List Int} {m:Nat} {pre:List Nat} {W W':World} (h:LnI w Z E B M ad bs m pre W) (hb:Below W.heap.size W W'):LnI w Z E B M ad bs m pre W':=by
 obtain ⟨v,hv,hR⟩:=h.hB
 exact ⟨blk_below h.hZ hb,blk_below h.hE hb,⟨v,blk_below hv hb,Kd.R_below hR hb⟩,Kd.C_below h.hC hb,h.hok,h.hlen,h.hw.trans (hb.mono h.hw.size),Nat.le_trans h.hM hb.size⟩
theorem keeps_below {W W':World} (hb:Below W.heap.size W W'):KeepsOthers W W':=⟨hb.size,fun k o hk _=>(hb.block k (blk_lt hk)).trans hk⟩
theorem or16:∀ a b:Fin 16,bits BinOp.or .i64 ((a.val:Int) * 16) (b.val:Int)=(a.val:Int) * 16+(b.val:Int):=by decide +kernel
theorem or_16 {a b:Int} (ha0:0≤a) (ha:a < 16) (hb0:0≤b) (hb:b < 16):bits BinOp.or .i64 (a * 16) b=a * 16+b:=by
 obtain ⟨i,rfl⟩:=Int.eq_ofNat_of_zero_le ha0
 obtain ⟨j,rfl⟩:=Int.eq_ofNat_of_zero_le hb0
 exact or16 ⟨i,by omega⟩ ⟨j,by omega⟩
theorem ixb_calls {w0:World} {c:Int} (h0:0≤c) (h1:c < 256) (q:Wc w0):Calls Tryz.prog 73 #[.string ⟨#[48,49,50,51,52,53,54,55,56,57,97,98,99,100,101,102]⟩,.int .u8 c] q.1 fun e w''=>e = .returned (.int .i64 (undig c))∧∃ m:Wc w0,w''=m.1:=
 (Tryz.strings_IndexByte _ c q.1).mono (by
  rintro e w' ⟨rfl,rfl⟩
  exact ⟨by rw [ix_dig h0 h1],q,rfl⟩)
def pairV (bs:List Int) (k:Nat):Int:=undig (bs.getD (2 * k) 0) * 16+undig (bs.getD (2 * k+1) 0)
def badP (bs:List Int) (k:Nat):Prop:=undig (bs.getD (2 * k) 0) < 0∨undig (bs.getD (2 * k+1) 0) < 0
theorem badP_succ (a b:Int) (r:List Int) (k:Nat):badP (a :: b :: r) (k+1)↔badP r k:=by
 unfold badP
 rw [show 2 * (k+1)=2 * k+1+1 by omega,List.getD_cons_succ,List.getD_cons_succ,show 2 * k+1+1+1=(2 * k+1)+1+1 by omega,List.getD_cons_succ,List.getD_cons_succ]
theorem unhex_all:∀ (m:Nat) (bs:List Int),bs.length=2 * m→(∀ k,k < m→¬badP bs k)→unhexL bs=some ((List.range m).map (pairV bs))
 | 0,bs,h,_=>by
  have:bs=[]:=List.eq_nil_of_length_eq_zero (by omega)
  subst this;rfl
 | m+1,[],h,_=>by simp at h
 | m+1,[a],h,_=>by simp only [List.length_cons,List.length_nil] at h;omega
 | m+1,a :: b :: r,h,hk=>by
  have h0:=hk 0 (by omega)
  have ih:=unhex_all m r (by simp only [List.length_cons] at h;omega) (fun k hkm hb=>hk (k+1) (by omega) ((badP_succ a b r k).2 hb))
  have h0':¬(undig a < 0∨undig b < 0):=h0
  rw [unhexL,if_neg h0',ih,Option.map_some,List.range_succ_eq_map,List.map_cons,List.map_map]
  congr 2
theorem unhex_bad:∀ (m:Nat) (bs:List Int) (k:Nat),bs.length=2 * m→k < m→badP bs k→unhexL bs=none
 | 0,_,k,_,hk,_=>by omega
 | m+1,[],k,h,_,_=>by simp at h
 | m+1,[a],k,h,_,_=>by simp only [List.length_cons,List.length_nil] at h;omega
 | m+1,a :: b :: r,0,h,_,hb=>by
  have h0':undig a < 0∨undig b < 0:=hb
  rw [unhexL,if_pos h0']
 | m+1,a :: b :: r,k+1,h,hk,hb=>by
  have ih:=unhex_bad m r k (by simp only [List.length_cons] at h;omega) (by omega) ((badP_succ a b r k).1 hb)
  rw [unhexL,ih]
  split <;> rfl
theorem unhex_odd:∀ (n:Nat) (bs:List Int),bs.length≤n→bs.length % 2≠0→unhexL bs=none
 | _,[],_,h=>by simp at h
 | _,[a],_,_=>rfl
 | 0,a :: b :: r,hn,_=>by simp at hn
 | n+1,a :: b :: r,hn,h=>by
  have ih:=unhex_odd n r (by simp only [List.length_cons] at hn;omega) (by simp only [List.length_cons] at h;omega)
  rw [unhexL,ih]
  split <;> rfl
theorem S_off' {α:Type} {d:Kd α} {e N B:Nat} {w w':World} {v:Value} {l:List α} (h:Kd.S d e w N (fun _=>True) v l) (hB:B < N) (hk:KeepBut w w' B none):Kd.S d e w' N (fun _=>True) v l:=
 Kd.S_mono (Kd.S_keep (Kd.S_bound h) hk (fun k hk=>by have:=hk.2.1;omega)) (fun _ _=>trivial)
theorem keep_put (w:World) (D:Nat) (o:Obj):KeepBut w (w.putObj D o) D none:=
 ⟨(grownBy_putObj' w D o).size,fun i hi hne _=>(grownBy_putObj' w D o).block i hi (by simpa using hne)⟩
theorem C_row {W W':World} {row:Option Nat} {ad:Addr} {bs:List Int} (h:Kd.C (Kd.int .u8) W (some ad) bs.length bs) (hg:W.grownBy W' row) (hr:∀ r,row=some r→ad.block≠r):Kd.C (Kd.int .u8) W' (some ad) bs.length bs:=by
 cases row with
 | none=>exact Kd.C_keep (0:Int) h (KeepBut.of_grown hg (ad.block+1)) (fun a e hn he=>by cases e;omega)
 | some b=>
  have hk:KeepBut W W' b none:=⟨hg.size,fun i hi hb _=>hg.block i hi (by simpa using hb)⟩
  exact Kd.C_keep (0:Int) h hk (fun a e hn he=>by cases e;exact hr b rfl he)
theorem run_loadVar_int {P:Program} (w:World) (g:Nat) (ty t:TypeId) (x:Value) (fr:Nat × Nat) (k:IntKind) (hg:w.heap[g]? = some (.cells #[x] t fr)) (hu:P.underlying ty=some (.int k)):(loadVar ty ⟨g,0,none⟩).run P w = .ok x w:=by
 have hc:w.cell? ⟨g,0,none⟩=some x:=by simp [World.cell?,hg]
 unfold loadVar isAgg
 rw [Sem.run_bind,Sem.run_bind,run_underlying hu w]
 simp [hc]
theorem results_ci {P:Program} {fn:Func} {p p':Tmp} {ty ty':TypeId} (h:fn.results=#[.cell p ty,.cell p' ty']) (tmps:Array Value) (w:World) (g g':Nat) (t t':TypeId) (cs:Array Value) (x:Value) (fr fr':Nat × Nat) (d:TypeDesc) (k:IntKind)
  (hp:tmps.getD p undef = .pointer (some ⟨g,0,none⟩)) (hg:w.heap[g]? = some (.cells cs t fr))
  (hu:P.underlying ty=some d) (hd:(match d with | .struct _ | .array _ _=>true | _=>false)=true) (hi:(P.info? ty).map (·.size)=some cs.size)
  (hp':tmps.getD p' undef = .pointer (some ⟨g',0,none⟩)) (hg':w.heap[g']? = some (.cells #[x] t' fr')) (hu':P.underlying ty'=some (.int k)) :
  (results fn tmps).run P w = .ok (.tuple #[.agg cs,x]) w:=by
 have h1:tmps[p]?.getD undef = .pointer (some ⟨g,0,none⟩):=by simpa using hp
 have h2:tmps[p']?.getD undef = .pointer (some ⟨g',0,none⟩):=by simpa using hp'
 simp [results,h,h1,h2,asAddr,run_loadVar_row w g t ty cs fr d hg hu hd hi,run_loadVar_int w g' ty' t' x fr' k hg' hu']
end Go.Proofs.YtocpcnmnhckcpaaGreat.Prt
namespace Go.Proofs.YtocpcnmnhckcpaaGreat.Prt
open RowKit YtocpcnmnhckcpaaGreatW.PrintWords YtocpcnmnhckcpaaGreatW.PrintLast YtocpcnmnhckcpaaGreatW.PrintMore YtocpcnmnhckcpaaGreat.Num YtocpcnmnhckcpaaGreat.Nam Go.Shelf
attribute [local go_sem] Oper.semAt_some Fw_round Fw_depth Fw_fn
theorem line_out {w W:World} {Z E:Nat} {tmps:Array Value} {r:S34} {re:Int} {v7 v8 v9:Value} (h2:tmps.getD 2 undef = .pointer (some ⟨Z,0,none⟩)) (h3:tmps.getD 3 undef = .pointer (some ⟨E,0,none⟩))
  (hZ:W.heap[Z]? = some (.cells #[.int .i64 r.f0,.int .i64 r.f1,.int .i64 r.f2,.int .i64 r.f3,.string r.f4,.string r.f5.f0,.string r.f5.f1,v7,v8,v9] 34 (0,0)))
  (hE:W.heap[E]? = some (.cells #[.int .i64 re] 35 (0,0)))
  (h7:Kd.string.R 9 W w.heap.size (fun _=>True) v7 r.f5.f2) (h8:k90.R 90 W w.heap.size (fun _=>True) v8 r.f5.f3) (h9:Kd.S k96 96 W w.heap.size (fun _=>True) v9 r.f6.f0) (hb:Below w.heap.size w W) :
  ∃ v,(results Tryz.f46 tmps).run Tryz.prog W = .ok v W∧∃ v7 v8 v9,Ending.returned v = .returned (.tuple #[.agg #[.int .i64 r.f0,.int .i64 r.f1,.int .i64 r.f2,.int .i64 r.f3,.string r.f4,.string r.f5.f0,.string r.f5.f1,v7,v8,v9],.int .i64 re])∧Kd.string.R 9 W w.heap.size (fun _=>True) v7 r.f5.f2∧k90.R 90 W w.heap.size (fun _=>True) v8 r.f5.f3∧Kd.S k96 96 W w.heap.size (fun _=>True) v9 r.f6.f0∧Below w.heap.size w W:=
 ⟨_,results_ci rfl tmps W Z E 34 35 _ _ (0,0) (0,0) _ .i64 h2 hZ Tryz.underlying34 rfl (by kernel_rfl) h3 hE Tryz.underlying35,v7,v8,v9,rfl,h7,h8,h9,hb⟩
set_option maxRecDepth 100000 in
set_option maxHeartbeats 8000000 in
theorem line_calls22 (s:ByteArray) (w:World) (hz:s.size≤100000) (r:S34) (re:Int) (h:lineS (bytesOf s)=(r,re)) :
  Calls Tryz.prog 46 #[.string s] w fun e w'=>∃ v7 v8 v9,e = .returned (.tuple #[.agg #[.int .i64 r.f0,.int .i64 r.f1,.int .i64 r.f2,.int .i64 r.f3,.string r.f4,.string r.f5.f0,.string r.f5.f1,v7,v8,v9],.int .i64 re])∧Kd.string.R 9 w' w.heap.size (fun _=>True) v7 r.f5.f2∧k90.R 90 w' w.heap.size (fun _=>True) v8 r.f5.f3∧Kd.S k96 96 w' w.heap.size (fun _=>True) v9 r.f6.f0∧Below w.heap.size w w':=by
 have hbl:=bytes_length s
 have HH:=Ak h
 clear h
 have hu34:=Tryz.underlying34
 refine callsIn_wide.1 (callsIn_of_wp_marks (n:=10) Tryz.func46 rfl trivial (wpIn_wide.2 ?_) rfl)
 simp only [Tryz.ntmps46,List.size_toArray,List.length_cons,List.length_nil,Nat.reduceAdd,Nat.reduceSub,Array.replicate_succ,Array.replicate_zero,List.push_toArray,List.append_toArray,List.nil_append,List.cons_append]
 go_upto_region 1 with (first | ((with_reducible refine gate_dst (N:=2) rfl ?_);(try (refine gate_guard (by rfl) ?_;dsimp only));refine box_event ?hg (N:=2) ?hd (cs:=#[.int .i64 0,.int .i64 0,.int .i64 0,.int .i64 0,.string ⟨#[]⟩,.string ⟨#[]⟩,.string ⟨#[]⟩,.slice none 0 0,.slice none 0 0,.slice none 0 0]) (t:=34) ?hr ?_;(case hd=>rfl);(case hg=>rfl);(case hr=>(go_simp;done));intro Z hg_ w1 hbox_ hb_;have HZ:=Ak hbox_;have HZN:=Ak hg_;have HZB:=Ak hb_;clear hbox_ hg_ hb_) | ((with_reducible refine gate_dst (N:=3) rfl ?_);(try (refine gate_guard (by rfl) ?_;dsimp only));refine box_event ?hg (N:=3) ?hd (cs:=#[.int .i64 0]) (t:=35) ?hr ?_;(case hd=>rfl);(case hg=>rfl);(case hr=>(go_simp;done));intro E hg_ w2 hbox_ hb_;have HE:=Ak hbox_;have HEN:=Ak hg_;have HEB:=Ak hb_;clear hbox_ hg_ hb_))
 have HZ2:=Ak (blk_below HZ.out HEB.out)
 have HB2:=Ak (below_step HZB.out HEB.out)
 have HG2:=Ak (show w.heap.size≤Z∧w.heap.size≤E∧Z≠E∧Z < w2.heap.size∧E < w2.heap.size by
  have h1:=HZN.out
  have h2:=HEN.out
  have h3:=blk_lt HE.out
  have h4:=HZB.out.size
  have h5:=blk_lt HZ.out
  omega)
 clear HZ HZN HZB HEN HEB
 by_cases hodd:s.size % 2=0
 case neg=>
  have hd1:((s.size:Int) % 2 != 0)=true:=bne_iff_ne.mpr (by omega)
  have hz0:=blk_cell HZ2.out 0
  have fz0:=blk_frozen HZ2.out 0
  have hz1:=blk_cell HZ2.out 1
  have fz1:=blk_frozen HZ2.out 1
  have hz2:=blk_cell HZ2.out 2
  have fz2:=blk_frozen HZ2.out 2
  have hz3:=blk_cell HZ2.out 3
  have fz3:=blk_frozen HZ2.out 3
  have hz4:=blk_cell HZ2.out 4
  have fz4:=blk_frozen HZ2.out 4
  have hz5:=blk_cell HZ2.out 5
  have fz5:=blk_frozen HZ2.out 5
  have hz6:=blk_cell HZ2.out 6
  have fz6:=blk_frozen HZ2.out 6
  have hz7:=blk_cell HZ2.out 7
  have fz7:=blk_frozen HZ2.out 7
  have hz8:=blk_cell HZ2.out 8
  have fz8:=blk_frozen HZ2.out 8
  have hz9:=blk_cell HZ2.out 9
  have fz9:=blk_frozen HZ2.out 9
  have he0:=blk_cell HE.out 0
  have hg0:=blk_frozen HE.out 0
  have hze:Z≠E:=HG2.out.2.2.1
  have hez:E≠Z:=Ne.symm hze
  have hl:=HH.out
  unfold lineS at hl
  rw [unhex_odd _ _ (Nat.le_refl _) (by omega)] at hl
  simp only [Prod.mk.injEq] at hl
  obtain ⟨rfl,rfl⟩:=hl
  have HOD:=Ak hodd
  clear hodd
  go_wp2_with fail
  exact line_out rfl rfl (blk_far (bp10 HZ2.out (.int .i64 0) (.int .i64 0) (.int .i64 0) (.int .i64 0) (.string ⟨#[]⟩) (.string ⟨#[]⟩) (.string ⟨#[]⟩) (.slice none 0 0) (.slice none 0 0) (.slice none 0 0)) (p:=⟨E,0,none⟩) hze _) (blk_put (cs':=#[.int .i64 240]) (blk_far (blk_far (blk_far (blk_far (blk_far (blk_far (blk_far (blk_far (blk_far (blk_far HE.out (p:=⟨Z,0,none⟩) hez (.int .i64 0)) (p:=⟨Z,1,none⟩) hez (.int .i64 0)) (p:=⟨Z,2,none⟩) hez (.int .i64 0)) (p:=⟨Z,3,none⟩) hez (.int .i64 0)) (p:=⟨Z,4,none⟩) hez (.string ⟨#[]⟩)) (p:=⟨Z,5,none⟩) hez (.string ⟨#[]⟩)) (p:=⟨Z,6,none⟩) hez (.string ⟨#[]⟩)) (p:=⟨Z,7,none⟩) hez (.slice none 0 0)) (p:=⟨Z,8,none⟩) hez (.slice none 0 0)) (p:=⟨Z,9,none⟩) hez (.slice none 0 0)) 0 (.int .i64 240) rfl) (Kd.R_nil _ _ _ _ _) (Kd.R_nil _ _ _ _ _) (Kd.S_nil _ _ _ _ _) ((bb10 HB2.out HG2.out.1 (.int .i64 0) (.int .i64 0) (.int .i64 0) (.int .i64 0) (.string ⟨#[]⟩) (.string ⟨#[]⟩) (.string ⟨#[]⟩) (.slice none 0 0) (.slice none 0 0) (.slice none 0 0)).setCell (p:=⟨E,0,none⟩) HG2.out.2.1 _)
 have hd1:((s.size:Int) % 2 != 0)=false:=bne_eq_false_iff_eq.mpr (by omega)
 go_upto_region 4 with (((with_reducible refine gate_dst (N:=4) rfl ?_);(try (refine gate_guard (by rfl) ?_;dsimp only));refine box_event ?hg (N:=4) ?hd (cs:=#[.slice none 0 0]) (t:=23) ?hr ?_;(case hd=>rfl);(case hg=>rfl);(case hr=>(go_simp;done));intro B hg_ w3 hbox_ hb_;have HB:=Ak hbox_;have HBN:=Ak hg_;have HBB:=Ak hb_;clear hbox_ hg_ hb_))
 have HZ3:=Ak (blk_below HZ2.out HBB.out)
 have HE3:=Ak (blk_below HE.out HBB.out)
 have HB3:=Ak (below_step HB2.out HBB.out)
 have HG3:=Ak (show w.heap.size≤B∧B≠Z∧B≠E∧B < w3.heap.size by
  have h1:=HG2.out
  have h2:=HBN.out
  have h3:=HB2.out.size
  have h4:=blk_lt HB.out
  omega)
 clear HZ2 HE HB2 HBN HBB
 go_wp2_with (((with_reducible refine gate_dst (N:=14) rfl ?_);refine ev_bytesN rfl 9 23 5 (.tmp 13) rfl Tryz.underlying9 Tryz.underlying23 Tryz.underlying5 s rfl (by omega) ?_;intro g c w4 hg hr hc hb;have HRC:=Ak hr;have HCC:=Ak hc;have HGG:=Ak hg;have HB4:=Ak hb;clear hg hr hc hb))
 refine (chunk_calls (some ⟨g,0,none⟩) s.size c w4).mono ?_
 rintro e w5 ⟨X,Y,rfl,hx,hy,hX,hY,hb⟩
 have HX5:=Ak hx
 have HY5:=Ak hy
 have HZ5:=Ak (blk_below (blk_below HZ3.out HB4.out) hb)
 have HE5:=Ak (blk_below (blk_below HE3.out HB4.out) hb)
 have HB5:=Ak (blk_below (blk_below HB.out HB4.out) hb)
 have HBW:=Ak (below_step (below_step HB3.out HB4.out) hb)
 have HC5:=Ak (Kd.C_below HRC.out hb)
 have HG5:=Ak (show w3.heap.size≤w5.heap.size∧g < w5.heap.size∧X < w5.heap.size∧Y < w5.heap.size∧w.heap.size≤w5.heap.size∧X≠B∧Y≠B∧g≠B by
  have h7:=HG3.out
  have h1:=HB4.out.size
  have h2:=hb.size
  have h3:=blk_lt hx
  have h4:=blk_lt hy
  have h5:=HGG.out
  have h6:=HB3.out.size
  omega)
 clear hx hy hX hY hb HZ3 HE3 HB HB3 HB4 HRC
 obtain ⟨m,hm⟩:∃ m,s.size=2 * m:=⟨s.size / 2,by omega⟩
 obtain ⟨bs,hbs⟩:∃ bs,bs=bytesOf s:=⟨_,rfl⟩
 rw [←hbs] at HC5 HH hbl
 have hbl2:bs.length=2 * m:=by omega
 rw [hm] at HX5 HCC HC5
 rw [←hbl2] at HC5
 have HBL:=Ak hbl2
 have HBY:=Ak (show isBytes bs by rw [hbs];exact bytesOf_isBytes s)
 have hm0:2 * m≤100000:=by omega
 have HML:=Ak hm0
 clear hbl hbs hm hbl2
 go_wp2_with fail
 have HSQ:SeqStopsK Fence.wide (10 - 1) Tryz.prog 99 #[.pointer (some ⟨X,0,none⟩),.pointer (some ⟨Y,0,none⟩)] (fun k:Nat=>#[pieceV ⟨g,0,none⟩ m k]) (Kc X Y) (fun ys=>ys=List.range m) (fun pre=>∃ k,k≤m∧pre=List.range k) m w5:=
  chunk_stops 9 X Y (some ⟨g,0,none⟩) ⟨g,0,none⟩ m c (fun _=>rfl) (by omega) HCC.out w5 HX5.out HY5.out
 refine (wpIn_wide (n:=10)).1 (wpIn_rangeFunc_ownF (F:=Fence.wide) (n:=10) (w0:=w5) rfl (by decide) (gf:=99) (lb:=#[.pointer (some ⟨X,0,none⟩),.pointer (some ⟨Y,0,none⟩)]) rfl trivial (enters_of Tryz.func99 (by kernel_rfl) rfl)
  HSQ (fun h k=>Kc.trans h k) ?kb (Below.refl _ _) (fun _=>rfl)
  (LnI w Z E B w5.heap.size ⟨g,0,none⟩ bs m) (fun c' pre W=>c' = .ret∧LnX w Z E bs m pre W) ?own ?ownx ?start
  (fun k=>{ tmps:=#[.string s,undef,.pointer (some ⟨Z,0,none⟩),.pointer (some ⟨E,0,none⟩),.pointer (some ⟨B,0,none⟩),pieceV ⟨g,0,none⟩ m k,undef,undef,.string s,.int .i64 (s.size:Int),.int .i64 ((s.size:Int) % 2),.bool false,undef,.string s,.slice (some ⟨g,0,none⟩) s.size c,.func (.func 99) #[] #[.pointer (some ⟨X,0,none⟩),.pointer (some ⟨Y,0,none⟩)],pieceV ⟨g,0,none⟩ m k,undef,undef,undef,undef,undef,undef,undef,undef,undef,undef,undef,undef,undef,undef,undef,undef,undef,undef,undef,undef,undef,undef,undef,undef,undef,undef,undef],defers:=[] }) ?assign ?body ?done ?stop)
 case kb=>
  intro W l o o' hl ho hc hw
  have hg:=HG5.out
  exact ⟨(grownBy_putObj' W l o').block X (by have:=blk_lt ho;omega) (by intro e;cases e;omega),(grownBy_putObj' W l o').block Y (by have:=blk_lt ho;omega) (by intro e;cases e;omega)⟩
 case own=>
  have h1:=HG5.out
  have h2:=HG2.out
  have h3:=HG3.out
  have h4:=blk_lt HZ5.out
  have h5:=blk_lt HE5.out
  have h6:=blk_lt HB5.out
  exact LnI.own h4 h5 h6 h1.2.1 h1.2.2.2.2.1
 case ownx=>
  intro c'
  have h1:=HG5.out
  exact (ownFrom_pure _ _).and (LnX.own (blk_lt HZ5.out) (blk_lt HE5.out) h1.2.2.2.2.1)
 case start=>exact ⟨HZ5.out,HE5.out,⟨_,HB5.out,Kd.R_nil _ _ _ _ _⟩,HC5.out,(fun k hk=>by cases hk),Nat.zero_le _,HBW.out,Nat.le_refl _⟩
 case assign=>
  intro l x W K hK
  gi_wp2
  exact hK
 case body=>
  intro l pre x W hI hlt
  obtain ⟨j,hj⟩:∃ j,j=min x (m - 1):=⟨_,rfl⟩
  have hjm:j < m:=by omega
  have hbl:=HBL.out
  obtain ⟨a0,e0,hc0⟩:=Kd.at_int hI.hC ((2 * j:Nat):Int) (by omega) (by omega)
  obtain ⟨a1,e1,hc1⟩:=Kd.at_int hI.hC ((2 * j+1:Nat):Int) (by omega) (by omega)
  cases e0
  cases e1
  rw [Int.toNat_natCast] at hc0 hc1
  have hby0:=HBY.out (bs.getD (2 * j) 0) (getD_mem' (by omega) _)
  have hby1:=HBY.out (bs.getD (2 * j+1) 0) (getD_mem' (by omega) _)
  have ea0:(⟨g,0,none⟩:Addr).add (2 * j)=⟨g,2 * j,none⟩:=by unfold Addr.add;split <;> simp_all
  have ea1:(⟨g,0,none⟩:Addr).add (2 * j+1)=⟨g,2 * j+1,none⟩:=by unfold Addr.add;split <;> simp_all
  have hq0:rd bs ((2 * j:Nat):Int)=bs.getD (2 * j) 0:=rfl
  have hq1:rd bs ((2 * j+1:Nat):Int)=bs.getD (2 * j+1) 0:=rfl
  rw [hq0,ea0] at hc0
  rw [hq1,ea1] at hc1
  obtain ⟨ca,hca⟩:∃ ca,ca=bs.getD (2 * j) 0:=⟨_,rfl⟩
  obtain ⟨cb,hcb⟩:∃ cb,cb=bs.getD (2 * j+1) 0:=⟨_,rfl⟩
  rw [←hca] at hc0 hby0
  rw [←hcb] at hc1 hby1
  have HI:=Ak hI
  have HJ:=Ak (And.intro hj (And.intro hca hcb))
  have HLT:=Ak hlt
  have q0:∀ q:Wc W,q.1.cell? ⟨g,2 * j,none⟩=some (.int .u8 ca):=fun q=>pw_cell_below q.2 hc0
  have q1:∀ q:Wc W,q.1.cell? ⟨g,2 * j+1,none⟩=some (.int .u8 cb):=fun q=>pw_cell_below q.2 hc1
  have HX0:=Ak (fun q:Wc W=>ixb_calls hby0.1 hby0.2 q)
  have HX1:=Ak (fun q:Wc W=>ixb_calls hby1.1 hby1.2 q)
  unfold pieceV
  rw [←hj,ea0]
  clear hq0 hq1 hc0 hc1 hby0 hby1 hI hlt hj hca hcb ea0 ea1 HH
  gi_wp2
  refine region_classIn (ro:=some l) (w0:=W) (by kernel_rfl) (by kernel_rfl) (by simp) (Below.refl _ _) ?_
  repeat (go_big_quiet_step (first | exact HX0.out _ | exact HX1.out _))
  refine wpQuiet_nil ?_
  rintro W1 ⟨q,hq⟩
  have hb1:Below W.heap.size W W1:=by rw [hq];exact q.2
  have HI1:=Ak (HI.out.below hb1)
  have HK1:=Ak (keeps_below hb1)
  have HKC:=Ak (Kc.of_below (Bs:=X) (Bn:=Y) hb1 (by have:=HG5.out;have:=HI.out.hM;omega) (by have:=HG5.out;have:=HI.out.hM;omega))
  clear hb1 hq q q0 q1 HX0 HX1 HI
  by_cases hbad:undig ca < 0∨undig cb < 0
  ·have HBD:=Ak hbad
   have hte:(undig ca < 0)∨(¬undig ca < 0∧undig cb < 0):=by omega
   clear hbad
   rcases hte with h1 | ⟨h1,h2⟩
   ·have hd2:decide (undig ca < 0)=true:=decide_eq_true h1
    have hz0:=blk_cell HI1.out.hZ 0
    have hf0:=blk_frozen HI1.out.hZ 0
    have hz1:=blk_cell HI1.out.hZ 1
    have hf1:=blk_frozen HI1.out.hZ 1
    have hz2:=blk_cell HI1.out.hZ 2
    have hf2:=blk_frozen HI1.out.hZ 2
    have hz3:=blk_cell HI1.out.hZ 3
    have hf3:=blk_frozen HI1.out.hZ 3
    have hz4:=blk_cell HI1.out.hZ 4
    have hf4:=blk_frozen HI1.out.hZ 4
    have hz5:=blk_cell HI1.out.hZ 5
    have hf5:=blk_frozen HI1.out.hZ 5
    have hz6:=blk_cell HI1.out.hZ 6
    have hf6:=blk_frozen HI1.out.hZ 6
    have hz7:=blk_cell HI1.out.hZ 7
    have hf7:=blk_frozen HI1.out.hZ 7
    have hz8:=blk_cell HI1.out.hZ 8
    have hf8:=blk_frozen HI1.out.hZ 8
    have hz9:=blk_cell HI1.out.hZ 9
    have hf9:=blk_frozen HI1.out.hZ 9
    have he0:=blk_cell HI1.out.hE 0
    have hg0:=blk_frozen HI1.out.hE 0
    have hze:Z≠E:=HG2.out.2.2.1
    have hez:E≠Z:=Ne.symm hze
    clear hbl hjm hodd
    iterate 4 gi_step
    refine region_unfenced (ro:=some l) (by simp) (fun ⟨_,_,h_⟩=>h_) ?_
    go_wp2
    gi_step
    gi_step
    refine region_unfenced (ro:=some l) (by simp) (fun ⟨_,_,h_⟩=>h_) ?_
    go_wp2_with fail
    gi_step
    refine ⟨HK1.out.trans ((((((((((((KeepsOthers.refl W1).trans (KeepsOthers.setCell _ _ _)).trans (KeepsOthers.setCell _ _ _)).trans (KeepsOthers.setCell _ _ _)).trans (KeepsOthers.setCell _ _ _)).trans (KeepsOthers.setCell _ _ _)).trans (KeepsOthers.setCell _ _ _)).trans (KeepsOthers.setCell _ _ _)).trans (KeepsOthers.setCell _ _ _)).trans (KeepsOthers.setCell _ _ _)).trans (KeepsOthers.setCell _ _ _)).trans (KeepsOthers.setCell _ _ _)),rfl,⟨blk_far (bp10 HI1.out.hZ (.int .i64 0) (.int .i64 0) (.int .i64 0) (.int .i64 0) (.string ⟨#[]⟩) (.string ⟨#[]⟩) (.string ⟨#[]⟩) (.slice none 0 0) (.slice none 0 0) (.slice none 0 0)) (p:=⟨E,0,none⟩) hze _,blk_put (cs':=#[.int .i64 240]) (blk_far (blk_far (blk_far (blk_far (blk_far (blk_far (blk_far (blk_far (blk_far (blk_far HI1.out.hE (p:=⟨Z,0,none⟩) hez (.int .i64 0)) (p:=⟨Z,1,none⟩) hez (.int .i64 0)) (p:=⟨Z,2,none⟩) hez (.int .i64 0)) (p:=⟨Z,3,none⟩) hez (.int .i64 0)) (p:=⟨Z,4,none⟩) hez (.string ⟨#[]⟩)) (p:=⟨Z,5,none⟩) hez (.string ⟨#[]⟩)) (p:=⟨Z,6,none⟩) hez (.string ⟨#[]⟩)) (p:=⟨Z,7,none⟩) hez (.slice none 0 0)) (p:=⟨Z,8,none⟩) hez (.slice none 0 0)) (p:=⟨Z,9,none⟩) hez (.slice none 0 0)) 0 (.int .i64 240) rfl,⟨x,by simp,?_⟩,(bb10 HI1.out.hw HG2.out.1 (.int .i64 0) (.int .i64 0) (.int .i64 0) (.int .i64 0) (.string ⟨#[]⟩) (.string ⟨#[]⟩) (.string ⟨#[]⟩) (.slice none 0 0) (.slice none 0 0) (.slice none 0 0)).setCell (p:=⟨E,0,none⟩) HG2.out.2.1 _⟩⟩
    rw [←HJ.out.1,←HJ.out.2.1,←HJ.out.2.2]
    exact HBD.out
   ·have hd2:decide (undig ca < 0)=false:=decide_eq_false h1
    have hd3:decide (undig cb < 0)=true:=decide_eq_true h2
    have hz0:=blk_cell HI1.out.hZ 0
    have hf0:=blk_frozen HI1.out.hZ 0
    have hz1:=blk_cell HI1.out.hZ 1
    have hf1:=blk_frozen HI1.out.hZ 1
    have hz2:=blk_cell HI1.out.hZ 2
    have hf2:=blk_frozen HI1.out.hZ 2
    have hz3:=blk_cell HI1.out.hZ 3
    have hf3:=blk_frozen HI1.out.hZ 3
    have hz4:=blk_cell HI1.out.hZ 4
    have hf4:=blk_frozen HI1.out.hZ 4
    have hz5:=blk_cell HI1.out.hZ 5
    have hf5:=blk_frozen HI1.out.hZ 5
    have hz6:=blk_cell HI1.out.hZ 6
    have hf6:=blk_frozen HI1.out.hZ 6
    have hz7:=blk_cell HI1.out.hZ 7
    have hf7:=blk_frozen HI1.out.hZ 7
    have hz8:=blk_cell HI1.out.hZ 8
    have hf8:=blk_frozen HI1.out.hZ 8
    have hz9:=blk_cell HI1.out.hZ 9
    have hf9:=blk_frozen HI1.out.hZ 9
    have he0:=blk_cell HI1.out.hE 0
    have hg0:=blk_frozen HI1.out.hE 0
    have hze:Z≠E:=HG2.out.2.2.1
    have hez:E≠Z:=Ne.symm hze
    clear hbl hjm hodd
    iterate 4 gi_step
    refine region_unfenced (ro:=some l) (by simp) (fun ⟨_,_,h_⟩=>h_) ?_
    go_wp2
    gi_step
    gi_step
    refine region_unfenced (ro:=some l) (by simp) (fun ⟨_,_,h_⟩=>h_) ?_
    go_wp2_with fail
    gi_step
    refine ⟨HK1.out.trans ((((((((((((KeepsOthers.refl W1).trans (KeepsOthers.setCell _ _ _)).trans (KeepsOthers.setCell _ _ _)).trans (KeepsOthers.setCell _ _ _)).trans (KeepsOthers.setCell _ _ _)).trans (KeepsOthers.setCell _ _ _)).trans (KeepsOthers.setCell _ _ _)).trans (KeepsOthers.setCell _ _ _)).trans (KeepsOthers.setCell _ _ _)).trans (KeepsOthers.setCell _ _ _)).trans (KeepsOthers.setCell _ _ _)).trans (KeepsOthers.setCell _ _ _)),rfl,⟨blk_far (bp10 HI1.out.hZ (.int .i64 0) (.int .i64 0) (.int .i64 0) (.int .i64 0) (.string ⟨#[]⟩) (.string ⟨#[]⟩) (.string ⟨#[]⟩) (.slice none 0 0) (.slice none 0 0) (.slice none 0 0)) (p:=⟨E,0,none⟩) hze _,blk_put (cs':=#[.int .i64 240]) (blk_far (blk_far (blk_far (blk_far (blk_far (blk_far (blk_far (blk_far (blk_far (blk_far HI1.out.hE (p:=⟨Z,0,none⟩) hez (.int .i64 0)) (p:=⟨Z,1,none⟩) hez (.int .i64 0)) (p:=⟨Z,2,none⟩) hez (.int .i64 0)) (p:=⟨Z,3,none⟩) hez (.int .i64 0)) (p:=⟨Z,4,none⟩) hez (.string ⟨#[]⟩)) (p:=⟨Z,5,none⟩) hez (.string ⟨#[]⟩)) (p:=⟨Z,6,none⟩) hez (.string ⟨#[]⟩)) (p:=⟨Z,7,none⟩) hez (.slice none 0 0)) (p:=⟨Z,8,none⟩) hez (.slice none 0 0)) (p:=⟨Z,9,none⟩) hez (.slice none 0 0)) 0 (.int .i64 240) rfl,⟨x,by simp,?_⟩,(bb10 HI1.out.hw HG2.out.1 (.int .i64 0) (.int .i64 0) (.int .i64 0) (.int .i64 0) (.string ⟨#[]⟩) (.string ⟨#[]⟩) (.string ⟨#[]⟩) (.slice none 0 0) (.slice none 0 0) (.slice none 0 0)).setCell (p:=⟨E,0,none⟩) HG2.out.2.1 _⟩⟩
    rw [←HJ.out.1,←HJ.out.2.1,←HJ.out.2.2]
    exact HBD.out
  ·have h1:¬undig ca < 0:=fun h=>hbad (.inl h)
   have h2:¬undig cb < 0:=fun h=>hbad (.inr h)
   have HBD:=Ak hbad
   obtain ⟨-,ua0,ua1⟩:=dig_undig h1
   obtain ⟨-,ub0,ub1⟩:=dig_undig h2
   have hor:=or_16 ua0 ua1 ub0 ub1
   have hd2:decide (undig ca < 0)=false:=decide_eq_false h1
   have hd3:decide (undig cb < 0)=false:=decide_eq_false h2
   obtain ⟨v,hvB,hvR⟩:=HI1.out.hB
   obtain ⟨acc,hacc⟩:∃ acc,acc=pre.map fun k=>undig (bs.getD (2 * min k (m - 1)) 0) * 16+undig (bs.getD (2 * min k (m - 1)+1) 0):=⟨_,rfl⟩
   rw [←hacc] at hvR
   have hal:acc.length≤100000:=by rw [hacc,List.length_map];have:=HI1.out.hlen;omega
   have HAC:=Ak hacc
   have hMW:=HI1.out.hM
   obtain ⟨A9,c9,e9⟩:=Kd.R_slice hvR
   subst e9
   clear hacc
   have hb0:=blk_cell hvB 0
   have hbf:=blk_frozen hvB 0
   have HVB:=Ak hvB
   have HVR:=Ak hvR
   clear hbl hodd hbad hvB hvR
   iterate 4 gi_step
   refine region_unfenced (ro:=some l) (by simp) (fun ⟨_,_,h_⟩=>h_) ?_
   go_wp2
   iterate 4 gi_step
   refine region_unfenced (ro:=some l) (by simp) (fun ⟨_,_,h_⟩=>h_) ?_
   go_wp2_with (((with_reducible refine gate_builtin (b:=.append) (xs:=#[.tmp 32,.tmp 38]) rfl ?_);at_builtin;refine Kd.R_append (Kd.int .u8) (w0:=W1) w5.heap.size rfl (.tmp 32) (.tmp 38) 23 5 (.int .u8 0) 1 rfl Tryz.underlying23 info_u8 rfl (by decide) (by omega) (.slice A9 acc.length c9) acc (undig ca * 16+undig cb) [.int .u8 (undig ca * 16+undig cb)] (fun _=>True) (fun _=>False) rfl rfl rfl (fun _ hk=>hk.elim) (fun _ _=>trivial) HVR.out (Below.refl _ _) hMW (by omega) ?_;intro v2 w7 ho hb hg hat;obtain ⟨lr,hlr⟩:∃ lr,lr=acc++[undig ca * 16+undig cb]:=⟨_,rfl⟩;rw [←hlr] at ho;have HLR:=Ak hlr;clear hlr;have HO2:=Ak ho;have HB2:=Ak hb;have HGR:=Ak hg;obtain ⟨A2,c2,e2⟩:=Kd.R_slice ho;subst e2;have hK2:=(hb.block B (by have:=HG3.out;have:=HG5.out;omega)).trans HVB.out;have HK2:=Ak hK2;have hf2:=blk_frozen hK2 0;have hc2:=blk_cell hK2 0;clear ho hb hg hat hK2))
   obtain ⟨p1,p2,p3,p4,p5,p6,p7,p8⟩:=HG5.out
   obtain ⟨r1,r2,r3,r4⟩:=HG3.out
   have hZM:=blk_lt HZ5.out
   have hEM:=blk_lt HE5.out
   have hBM:=blk_lt HB5.out
   have hbs:=Kd.R_base HVR.out
   refine ⟨(HK1.out.trans (KeepsOthers.of_grownBy HGR.out (fun i o e ho=>?_))).trans (KeepsOthers.setCell _ _ _),HKC.out.trans ⟨(Below.heap_setCell w7 _ _ X p6).trans (HB2.out.block X p3),(Below.heap_setCell w7 _ _ Y p7).trans (HB2.out.block Y p4)⟩,⟨?_,?_,⟨_,blk_put (cs':=#[.slice A2 lr.length c2]) HK2.out 0 (.slice A2 lr.length c2) rfl,?_⟩,?_,?_,?_,?_,?_⟩⟩
   ·obtain ⟨cells,hc⟩:=Kd.R_typed HVR.out i e
    rw [hc] at ho
    cases ho
    rfl
   ·exact blk_far ((HB2.out.block Z hZM).trans HI1.out.hZ) (p:=⟨B,0,none⟩) (Ne.symm r2) _
   ·exact blk_far ((HB2.out.block E hEM).trans HI1.out.hE) (p:=⟨B,0,none⟩) (Ne.symm r3) _
   ·have h3:=R_off' HO2.out hBM ((KeepBut.refl w7 B none).set_ 0 (.slice A2 lr.length c2))
    have e3:lr=(pre++[x]).map fun k=>undig (bs.getD (2 * min k (m - 1)) 0) * 16+undig (bs.getD (2 * min k (m - 1)+1) 0):=by
     rw [HLR.out,HAC.out,List.map_append,List.map_singleton,←HJ.out.1,←HJ.out.2.1,←HJ.out.2.2]
    rw [←e3]
    exact h3
   ·exact Kd.C_keep (0:Int) (C_row HI1.out.hC HGR.out (fun r e he=>by have:=hbs r e;simp only at he;omega)) ((KeepBut.refl w7 B none).set_ 0 (.slice A2 lr.length c2)) (fun a e hn he=>by cases e;exact p8 he)
   ·intro k hk
    rcases List.mem_append.1 hk with hk | hk
    ·exact HI1.out.hok k hk
    ·rw [List.mem_singleton.1 hk,←HJ.out.1,←HJ.out.2.1,←HJ.out.2.2]
     exact HBD.out
   ·have:=HLT.out
    rw [List.length_append,List.length_singleton];omega
   ·exact (HI1.out.hw.trans (HB2.out.mono p5)).setCell (p:=⟨B,0,none⟩) r1 _
   ·rw [World.size_setCell]
    exact Nat.le_trans hMW HB2.out.size
 case done=>
  rintro D ys W hD rfl hI hK
  have HI:=Ak hI
  have HKD:=Ak hK
  obtain ⟨v,hvB,hvR⟩:=hI.hB
  obtain ⟨acc,hacc⟩:∃ acc,acc=(List.range m).map fun k=>undig (bs.getD (2 * min k (m - 1)) 0) * 16+undig (bs.getD (2 * min k (m - 1)+1) 0):=⟨_,rfl⟩
  rw [←hacc] at hvR
  obtain ⟨A9,c9,e9⟩:=Kd.R_slice hvR
  subst e9
  obtain ⟨-,hc9,hC9⟩:=Kd.R_reads' hvR
  have hb0:=blk_cell hvB 0
  clear hI hK
  have e8:acc=(List.range m).map (pairV bs):=by
   rw [hacc]
   exact List.map_congr_left fun k hk=>by
    have:=List.mem_range.1 hk
    rw [Nat.min_eq_left (by omega)];rfl
  have hlen:acc.length=m:=by rw [e8,List.length_map,List.length_range]
  have htk:takeS acc=(r,re):=by
   have hl:=HH.out
   unfold lineS at hl
   rw [unhex_all m bs HBL.out (fun k hk hb=>HI.out.hok k (List.mem_range.2 hk) (by rw [Nat.min_eq_left (by omega)];exact hb)),←e8] at hl
   exact hl
  have hby:isBytes acc:=by
   intro x hx
   rw [e8] at hx
   obtain ⟨k,hk,rfl⟩:=List.mem_map.1 hx
   have hkm:=List.mem_range.1 hk
   have:=HI.out.hok k hk
   rw [Nat.min_eq_left (by omega),not_or] at this
   obtain ⟨-,ua0,ua1⟩:=dig_undig this.1
   obtain ⟨-,ub0,ub1⟩:=dig_undig this.2
   unfold pairV
   omega
  have HT:=Ak htk
  have HY:=Ak hby
  have HL:=Ak (And.intro hc9 (And.intro hC9 hlen))
  clear e8 hlen htk hby hacc hc9 hC9 hvB hvR
  dsimp only
  go_wp2_with fail
  refine (take_calls22 A9 c9 acc W HL.out.2.1 HL.out.1 HY.out (by have:=HL.out.2.2;have:=HML.out;omega) r re HT.out).mono ?_
  rintro e w9 ⟨v7,v8,v9,rfl,h7,h8,h9,hb⟩
  obtain ⟨A7,c7,rfl⟩:=Kd.R_slice h7
  obtain ⟨A8,c8,rfl⟩:=Kd.R_slice h8
  obtain ⟨Aq,cq,rfl⟩:=Kd.S_slice h9
  have H7:=Ak h7
  have H8:=Ak h8
  have H9:=Ak h9
  have HZ9:=Ak (blk_below HI.out.hZ hb)
  have HE9:=Ak (blk_below HI.out.hE hb)
  have HK9:=Ak (blk_below HKD.out hb)
  have HB9:=Ak (below_step (Ak HI.out.hw).out hb)
  have hz0:=blk_cell HZ9.out 0
  have fz0:=blk_frozen HZ9.out 0
  have hz1:=blk_cell HZ9.out 1
  have fz1:=blk_frozen HZ9.out 1
  have hz2:=blk_cell HZ9.out 2
  have fz2:=blk_frozen HZ9.out 2
  have hz3:=blk_cell HZ9.out 3
  have fz3:=blk_frozen HZ9.out 3
  have hz4:=blk_cell HZ9.out 4
  have fz4:=blk_frozen HZ9.out 4
  have hz5:=blk_cell HZ9.out 5
  have fz5:=blk_frozen HZ9.out 5
  have hz6:=blk_cell HZ9.out 6
  have fz6:=blk_frozen HZ9.out 6
  have hz7:=blk_cell HZ9.out 7
  have fz7:=blk_frozen HZ9.out 7
  have hz8:=blk_cell HZ9.out 8
  have fz8:=blk_frozen HZ9.out 8
  have hz9:=blk_cell HZ9.out 9
  have fz9:=blk_frozen HZ9.out 9
  have he0:=blk_cell HE9.out 0
  have hg0:=blk_frozen HE9.out 0
  have hze:Z≠E:=HG2.out.2.2.1
  have hez:E≠Z:=Ne.symm hze
  clear h7 h8 h9 hb
  go_wp2_with fail
  have g2:=HG2.out
  have g5:=HG5.out
  have g6:=blk_lt HZ5.out
  have g7:=blk_lt HE5.out
  have g8:=HI.out.hM
  have g9:=blk_lt HKD.out
  have hk1:KeepBut w9 ((((((((((w9.setCell ⟨Z,0,none⟩ (.int .i64 r.f0)).setCell ⟨Z,1,none⟩ (.int .i64 r.f1)).setCell ⟨Z,2,none⟩ (.int .i64 r.f2)).setCell ⟨Z,3,none⟩ (.int .i64 r.f3)).setCell ⟨Z,4,none⟩ (.string r.f4)).setCell ⟨Z,5,none⟩ (.string r.f5.f0)).setCell ⟨Z,6,none⟩ (.string r.f5.f1)).setCell ⟨Z,7,none⟩ (.slice A7 r.f5.f2.length c7)).setCell ⟨Z,8,none⟩ (.slice A8 r.f5.f3.length c8)).setCell ⟨Z,9,none⟩ (.slice Aq r.f6.f0.length cq)) Z none:=(kb10 w9 Z (.int .i64 r.f0) (.int .i64 r.f1) (.int .i64 r.f2) (.int .i64 r.f3) (.string r.f4) (.string r.f5.f0) (.string r.f5.f1) (.slice A7 r.f5.f2.length c7) (.slice A8 r.f5.f3.length c8) (.slice Aq r.f6.f0.length cq))
  have hp1:=(bp10 HZ9.out (.int .i64 r.f0) (.int .i64 r.f1) (.int .i64 r.f2) (.int .i64 r.f3) (.string r.f4) (.string r.f5.f0) (.string r.f5.f1) (.slice A7 r.f5.f2.length c7) (.slice A8 r.f5.f3.length c8) (.slice Aq r.f6.f0.length cq))
  have hb1:=(bb10 HB9.out HG2.out.1 (.int .i64 r.f0) (.int .i64 r.f1) (.int .i64 r.f2) (.int .i64 r.f3) (.string r.f4) (.string r.f5.f0) (.string r.f5.f1) (.slice A7 r.f5.f2.length c7) (.slice A8 r.f5.f3.length c8) (.slice Aq r.f6.f0.length cq))
  have hE1:=(hk1.2 E (blk_lt HE9.out) hez (by simp)).trans HE9.out
  have hK1:=(hk1.2 D (blk_lt HK9.out) (by omega) (by simp)).trans HK9.out
  have h71:=R_off' H7.out (by omega) hk1
  have h81:=R_off' H8.out (by omega) hk1
  have h91:=S_off' H9.out (by omega) hk1
  generalize ((((((((((w9.setCell ⟨Z,0,none⟩ (.int .i64 r.f0)).setCell ⟨Z,1,none⟩ (.int .i64 r.f1)).setCell ⟨Z,2,none⟩ (.int .i64 r.f2)).setCell ⟨Z,3,none⟩ (.int .i64 r.f3)).setCell ⟨Z,4,none⟩ (.string r.f4)).setCell ⟨Z,5,none⟩ (.string r.f5.f0)).setCell ⟨Z,6,none⟩ (.string r.f5.f1)).setCell ⟨Z,7,none⟩ (.slice A7 r.f5.f2.length c7)).setCell ⟨Z,8,none⟩ (.slice A8 r.f5.f3.length c8)).setCell ⟨Z,9,none⟩ (.slice Aq r.f6.f0.length cq))=w10 at *
  have hk2:KeepBut w10 (w10.setCell ⟨E,0,none⟩ (.int .i64 re)) E none:=(KeepBut.refl w10 E none).set_ 0 (.int .i64 re)
  have hp2:=blk_far hp1 (p:=⟨E,0,none⟩) hze (.int .i64 re)
  have hE2:=blk_put (cs':=#[.int .i64 re]) hE1 0 (.int .i64 re) rfl
  have hb2:=hb1.setCell (p:=⟨E,0,none⟩) HG2.out.2.1 (.int .i64 re)
  have hK2:=(hk2.2 D (blk_lt hK1) (by omega) (by simp)).trans hK1
  have h72:=R_off' h71 (by omega) hk2
  have h82:=R_off' h81 (by omega) hk2
  have h92:=S_off' h91 (by omega) hk2
  generalize w10.setCell ⟨E,0,none⟩ (.int .i64 re)=w11 at *
  refine ⟨by simp,.inl ⟨_,_,rfl,run_takeDeferred hK2,?_⟩⟩
  have hk3:=keep_put w11 D (.deferred none)
  exact line_out rfl rfl ((hk3.2 Z (blk_lt hp2) (by omega) (by simp)).trans hp2) ((hk3.2 E (blk_lt hE2) (by omega) (by simp)).trans hE2) (Kd.R_lower (R_off' h72 (by omega) hk3) (by omega)) (Kd.R_lower (R_off' h82 (by omega) hk3) (by omega)) (Kd.S_lower (S_off' h92 (by omega) hk3) (by omega)) (hb2.grown (grownBy_putObj' w11 D _) hb2.size (fun k e=>by cases e;omega))
 case stop=>
  rintro D c' pre W hD ⟨k,hk,rfl⟩ ⟨rfl,hX⟩ hK
  have hl:=HH.out
  obtain ⟨i,hi,hbi⟩:=hX.hbad
  have him:i < k:=List.mem_range.1 hi
  have e1:min i (m - 1)=i:=by omega
  rw [e1] at hbi
  unfold lineS at hl
  rw [unhex_bad m bs i HBL.out (by omega) hbi] at hl
  simp only [Prod.mk.injEq] at hl
  obtain ⟨rfl,rfl⟩:=hl
  have g2:=HG2.out
  have g5:=HG5.out
  have g6:=blk_lt HZ5.out
  have g7:=blk_lt HE5.out
  gi_step
  refine ⟨by simp,.inl ⟨_,_,rfl,run_takeDeferred hK,?_⟩⟩
  exact line_out rfl rfl (((keep_put W D _).2 Z (blk_lt hX.hZ) (by omega) (by simp)).trans hX.hZ) (((keep_put W D _).2 E (blk_lt hX.hE) (by omega) (by simp)).trans hX.hE) (Kd.R_nil _ _ _ _ _) (Kd.R_nil _ _ _ _ _) (Kd.S_nil _ _ _ _ _) (hX.hw.grown (grownBy_putObj' W D _) hX.hw.size (fun k e=>by cases e;omega))
end Go.Proofs.YtocpcnmnhckcpaaGreat.Prt
namespace Go.Proofs.YtocpcnmnhckcpaaGreat.Prt
open RowKit YtocpcnmnhckcpaaGreatW.PrintWords YtocpcnmnhckcpaaGreatW.PrintLast YtocpcnmnhckcpaaGreatW.PrintMore YtocpcnmnhckcpaaGreat.Num YtocpcnmnhckcpaaGreat.Nam Go.Shelf
theorem nl_iff (b:UInt8):((b.toNat:Int)=10)↔b=10:=⟨fun h=>UInt8.toNat.inj (show b.toNat=10 by omega),fun h=>by rw [h];rfl⟩
theorem nl_ix:∀ l:List UInt8,Lib.indexByte l 10=if (headN (l.map fun b=>(b.toNat:Int))).length=l.length then -1 else ((headN (l.map fun b=>(b.toNat:Int))).length:Int)
 | []=>rfl
 | b :: r=>by
  have ih:=nl_ix r
  have hle:=headN_le (r.map fun b=>(b.toNat:Int))
  rw [List.length_map] at hle
  by_cases hb:b=10
  ·subst hb
   rfl
  ·have e:(b == 10)=false:=beq_eq_false_iff_ne.mpr hb
   have e2:headN ((b :: r).map fun b=>(b.toNat:Int))=(b.toNat:Int) :: headN (r.map fun b=>(b.toNat:Int)):=by
    unfold headN
    rw [List.map_cons,List.takeWhile_cons,if_pos (by simpa using fun h=>hb ((nl_iff b).1 h))]
   rw [e2,List.length_cons,List.length_cons]
   simp only [Lib.indexByte,e,ih,Bool.false_eq_true,if_false]
   generalize (headN (r.map fun b=>(b.toNat:Int))).length=m at *
   generalize r.length=n at *
   by_cases h:m=n
   ·rw [if_pos h,if_pos (show m+1=n+1 by omega)];rfl
   ·have e3:((m:Int) == -1)=false:=beq_eq_false_iff_ne.mpr (by omega)
    rw [if_neg h,if_neg (show ¬m+1=n+1 by omega),e3]
    simp
theorem nl_count:∀ l:List UInt8,Lib.countByte l 10=(l.map fun b=>(b.toNat:Int)).count 10
 | []=>rfl
 | b :: r=>by
  have ih:=nl_count r
  unfold Lib.countByte at ih ⊢
  rw [List.map_cons,List.count_cons,List.count_cons,ih]
  congr 1
  by_cases hb:b=10
  ·subst hb;rfl
  ·rw [beq_eq_false_iff_ne.mpr hb,beq_eq_false_iff_ne.mpr (fun h=>hb ((nl_iff b).1 h))]
theorem count_calls (s:ByteArray) (w:World):Calls Tryz.prog 44 #[.string s,.string ⟨#[10]⟩] w fun e w'=>e = .returned (.int .i64 ((bytesOf s).count 10:Nat))∧w'=w:=
 (Tryz.strings_Count_one s 10 w).mono (by
  rintro e w' ⟨rfl,rfl⟩
  rw [nl_count]
  exact ⟨rfl,rfl⟩)
theorem ix10_calls (s:ByteArray) (w:World):Calls Tryz.prog 98 #[.string s,.string ⟨#[10]⟩] w fun e w'=>e = .returned (.int .i64 (if (headN (bytesOf s)).length=s.size then -1 else ((headN (bytesOf s)).length:Int)))∧w'=w:=
 (Tryz.stringslite_Index_one s 10 w).mono (by
  rintro e w' ⟨rfl,rfl⟩
  rw [nl_ix,data_length]
  exact ⟨rfl,rfl⟩)
theorem head_ext (s:ByteArray):s.extract 0 (headN (bytesOf s)).length=strOfNums (headN (bytesOf s)):=by
 apply bytesOf_inj
 have hb:isBytes (headN (bytesOf s)):=fun c hc=>bytesOf_isBytes s c ((List.takeWhile_sublist _).subset hc)
 rw [bytes_extract,bytesOf_strOfNums hb,List.drop_zero,Nat.sub_zero]
 exact List.prefix_iff_eq_take.1 (List.takeWhile_prefix _) |>.symm
theorem tail_ext (s:ByteArray) (k:Nat) (hk:k≤s.size):s.extract k s.size=strOfNums ((bytesOf s).drop k):=by
 apply bytesOf_inj
 have hb:isBytes ((bytesOf s).drop k):=fun c hc=>bytesOf_isBytes s c (List.mem_of_mem_drop hc)
 rw [bytes_extract,bytesOf_strOfNums hb,List.take_of_length_le (by rw [List.length_drop,bytes_length];omega)]
set_option maxRecDepth 100000 in
theorem icut10 (s:ByteArray) (w:World) (hz:s.size≤1000000) (k:Nat) (hk:k=(headN (bytesOf s)).length) :
  Calls Tryz.prog 71 #[.string s,.string ⟨#[10]⟩] w fun e w'=>e = .returned (.tuple #[.string (strOfNums (headN (bytesOf s))),.string (strOfNums ((bytesOf s).drop (k+1))),.bool (decide (k≠s.size))])∧Below w.heap.size w w':=by
 have HE:=Ak (show s.extract 0 k=strOfNums (headN (bytesOf s)) by rw [hk];exact head_ext s)
 have hle:=headN_le (bytesOf s)
 rw [bytes_length,←hk] at hle
 have HIX:=Ak (ix10_calls s w)
 rw [←hk] at HIX
 by_cases he:k=s.size
 ·have HD:=Ak (show strOfNums ((bytesOf s).drop (k+1))=⟨#[]⟩ by rw [List.drop_of_length_le (by rw [bytes_length];omega)];rfl)
  have HF:=Ak (show decide (k≠s.size)=false from decide_eq_false (fun h=>h he))
  have HS:=Ak (show s.extract 0 k=s by
   apply bytesOf_inj
   rw [bytes_extract,List.drop_zero,List.take_of_length_le (by rw [bytes_length];omega)])
  have HC:=Ak (HIX.out)
  rw [if_pos he] at HC
  clear HIX hk he
  go_enter Tryz.func71,Tryz.ntmps71
  go_wp2_with fail
  refine HC.out.mono ?_
  rintro e w1 ⟨rfl,rfl⟩
  go_wp2
  go_ret3
  refine ⟨?_,by repeat (exact Below.refl _ _)⟩
  rw [←HE.out,HS.out,HD.out,HF.out]
  rfl
 ·have HT:=Ak (tail_ext s (k+1) (by omega))
  have HF:=Ak (show decide (k≠s.size)=true from decide_eq_true he)
  have HC:=Ak (HIX.out)
  rw [if_neg he] at HC
  have h0:decide ((0:Int)≤(k:Int))=true:=decide_eq_true (by omega)
  have hl1:¬s.size < k:=by omega
  have hl2:(0:Int)≤(k:Int)+1:=by omega
  have hl3:¬(s.size:Int) < (k:Int)+1:=by omega
  have hl4:=(wrap_small (n:=(k:Int)+1) (by omega) (by omega))
  clear HIX hk he
  go_enter Tryz.func71,Tryz.ntmps71
  go_wp2_with fail
  refine HC.out.mono ?_
  rintro e w1 ⟨rfl,rfl⟩
  go_wp2_with fail
  refine region_class (w0:=w1) (by kernel_rfl) (by kernel_rfl) (by repeat (exact Below.refl _ _)) ?_
  repeat (go_big_quiet_step (fail))
  refine wpQuiet_nil ?_
  rintro w3 ⟨n,hw⟩
  have hb:Below w1.heap.size w1 w3:=by rw [hw];exact n.2
  have HB:=Ak hb
  clear hw n hb
  go_wp2
  go_ret3
  refine ⟨?_,HB.out⟩
  rw [←HE.out,HF.out,←HT.out]
  rfl
set_option maxRecDepth 100000 in
theorem cut10 (s:ByteArray) (w:World) (hz:s.size≤1000000) (k:Nat) (hk:k=(headN (bytesOf s)).length) :
  Calls Tryz.prog 45 #[.string s,.string ⟨#[10]⟩] w fun e w'=>e = .returned (.tuple #[.string (strOfNums (headN (bytesOf s))),.string (strOfNums ((bytesOf s).drop (k+1))),.bool (decide (k≠s.size))])∧Below w.heap.size w w':=by
 have HB:=Ak (Below.refl w.heap.size w)
 have HK:=Ak hk
 obtain ⟨b,hb⟩:∃ b,b=decide (k≠s.size):=⟨_,rfl⟩
 obtain ⟨u,hu⟩:∃ u,u=strOfNums (headN (bytesOf s)):=⟨_,rfl⟩
 obtain ⟨v,hv⟩:∃ v,v=strOfNums ((bytesOf s).drop (k+1)):=⟨_,rfl⟩
 have HC:=Ak (icut10 s w hz k hk)
 rw [←hb,←hu,←hv] at HC ⊢
 clear hk hb hu hv
 go_enter Tryz.func45,Tryz.ntmps45
 go_wp2_with fail
 refine HC.out.mono ?_
 rintro e w1 ⟨rfl,hb⟩
 have HB1:=Ak hb
 clear hb
 go_wp2
 go_ret3
 exact ⟨rfl,by exact HB1.out⟩
theorem str_empty (u:ByteArray):bytesOf u=[]↔u=⟨#[]⟩:=⟨fun h=>bytesOf_inj (h.trans rfl),fun h=>by rw [h];rfl⟩
set_option maxRecDepth 100000 in
theorem parse_calls22 (s:ByteArray) (w:World) (r:List S34) (k re:Int) (h:parseS (bytesOf s)=(r,k,re)) :
  Calls Tryz.prog 14 #[.string s] w fun e w'=>∃ v,e = .returned (.tuple #[v,.int .i64 k,.int .i64 re])∧Kd.N k34 34 w' w.heap.size (fun k=>w.heap.size≤k) v r∧Below w.heap.size w w':=by
 have hbl:=bytes_length s
 have HH:=Ak h
 clear h
 have hu34:=Tryz.underlying34
 by_cases hlong:65536 < s.size
 ·have hd1:decide (65536 < (s.size:Int))=true:=decide_eq_true (by omega)
  have hq:=HH.out
  unfold parseS at hq
  rw [if_pos (.inl (by omega))] at hq
  simp only [Prod.mk.injEq] at hq
  obtain ⟨rfl,rfl,rfl⟩:=hq
  clear HH hlong hbl
  go_enter Tryz.func14,Tryz.ntmps14
  go_wp2
  go_ret3
  exact ⟨_,rfl,Kd.N_nil _ _ _ _ _,by repeat (exact Below.refl _ _)⟩
 have hd1:decide (65536 < (s.size:Int))=false:=decide_eq_false (by omega)
 have HC:=Ak (count_calls s w)
 obtain ⟨n,hn⟩:∃ n,n=(bytesOf s).count 10:=⟨_,rfl⟩
 rw [←hn] at HC
 by_cases hmany:2048 < n
 ·have hd2:decide (2048 < (n:Int))=true:=decide_eq_true (by omega)
  have hq:=HH.out
  unfold parseS at hq
  rw [if_pos (.inr (by omega))] at hq
  simp only [Prod.mk.injEq] at hq
  obtain ⟨rfl,rfl,rfl⟩:=hq
  clear HH hlong hbl hmany hn
  go_enter Tryz.func14,Tryz.ntmps14
  go_wp2_with fail
  refine HC.out.mono ?_
  rintro e w1 ⟨rfl,rfl⟩
  go_wp2
  go_ret3
  exact ⟨_,rfl,Kd.N_nil _ _ _ _ _,by repeat (exact Below.refl _ _)⟩
 have hd2:decide (2048 < (n:Int))=false:=decide_eq_false (by omega)
 have hq:=HH.out
 unfold parseS at hq
 rw [if_neg (by omega)] at hq
 have HP0:=Ak hq
 have HS:=Ak (And.intro hlong hbl)
 clear hq HH hlong hbl hmany hn
 go_enter Tryz.func14,Tryz.ntmps14
 go_wp2_with fail
 refine HC.out.mono ?_
 rintro e w1 ⟨rfl,rfl⟩
 go_wp2_with fail
 go_loopg [0,5] (s.size+1) (fun n v0 v5 w'=>∃ (u:ByteArray) (acc:List S34),v0 = .string u∧Aside0 (u.size < n)∧Aside0 (acc.length+u.size≤s.size)∧Aside0 (parseF n (bytesOf u) acc=(r,k,re))∧Aside0 (Kd.N k34 34 w' w1.heap.size (fun k=>w1.heap.size≤k) v5 acc)∧Aside0 (Below w1.heap.size w1 w'))
 case atStart=>
  refine ⟨s,[],rfl,⟨by omega⟩,⟨by simp only [List.length_nil];omega⟩,⟨by rw [←HS.out.2];exact HP0.out⟩,⟨Kd.N_nil _ _ _ _ _⟩,⟨by repeat (exact Below.refl _ _)⟩⟩
 case round=>
  obtain ⟨u,acc,rfl,HK,HL,HP,HN,HB⟩:=hrel
  by_cases hu0:u=⟨#[]⟩
  ·subst hu0
   have hq:=HP.out
   rw [show bytesOf (⟨#[]⟩:ByteArray)=[] from rfl,parseF_nil] at hq
   simp only [Prod.mk.injEq] at hq
   obtain ⟨rfl,rfl,rfl⟩:=hq
   go_wp2_with fail
   go_ret3
   exact ⟨_,rfl,HN.out,HB.out⟩
  ·have hb0:bytesOf u≠[]:=fun h=>hu0 ((str_empty u).1 h)
   have hd3:u.toList.isEmpty=false:=by
    rw [List.isEmpty_eq_false_iff]
    intro h
    refine hu0 (ByteArray.ext (Array.ext' ?_))
    rw [ByteArray.toList_eq] at h
    exact h
   have HU:=Ak hb0
   have hule:u.size≤1000000:=by have h1:=HL.out;have h2:=HS.out;omega
   obtain ⟨m,rfl⟩:∃ m,gk=m+1:=⟨gk - 1,by have:=HK.out;omega⟩
   obtain ⟨hd,hhd⟩:∃ hd,hd=headN (bytesOf u):=⟨_,rfl⟩
   have HC1:=Ak (cut10 u wr hule _ rfl)
   have hdb:isBytes hd:=by rw [hhd];exact fun c hc=>bytesOf_isBytes u c ((List.takeWhile_sublist _).subset hc)
   have hle:=headN_le (bytesOf u)
   have hq:=HP.out
   rw [parseF,if_neg hb0] at hq
   rw [←hhd,bytes_length] at hq
   rw [←hhd] at HC1
   rw [←hhd,bytes_length] at hle
   obtain ⟨sh,hsh⟩:∃ sh,sh=strOfNums hd:=⟨_,rfl⟩
   obtain ⟨st,hst⟩:∃ st,st=strOfNums ((bytesOf u).drop (hd.length+1)):=⟨_,rfl⟩
   rw [←hsh,←hst] at HC1
   have hbsh:bytesOf sh=hd:=by rw [hsh,bytesOf_strOfNums hdb]
   have hbst:bytesOf st=(bytesOf u).drop (hd.length+1):=by rw [hst,bytesOf_strOfNums (fun c hc=>bytesOf_isBytes u c (List.mem_of_mem_drop hc))]
   obtain ⟨⟨t,te⟩,hln⟩:∃ q,lineS hd=q:=⟨_,rfl⟩
   have hszh:sh.size≤100000:=by rw [←bytes_length,hbsh];have h1:=HL.out;have h2:=HS.out;omega
   have HLC:=Ak (fun W=>line_calls22 sh W hszh t te (by rw [hbsh];exact hln))
   rw [hln,←hbst] at hq
   have hbz:st.size=u.size - (hd.length+1):=by rw [←bytes_length,hbst,List.length_drop,bytes_length]
   have HQ:=Ak (And.intro hq (And.intro hbz hle))
   clear hq hbz hle hszh hln hbst hbsh hsh hst hdb hhd HP hb0 hule
   obtain ⟨ok,hok⟩:∃ ok,ok=decide (hd.length≠u.size):=⟨_,rfl⟩
   rw [←hok] at HC1
   have HOK:=Ak hok
   clear hok
   obtain ⟨A5,c5,e5⟩:=Kd.N_slice HN.out
   subst e5
   go_wp2_with fail
   refine HC1.out.mono ?_
   rintro e w2 ⟨rfl,hb2⟩
   have HB2:=Ak hb2
   clear hb2
   go_wp2_with fail
   refine (HLC.out w2).mono ?_
   rintro e w3 ⟨v7,v8,v9,rfl,h7,h8,h9,hb⟩
   obtain ⟨A7,c7,rfl⟩:=Kd.R_slice h7
   obtain ⟨A8,c8,rfl⟩:=Kd.R_slice h8
   obtain ⟨A9,c9,rfl⟩:=Kd.S_slice h9
   have H7:=Ak h7
   have H8:=Ak h8
   have H9:=Ak h9
   have HB3:=Ak hb
   clear h7 h8 h9 hb
   go_upto_region 7 with (((with_reducible refine gate_dst (N:=9) rfl ?_);(try (refine gate_guard (by rfl) ?_;dsimp only));refine box_event ?hg (N:=9) ?hd (cs:=#[.int .i64 0,.int .i64 0,.int .i64 0,.int .i64 0,.string ⟨#[]⟩,.string ⟨#[]⟩,.string ⟨#[]⟩,.slice none 0 0,.slice none 0 0,.slice none 0 0]) (t:=34) ?hr ?_;(case hd=>rfl);(case hg=>rfl);(case hr=>(go_simp;done));intro X hg_ w4 hbox_ hb_;have HX:=Ak hbox_;have HXN:=Ak hg_;have HXB:=Ak hb_;clear hbox_ hg_ hb_;obtain ⟨hc0,hc1,hc2,hc3,hc4,hc5,hc6,hc7,hc8,hc9⟩:=cl10 HX.out;obtain ⟨hf0,hf1,hf2,hf3,hf4,hf5,hf6,hf7,hf8,hf9⟩:=fr10 HX.out))
   have HP5:=Ak (bp10 HX.out (.int .i64 t.f0) (.int .i64 t.f1) (.int .i64 t.f2) (.int .i64 t.f3) (.string t.f4) (.string t.f5.f0) (.string t.f5.f1) (.slice A7 t.f5.f2.length c7) (.slice A8 t.f5.f3.length c8) (.slice A9 t.f6.f0.length c9))
   have HB5:=Ak (bb10 HXB.out (Nat.le_of_eq HXN.out.symm) (.int .i64 t.f0) (.int .i64 t.f1) (.int .i64 t.f2) (.int .i64 t.f3) (.string t.f4) (.string t.f5.f0) (.string t.f5.f1) (.slice A7 t.f5.f2.length c7) (.slice A8 t.f5.f3.length c8) (.slice A9 t.f6.f0.length c9))
   clear HX HXB hc0 hf0 hc1 hf1 hc2 hf2 hc3 hf3 hc4 hf4 hc5 hf5 hc6 hf6 hc7 hf7 hc8 hf8 hc9 hf9
   generalize ((((((((((w4.setCell ⟨X,0,none⟩ (.int .i64 t.f0)).setCell ⟨X,1,none⟩ (.int .i64 t.f1)).setCell ⟨X,2,none⟩ (.int .i64 t.f2)).setCell ⟨X,3,none⟩ (.int .i64 t.f3)).setCell ⟨X,4,none⟩ (.string t.f4)).setCell ⟨X,5,none⟩ (.string t.f5.f0)).setCell ⟨X,6,none⟩ (.string t.f5.f1)).setCell ⟨X,7,none⟩ (.slice A7 t.f5.f2.length c7)).setCell ⟨X,8,none⟩ (.slice A8 t.f5.f3.length c8)).setCell ⟨X,9,none⟩ (.slice A9 t.f6.f0.length c9))=w5 at *
   have HW:=Ak (show w1.heap.size≤wr.heap.size∧wr.heap.size≤w2.heap.size∧w2.heap.size≤w3.heap.size∧w3.heap.size≤w5.heap.size from ⟨HB.out.size,HB2.out.size,HB3.out.size,HB5.out.size⟩)
   have HB25:=Ak (show Below w2.heap.size w2 w5 from HB3.out.trans (HB5.out.mono HW.out.2.2.1))
   have HBR5:=Ak (show Below wr.heap.size wr w5 from HB2.out.trans (HB25.out.mono HW.out.2.1))
   have HB15:=Ak (show Below w1.heap.size w1 w5 from HB.out.trans (HBR5.out.mono HW.out.1))
   have hf:=HQ.out.1
   by_cases hodd:hd.length=u.size∨te≠0
   ·rw [if_pos hodd] at hf
    simp only [Prod.mk.injEq] at hf
    obtain ⟨rfl,rfl,rfl⟩:=hf
    have hal:(acc.length:Int)+1≤1000000:=by have h1:=HL.out;have h2:=HS.out;omega
    have hw1:=wrap_small (n:=(acc.length:Int)+1) (by omega) (by omega)
    by_cases h0:hd.length=u.size
    ·have e1:ok=false:=HOK.out.trans (decide_eq_false (fun h=>h h0))
     subst e1
     clear hodd h0 hal
     go_wp2_with fail
     go_ret3
     exact ⟨_,rfl,Kd.N_nil _ _ _ _ _,HB15.out⟩
    ·have e1:ok=true:=HOK.out.trans (decide_eq_true h0)
     subst e1
     have e2:(te != 0)=true:=bne_iff_ne.mpr (hodd.resolve_left h0)
     clear hodd h0 hal
     go_wp2_with fail
     go_ret3
     exact ⟨_,rfl,Kd.N_nil _ _ _ _ _,HB15.out⟩
   ·rw [if_neg hodd] at hf
    have HF:=Ak hf
    rw [not_or] at hodd
    obtain ⟨h0,h1⟩:=hodd
    have e1:ok=true:=HOK.out.trans (decide_eq_true h0)
    subst e1
    have h1:te=0:=Classical.not_not.1 h1
    subst h1
    have hal:acc.length≤100000:=by have h1:=HL.out;have h2:=HS.out;omega
    have HH0:=Ak h0
    clear h0 hf
    have HN5:=Ak (Kd.N_below HN.out HBR5.out)
    have HFK:Aside0 (Kd.FK k34 w5 (fun k=>w2.heap.size≤k) t [.int .i64 t.f0,.int .i64 t.f1,.int .i64 t.f2,.int .i64 t.f3,.string t.f4,.string t.f5.f0,.string t.f5.f1,.slice A7 t.f5.f2.length c7,.slice A8 t.f5.f3.length c8,.slice A9 t.f6.f0.length c9]):=⟨Kd.FK_of_M (k34_mkM w5 w2.heap.size (fun k=>w2.heap.size≤k) t (Kd.R_mono (Kd.R_bound (Kd.R_below H7.out HB5.out)) (fun k hk=>hk.2.1)) (Kd.R_mono (Kd.R_bound (Kd.R_below H8.out HB5.out)) (fun k hk=>hk.2.1)) (Kd.R_mono (Kd.R_bound (Kd.R_below (Kd.S_R H9.out) HB5.out)) (fun k hk=>hk.2.1)))⟩
    have HLT:=Ak (fun k hk=>Nat.lt_of_lt_of_le (Kd.N_lt HN.out k hk) HW.out.2.1)
    have HKO:Aside0 (∀ k,w2.heap.size≤k→w1.heap.size≤k∧some k≠(Value.slice A5 acc.length c5).ownBlock):=⟨fun k hk=>⟨by have:=HW.out;omega,fun e_=>by have:=HLT.out k e_.symm;omega⟩⟩
    have HSZ:=Ak (show w1.heap.size≤w5.heap.size by have:=HW.out;omega)
    have hx0:=blk_cell HP5.out 0
    have hx1:=blk_cell HP5.out 1
    have hx2:=blk_cell HP5.out 2
    have hx3:=blk_cell HP5.out 3
    have hx4:=blk_cell HP5.out 4
    have hx5:=blk_cell HP5.out 5
    have hx6:=blk_cell HP5.out 6
    have hx7:=blk_cell HP5.out 7
    have hx8:=blk_cell HP5.out 8
    have hx9:=blk_cell HP5.out 9
    go_wp2_with (((with_reducible refine gate_builtin (b:=.append) (xs:=#[.tmp 41,.tmp 43]) rfl ?_);at_builtin;refine Kd.N_append k34 (w0:=w1) w1.heap.size rfl (.tmp 41) (.tmp 43) 22 34 (.agg #[.int .i64 0,.int .i64 0,.int .i64 0,.int .i64 0,.string ⟨#[]⟩,.string ⟨#[]⟩,.string ⟨#[]⟩,.slice none 0 0,.slice none 0 0,.slice none 0 0]) 152 rfl Tryz.underlying22 info_step rfl (by decide) (by decide) (.slice A5 acc.length c5) acc t [.int .i64 t.f0,.int .i64 t.f1,.int .i64 t.f2,.int .i64 t.f3,.string t.f4,.string t.f5.f0,.string t.f5.f1,.slice A7 t.f5.f2.length c7,.slice A8 t.f5.f3.length c8,.slice A9 t.f6.f0.length c9] (fun k=>w1.heap.size≤k) (fun k=>w2.heap.size≤k) rfl rfl HFK.out HKO.out (fun _ hk=>Nat.le_trans HSZ.out hk) HN5.out HB15.out HSZ.out (by omega) ?_;intro v6_ w6_ ho hb hg hat;have HN6:=Ak ho;have HB6:=Ak hb;clear ho hb hg hat))
    go_roundg m
    case measure=>omega
    case rel=>
     have h4:=HQ.out.2
     have h5:=HH0.out
     have h6:=HK.out
     have h7:=HL.out
     exact ⟨st,acc++[t],rfl,⟨by omega⟩,⟨by rw [List.length_append,List.length_singleton];omega⟩,HF,HN6,HB6⟩
end Go.Proofs.YtocpcnmnhckcpaaGreat.Prt
namespace Go.Proofs.YtocpcnmnhckcpaaGreat.Prt
open RowKit YtocpcnmnhckcpaaGreatW.PrintWords YtocpcnmnhckcpaaGreatW.PrintLast YtocpcnmnhckcpaaGreatW.PrintMore YtocpcnmnhckcpaaGreat.Num YtocpcnmnhckcpaaGreat.Nam
theorem OkS.fit {t:S34} (h:OkS t) (h4:t.f4.size≤1000000000):FitS t:=
 ⟨h.k0,h.k1,h.k2,h.k3,h4,Nat.le_trans (mayV_fit h.hv).2 (by decide),(mayV_fit h.hv).1,mayW_fit h.hq⟩
theorem parseS_sound (s:ByteArray) (hs:s.size≤65536):(∃ m,parseS (bytesOf s)=(m,0,0)∧s=strOfNums (printL m)∧(∀ t ∈ m,OkS t)∧printS m=(printL m,0)∧(printL m).length≤s.size)∨∃ k re,re≠0∧parseS (bytesOf s)=([],k,re):=by
 unfold parseS
 by_cases h:65536 < (bytesOf s).length∨2048 < (bytesOf s).count 10
 ·rw [if_pos h];exact .inr ⟨0,3,by decide,rfl⟩
 ·rw [if_neg h]
  rw [not_or] at h
  have hbl:=bytes_length s
  rcases parseF_sound ((bytesOf s).length+1) (bytesOf s) [] (by omega) (by omega) with ⟨m,e1,e2,e3⟩ | ⟨k,e⟩
  ·refine .inl ⟨m,by rw [e1];rfl,by rw [←e2,strOfNums_bytesOf],e3,?_,by rw [←e2];omega⟩
   unfold printS
   have hc:=count_print m
   rw [←e2] at hc
   rw [if_neg (by omega),if_neg (fun h=>h (firstS_zero.2 (fun t ht=>by rw [putS_ok (e3 t ht).hv (e3 t ht).hq])))]
  ·exact .inr ⟨k,240,by decide,e⟩
end Go.Proofs.YtocpcnmnhckcpaaGreat.Prt
namespace Go.Proofs.YtocpcnmnhckcpaaGreat.Prt
open RowKit YtocpcnmnhckcpaaGreatW.PrintWords YtocpcnmnhckcpaaGreatW.PrintLast YtocpcnmnhckcpaaGreatW.PrintMore
attribute [local go_sem] max2_int min2_int max_two min_two max_three min_three max_four min_four
mutual
def q22_Put.j0:Nat→List Int→Bool→Int→Int→Int→Int→ByteArray→ByteArray→ByteArray→List ByteArray→List (S90)→List (S96)→ByteArray→ByteArray→List ByteArray→List (S90)→Option (List Int × Int)
 | 0,_,_,_,_,_,_,_,_,_,_,_,_,_,_,_,_=>none
 | k+1,x4,x45,x281000,x281001,x281002,x281003,x281004,x281005,x281006,x281007,x281008,x281009,x297000,x297001,x297002,x297003=>if x45=true then ((q01_Put.f x4 0).bind fun t297=>(q22_Put.j1 k t297 x281000 x281001 x281002 x281003 x281004 x281005 x281006 x281007 x281008 x281009)) else ((q01_Put.f x4 1).bind fun t300=>((q05_PutG.f t300 x297000 x297001 x297002 x297003).bind fun bt303=>(if bt303.2=0 then (q22_Put.j1 k bt303.1 x281000 x281001 x281002 x281003 x281004 x281005 x281006 x281007 x281008 x281009) else (some (([]:List Int),bt303.2)))))
def q22_Put.j1:Nat→List Int→Int→Int→Int→Int→ByteArray→ByteArray→ByteArray→List ByteArray→List (S90)→List (S96)→Option (List Int × Int)
 | 0,_,_,_,_,_,_,_,_,_,_,_=>none
 | k+1,x4,x281000,x281001,x281002,x281003,x281004,x281005,x281006,x281007,x281008,x281009=>if (x281009.length:Int)=0 then ((q01_Put.f x4 0).bind fun t307=>(some (t307,0))) else ((q01_Put.f x4 1).bind fun t310=>((q07_PutG.f t310 x281009).bind fun bt313=>(some (bt313.1,bt313.2))))
end
def q22_Put.f (k:Nat) (a0_0:Int) (a0_1:Int) (a0_2:Int) (a0_3:Int) (a0_4:ByteArray) (a0_5:ByteArray) (a0_6:ByteArray) (l0_7:List ByteArray) (l0_8:List (S90)) (l0_9:List (S96)):Option (List Int × Int):=(q01_Put.f ([]:List Int) a0_0).bind fun t281=>((q01_Put.f t281 a0_1).bind fun t284=>((q01_Put.f t284 a0_2).bind fun t287=>((q01_Put.f t287 a0_3).bind fun t290=>((q01_PutText.f t290 a0_4).bind fun t293=>(if a0_5.toList=([]:List UInt8) then (if a0_6.toList=([]:List UInt8) then (if (l0_7.length:Int)=0 then (q22_Put.j0 k t293 ((l0_8.length:Int) == 0) a0_0 a0_1 a0_2 a0_3 a0_4 a0_5 a0_6 l0_7 l0_8 l0_9 a0_5 a0_6 l0_7 l0_8) else (q22_Put.j0 k t293 false a0_0 a0_1 a0_2 a0_3 a0_4 a0_5 a0_6 l0_7 l0_8 l0_9 a0_5 a0_6 l0_7 l0_8)) else (q22_Put.j0 k t293 false a0_0 a0_1 a0_2 a0_3 a0_4 a0_5 a0_6 l0_7 l0_8 l0_9 a0_5 a0_6 l0_7 l0_8)) else (q22_Put.j0 k t293 false a0_0 a0_1 a0_2 a0_3 a0_4 a0_5 a0_6 l0_7 l0_8 l0_9 a0_5 a0_6 l0_7 l0_8))))))
def q22_Put.T1:Bool × List (List Nat × List Nat):=(true,[([],[]),([0],[0]),([1],[1]),([],[]),([3],[3]),([2,4,2],[2,4]),([],[]),([6],[6]),([5,7,5],[5,7]),([],[]),([9],[9]),([8,10,8],[8,10]),([11,11,0,1,2,3,4,5,6,7,8,9,10,11],[11])])
def q22_Put.B1:List Nat:=[0,1,3,0,8,31,0,64,255,0,512,2047,4095]
theorem q22_Put.tab1:rtab .any (opsOf Tryz.f11 1)=q22_Put.T1:=by kernel_rfl
theorem q22_Put.bits1:waitsOk q22_Put.T1.2 q22_Put.B1=true:=by kernel_rfl
def q22_Put.T6:Bool × List (List Nat × List Nat):=(true,[([],[]),([0],[0]),([],[]),([1,2,1],[1,2]),([3],[3]),([4],[4]),([4],[4]),([5,3,0,1,2,3,4,5],[5]),([6,7,0,1,2,3,4,5,6,7],[6])])
def q22_Put.B6:List Nat:=[0,1,0,7,15,31,31,63,255]
theorem q22_Put.tab6:rtab .any (opsOf Tryz.f11 6)=q22_Put.T6:=by kernel_rfl
theorem q22_Put.bits6:waitsOk q22_Put.T6.2 q22_Put.B6=true:=by kernel_rfl
def q22_Put.T12:Bool × List (List Nat × List Nat):=(true,[([],[]),([0],[0]),([],[]),([2],[2]),([1,3,1],[1,3]),([4],[4]),([4],[4]),([5,4,0,1,2,3,4,5,6],[5]),([6,7,0,1,2,3,4,5,6,7],[6])])
def q22_Put.B12:List Nat:=[0,1,0,4,15,31,31,127,255]
theorem q22_Put.tab12:rtab .any (opsOf Tryz.f11 12)=q22_Put.T12:=by kernel_rfl
theorem q22_Put.bits12:waitsOk q22_Put.T12.2 q22_Put.B12=true:=by kernel_rfl
set_option maxHeartbeats 8000000 in
set_option maxRecDepth 100000 in
theorem q22_Put.calls (k:Nat) (a0_0:Int) (a0_1:Int) (a0_2:Int) (a0_3:Int) (a0_4:ByteArray) (a0_5:ByteArray) (a0_6:ByteArray) (A0_7:Option Addr) (c0_7:Nat) (l0_7:List ByteArray) (A0_8:Option Addr) (c0_8:Nat) (l0_8:List (S90)) (A0_9:Option Addr) (c0_9:Nat) (l0_9:List (S96)) (r1:List Int) (r2:Int) (w:World) (hr0_7:Kd.C Kd.string w A0_7 l0_7.length l0_7) (hc0_7:l0_7.length≤c0_7) (hr0_8:Kd.C k90 w A0_8 l0_8.length l0_8) (hc0_8:l0_8.length≤c0_8) (hr0_9:Kd.C k96 w A0_9 l0_9.length l0_9) (hc0_9:l0_9.length≤c0_9) (h:q22_Put.f k a0_0 a0_1 a0_2 a0_3 a0_4 a0_5 a0_6 l0_7 l0_8 l0_9=some (r1,r2)) :
  Calls Tryz.prog 11 #[.agg #[.int .i64 a0_0,.int .i64 a0_1,.int .i64 a0_2,.int .i64 a0_3,.string a0_4,.string a0_5,.string a0_6,.slice A0_7 l0_7.length c0_7,.slice A0_8 l0_8.length c0_8,.slice A0_9 l0_9.length c0_9]] w fun e w'=>∃ v0_:Value,e = .returned (.tuple #[v0_,.int .i64 r2])∧Kd.R (Kd.int .u8) 5 w' w.heap.size (fun _=>True) v0_ r1∧Below w.heap.size w w':=by
 have hu34:=Tryz.underlying34
 have hu29:=Tryz.underlying29
 have hu32:=Tryz.underlying32
 have HR0_7:=Ak hr0_7
 have HC0_7:=Ak hc0_7
 clear hr0_7 hc0_7
 have HR0_8:=Ak hr0_8
 have HC0_8:=Ak hc0_8
 clear hr0_8 hc0_8
 have HR0_9:=Ak hr0_9
 have HC0_9:=Ak hc0_9
 clear hr0_9 hc0_9
 have HB:=Ak (Below.refl w.heap.size w)
 have H:((q01_Put.f ([]:List Int) a0_0).bind fun t281=>((q01_Put.f t281 a0_1).bind fun t284=>((q01_Put.f t284 a0_2).bind fun t287=>((q01_Put.f t287 a0_3).bind fun t290=>((q01_PutText.f t290 a0_4).bind fun t293=>(if a0_5.toList=([]:List UInt8) then (if a0_6.toList=([]:List UInt8) then (if (l0_7.length:Int)=0 then (q22_Put.j0 k t293 ((l0_8.length:Int) == 0) a0_0 a0_1 a0_2 a0_3 a0_4 a0_5 a0_6 l0_7 l0_8 l0_9 a0_5 a0_6 l0_7 l0_8) else (q22_Put.j0 k t293 false a0_0 a0_1 a0_2 a0_3 a0_4 a0_5 a0_6 l0_7 l0_8 l0_9 a0_5 a0_6 l0_7 l0_8)) else (q22_Put.j0 k t293 false a0_0 a0_1 a0_2 a0_3 a0_4 a0_5 a0_6 l0_7 l0_8 l0_9 a0_5 a0_6 l0_7 l0_8)) else (q22_Put.j0 k t293 false a0_0 a0_1 a0_2 a0_3 a0_4 a0_5 a0_6 l0_7 l0_8 l0_9 a0_5 a0_6 l0_7 l0_8)))))))=some (r1,r2):=h
 clear h
 replace H:=Option.bind_eq_some_iff.mp H
 obtain ⟨t281,A20,H⟩:=H
 replace H:((q01_Put.f t281 a0_1).bind fun t284=>((q01_Put.f t284 a0_2).bind fun t287=>((q01_Put.f t287 a0_3).bind fun t290=>((q01_PutText.f t290 a0_4).bind fun t293=>(if a0_5.toList=([]:List UInt8) then (if a0_6.toList=([]:List UInt8) then (if (l0_7.length:Int)=0 then (q22_Put.j0 k t293 ((l0_8.length:Int) == 0) a0_0 a0_1 a0_2 a0_3 a0_4 a0_5 a0_6 l0_7 l0_8 l0_9 a0_5 a0_6 l0_7 l0_8) else (q22_Put.j0 k t293 false a0_0 a0_1 a0_2 a0_3 a0_4 a0_5 a0_6 l0_7 l0_8 l0_9 a0_5 a0_6 l0_7 l0_8)) else (q22_Put.j0 k t293 false a0_0 a0_1 a0_2 a0_3 a0_4 a0_5 a0_6 l0_7 l0_8 l0_9 a0_5 a0_6 l0_7 l0_8)) else (q22_Put.j0 k t293 false a0_0 a0_1 a0_2 a0_3 a0_4 a0_5 a0_6 l0_7 l0_8 l0_9 a0_5 a0_6 l0_7 l0_8))))))=some (r1,r2):=H
 have A2:=Ak A20
 clear A20
 replace H:=Option.bind_eq_some_iff.mp H
 obtain ⟨t284,A30,H⟩:=H
 replace H:((q01_Put.f t284 a0_2).bind fun t287=>((q01_Put.f t287 a0_3).bind fun t290=>((q01_PutText.f t290 a0_4).bind fun t293=>(if a0_5.toList=([]:List UInt8) then (if a0_6.toList=([]:List UInt8) then (if (l0_7.length:Int)=0 then (q22_Put.j0 k t293 ((l0_8.length:Int) == 0) a0_0 a0_1 a0_2 a0_3 a0_4 a0_5 a0_6 l0_7 l0_8 l0_9 a0_5 a0_6 l0_7 l0_8) else (q22_Put.j0 k t293 false a0_0 a0_1 a0_2 a0_3 a0_4 a0_5 a0_6 l0_7 l0_8 l0_9 a0_5 a0_6 l0_7 l0_8)) else (q22_Put.j0 k t293 false a0_0 a0_1 a0_2 a0_3 a0_4 a0_5 a0_6 l0_7 l0_8 l0_9 a0_5 a0_6 l0_7 l0_8)) else (q22_Put.j0 k t293 false a0_0 a0_1 a0_2 a0_3 a0_4 a0_5 a0_6 l0_7 l0_8 l0_9 a0_5 a0_6 l0_7 l0_8)))))=some (r1,r2):=H
 have A3:=Ak A30
 clear A30
 replace H:=Option.bind_eq_some_iff.mp H
 obtain ⟨t287,A40,H⟩:=H
 replace H:((q01_Put.f t287 a0_3).bind fun t290=>((q01_PutText.f t290 a0_4).bind fun t293=>(if a0_5.toList=([]:List UInt8) then (if a0_6.toList=([]:List UInt8) then (if (l0_7.length:Int)=0 then (q22_Put.j0 k t293 ((l0_8.length:Int) == 0) a0_0 a0_1 a0_2 a0_3 a0_4 a0_5 a0_6 l0_7 l0_8 l0_9 a0_5 a0_6 l0_7 l0_8) else (q22_Put.j0 k t293 false a0_0 a0_1 a0_2 a0_3 a0_4 a0_5 a0_6 l0_7 l0_8 l0_9 a0_5 a0_6 l0_7 l0_8)) else (q22_Put.j0 k t293 false a0_0 a0_1 a0_2 a0_3 a0_4 a0_5 a0_6 l0_7 l0_8 l0_9 a0_5 a0_6 l0_7 l0_8)) else (q22_Put.j0 k t293 false a0_0 a0_1 a0_2 a0_3 a0_4 a0_5 a0_6 l0_7 l0_8 l0_9 a0_5 a0_6 l0_7 l0_8))))=some (r1,r2):=H
 have A4:=Ak A40
 clear A40
 replace H:=Option.bind_eq_some_iff.mp H
 obtain ⟨t290,A50,H⟩:=H
 replace H:((q01_PutText.f t290 a0_4).bind fun t293=>(if a0_5.toList=([]:List UInt8) then (if a0_6.toList=([]:List UInt8) then (if (l0_7.length:Int)=0 then (q22_Put.j0 k t293 ((l0_8.length:Int) == 0) a0_0 a0_1 a0_2 a0_3 a0_4 a0_5 a0_6 l0_7 l0_8 l0_9 a0_5 a0_6 l0_7 l0_8) else (q22_Put.j0 k t293 false a0_0 a0_1 a0_2 a0_3 a0_4 a0_5 a0_6 l0_7 l0_8 l0_9 a0_5 a0_6 l0_7 l0_8)) else (q22_Put.j0 k t293 false a0_0 a0_1 a0_2 a0_3 a0_4 a0_5 a0_6 l0_7 l0_8 l0_9 a0_5 a0_6 l0_7 l0_8)) else (q22_Put.j0 k t293 false a0_0 a0_1 a0_2 a0_3 a0_4 a0_5 a0_6 l0_7 l0_8 l0_9 a0_5 a0_6 l0_7 l0_8)))=some (r1,r2):=H
 have A5:=Ak A50
 clear A50
 replace H:=Option.bind_eq_some_iff.mp H
 obtain ⟨t293,A60,H⟩:=H
 replace H:(if a0_5.toList=([]:List UInt8) then (if a0_6.toList=([]:List UInt8) then (if (l0_7.length:Int)=0 then (q22_Put.j0 k t293 ((l0_8.length:Int) == 0) a0_0 a0_1 a0_2 a0_3 a0_4 a0_5 a0_6 l0_7 l0_8 l0_9 a0_5 a0_6 l0_7 l0_8) else (q22_Put.j0 k t293 false a0_0 a0_1 a0_2 a0_3 a0_4 a0_5 a0_6 l0_7 l0_8 l0_9 a0_5 a0_6 l0_7 l0_8)) else (q22_Put.j0 k t293 false a0_0 a0_1 a0_2 a0_3 a0_4 a0_5 a0_6 l0_7 l0_8 l0_9 a0_5 a0_6 l0_7 l0_8)) else (q22_Put.j0 k t293 false a0_0 a0_1 a0_2 a0_3 a0_4 a0_5 a0_6 l0_7 l0_8 l0_9 a0_5 a0_6 l0_7 l0_8))=some (r1,r2):=H
 have A6:=Ak A60
 clear A60
 have HC7:=Ak H
 clear H
 go_enter Tryz.func11,Tryz.ntmps11
 try go_wp2_with (((with_reducible refine gate_dst (N:=1) rfl ?_);(try (refine gate_guard (by rfl) ?_;dsimp only));refine box_event ?hg (N:=1) ?hd (cs:=#[.int .i64 a0_0,.int .i64 a0_1,.int .i64 a0_2,.int .i64 a0_3,.string a0_4,.string a0_5,.string a0_6,.slice A0_7 l0_7.length c0_7,.slice A0_8 l0_8.length c0_8,.slice A0_9 l0_9.length c0_9]) (t:=34) ?hr ?_;(case hd=>rfl);(case hg=>rfl);(case hr=>(go_simp;done));intro gb280 hg w8 hbox hb;have n0_:=Ak (below_step HB.out hb);have n1_:=Ak (hbox);have n2_:=Ak ((by rw [hg];exact (below_size HB.out):w.heap.size≤gb280));have n3_:=Ak ((by rw [hg];exact (below_size HB.out):w.heap.size≤gb280));clear HB;have HB:=n0_;have BK280:=n1_;have GW280:=n2_;have GE280:=n3_;clear n0_ n1_ n2_ n3_;clear hb hbox hg))
 replace BK280:=Ak (blk_drew BK280.out)
 replace HB:=Ak (below_drew1 HB.out)
 refine start_ (n:=13) (S:=fun w'=>w'.cell? ⟨gb280,0,none⟩=some (.int .i64 a0_0)∧w'.cell? ⟨gb280,1,none⟩=some (.int .i64 a0_1)∧w'.cell? ⟨gb280,2,none⟩=some (.int .i64 a0_2)∧w'.cell? ⟨gb280,3,none⟩=some (.int .i64 a0_3)∧w'.cell? ⟨gb280,4,none⟩=some (.string a0_4)∧w'.cell? ⟨gb280,5,none⟩=some (.string a0_5)∧w'.cell? ⟨gb280,6,none⟩=some (.string a0_6)∧w'.cell? ⟨gb280,7,none⟩=some (.slice A0_7 l0_7.length c0_7)∧w'.cell? ⟨gb280,8,none⟩=some (.slice A0_8 l0_8.length c0_8)∧w'.cell? ⟨gb280,9,none⟩=some (.slice A0_9 l0_9.length c0_9)) (ds:=[]) #[false,false,false,false,false,false,false,false,false,false,false,false,false] (by kernel_rfl) rfl rfl ⟨(blk_cell BK280.out 0).trans rfl,(blk_cell BK280.out 1).trans rfl,(blk_cell BK280.out 2).trans rfl,(blk_cell BK280.out 3).trans rfl,(blk_cell BK280.out 4).trans rfl,(blk_cell BK280.out 5).trans rfl,(blk_cell BK280.out 6).trans rfl,(blk_cell BK280.out 7).trans rfl,(blk_cell BK280.out 8).trans rfl,(blk_cell BK280.out 9).trans rfl⟩ (fun hHeld=>?_);refine with_tabW q22_Put.tab1 q22_Put.bits1 (fun HT_ HW_=>?_)
 generalize w8.drew=w9 at BK280 HB hHeld ⊢
 refine pure_ (i:=0) (N:=some 8) (v:=?_) (a':=?_) #[true,false,false,false,false,false,false,false,false,false,false,false,false] rfl rfl (any_of HT_.out (by kernel_rfl)) (fun _ _ _ h=>h) (Or.inl ⟨by rfl,?_⟩) ?_ ?_
 rotate_left
 ·intro w'
  go_simp
  with_reducible rfl
 rotate_left
 ·simp only [Act.put,List.setIfInBounds_toArray,List.set_cons_zero,List.set_cons_succ,i64_w,i32_w]
  rfl
 refine pure_ (i:=3) (N:=some 11) (v:=?_) (a':=?_) #[true,false,false,true,false,false,false,false,false,false,false,false,false] rfl rfl (any_of HT_.out (by kernel_rfl)) (fun _ _ _ h=>h) (Or.inl ⟨by rfl,?_⟩) ?_ ?_
 rotate_left
 ·intro w'
  go_simp
  with_reducible rfl
 rotate_left
 ·simp only [Act.put,List.setIfInBounds_toArray,List.set_cons_zero,List.set_cons_succ,i64_w,i32_w]
  rfl
 refine pure_ (i:=6) (N:=some 14) (v:=?_) (a':=?_) #[true,false,false,true,false,false,true,false,false,false,false,false,false] rfl rfl (any_of HT_.out (by kernel_rfl)) (fun _ _ _ h=>h) (Or.inl ⟨by rfl,?_⟩) ?_ ?_
 rotate_left
 ·intro w'
  go_simp
  with_reducible rfl
 rotate_left
 ·simp only [Act.put,List.setIfInBounds_toArray,List.set_cons_zero,List.set_cons_succ,i64_w,i32_w]
  rfl
 refine pure_ (i:=9) (N:=some 17) (v:=?_) (a':=?_) #[true,false,false,true,false,false,true,false,false,true,false,false,false] rfl rfl (any_of HT_.out (by kernel_rfl)) (fun _ _ _ h=>h) (Or.inl ⟨by rfl,?_⟩) ?_ ?_
 rotate_left
 ·intro w'
  go_simp
  with_reducible rfl
 rotate_left
 ·simp only [Act.put,List.setIfInBounds_toArray,List.set_cons_zero,List.set_cons_succ,i64_w,i32_w]
  rfl
 refine take_ (i:=1) (N:=some 9) (v:=?_) (a':=?_) #[true,true,false,true,false,false,true,false,false,true,false,false,false] rfl rfl (take_ofW HT_.out HW_.out (by kernel_rfl)) (fun _ _ _ h=>h) (Or.inl ⟨by rfl,?_⟩) hHeld ?_ ?_
 rotate_left
 ·rintro w' ⟨s0,s1,s2,s3,s4,s5,s6,s7,s8,s9⟩
  go_simp
  with_reducible rfl
 rotate_left
 ·simp only [Act.put,List.setIfInBounds_toArray,List.set_cons_zero,List.set_cons_succ,i64_w,i32_w]
  rfl
 refine take_ (i:=4) (N:=some 12) (v:=?_) (a':=?_) #[true,true,false,true,true,false,true,false,false,true,false,false,false] rfl rfl (take_ofW HT_.out HW_.out (by kernel_rfl)) (fun _ _ _ h=>h) (Or.inl ⟨by rfl,?_⟩) hHeld ?_ ?_
 rotate_left
 ·rintro w' ⟨s0,s1,s2,s3,s4,s5,s6,s7,s8,s9⟩
  go_simp
  with_reducible rfl
 rotate_left
 ·simp only [Act.put,List.setIfInBounds_toArray,List.set_cons_zero,List.set_cons_succ,i64_w,i32_w]
  rfl
 refine take_ (i:=7) (N:=some 15) (v:=?_) (a':=?_) #[true,true,false,true,true,false,true,true,false,true,false,false,false] rfl rfl (take_ofW HT_.out HW_.out (by kernel_rfl)) (fun _ _ _ h=>h) (Or.inl ⟨by rfl,?_⟩) hHeld ?_ ?_
 rotate_left
 ·rintro w' ⟨s0,s1,s2,s3,s4,s5,s6,s7,s8,s9⟩
  go_simp
  with_reducible rfl
 rotate_left
 ·simp only [Act.put,List.setIfInBounds_toArray,List.set_cons_zero,List.set_cons_succ,i64_w,i32_w]
  rfl
 refine take_ (i:=10) (N:=some 18) (v:=?_) (a':=?_) #[true,true,false,true,true,false,true,true,false,true,true,false,false] rfl rfl (take_ofW HT_.out HW_.out (by kernel_rfl)) (fun _ _ _ h=>h) (Or.inl ⟨by rfl,?_⟩) hHeld ?_ ?_
 rotate_left
 ·rintro w' ⟨s0,s1,s2,s3,s4,s5,s6,s7,s8,s9⟩
  go_simp
  with_reducible rfl
 rotate_left
 ·simp only [Act.put,List.setIfInBounds_toArray,List.set_cons_zero,List.set_cons_succ,i64_w,i32_w]
  rfl
 refine one_ (i:=2) (N:=some 10) #[true,true,true,true,true,false,true,true,false,true,true,false,false] rfl rfl (one_of HT_.out (by kernel_rfl)) (by decide) (fun K hK=>?_)
 refine goes_ Tryz.func36 (by kernel_rfl) rfl #[.slice none 0 0,.int .i64 a0_0] (by rfl) rfl rfl (by (try simp only [List.map_toArray,List.map_cons,List.map_nil]);rfl) ?_
 refine (q01_Put.calls _ _ ([]:List Int) a0_0 t281 _ ?side1 ?side2 A2.out).mono ?_
 (case side1=>exact Kd.C_nil _ _)
 (case side2=>exact Nat.le_refl _)
 rintro e w10 ⟨v282,rfl,ho0,hb⟩
 refine ⟨_,rfl,?_⟩
 have HO283:=Ak (Kd.R_lower ho0 (below_size HB.out))
 replace BK280:=Ak (blk_below (g:=gb280) (o:=.cells #[.int .i64 a0_0,.int .i64 a0_1,.int .i64 a0_2,.int .i64 a0_3,.string a0_4,.string a0_5,.string a0_6,.slice A0_7 l0_7.length c0_7,.slice A0_8 l0_8.length c0_8,.slice A0_9 l0_9.length c0_9] 34 (0,0)) BK280.out hb)
 replace HB:=Ak (below_step HB.out hb)
 (try clear hb)
 (try clear ho0)
 obtain ⟨Ao11,co11,eo11⟩:=Kd.R_slice HO283.out
 (subst eo11)
 refine hK.out _ _ ⟨(blk_cell BK280.out 0).trans rfl,(blk_cell BK280.out 1).trans rfl,(blk_cell BK280.out 2).trans rfl,(blk_cell BK280.out 3).trans rfl,(blk_cell BK280.out 4).trans rfl,(blk_cell BK280.out 5).trans rfl,(blk_cell BK280.out 6).trans rfl,(blk_cell BK280.out 7).trans rfl,(blk_cell BK280.out 8).trans rfl,(blk_cell BK280.out 9).trans rfl⟩ (fun hHeld=>?_)
 clear hK K
 refine norm_ (a':=?_) ?_ ?_
 rotate_left
 ·show Act.put _ (some 10) _=_
  simp only [Act.put,List.setIfInBounds_toArray,List.set_cons_zero,List.set_cons_succ,i64_w,i32_w]
  rfl
 refine one_ (i:=5) (N:=some 13) #[true,true,true,true,true,true,true,true,false,true,true,false,false] rfl rfl (one_of HT_.out (by kernel_rfl)) (by decide) (fun K hK=>?_)
 refine goes_ Tryz.func36 (by kernel_rfl) rfl #[.slice Ao11 t281.length co11,.int .i64 a0_1] (by rfl) rfl rfl (by (try simp only [List.map_toArray,List.map_cons,List.map_nil]);rfl) ?_
 with_reducible refine (q01_Put.calls _ _ t281 a0_1 t284 _ ?side1 ?side2 A3.out).mono ?_
 (case side1=>repeat (exact (Kd.R_reads' HO283.out).2.2))
 (case side2=>exact (Kd.R_reads' HO283.out).2.1)
 rintro e w12 ⟨v285,rfl,ho0,hb⟩
 refine ⟨_,rfl,?_⟩
 have n0_:=Ak (Kd.R_elder' HO283.out (Kd.R_base ho0) hb)
 have n1_:=Ak (Kd.R_lower (Kd.R_new' ho0 (Kd.R_lt HO283.out)) (below_size HB.out))
 have n2_:=Ak (blk_below (g:=gb280) (o:=.cells #[.int .i64 a0_0,.int .i64 a0_1,.int .i64 a0_2,.int .i64 a0_3,.string a0_4,.string a0_5,.string a0_6,.slice A0_7 l0_7.length c0_7,.slice A0_8 l0_8.length c0_8,.slice A0_9 l0_9.length c0_9] 34 (0,0)) BK280.out hb)
 have n3_:=Ak (below_step HB.out hb)
 clear HO283
 clear BK280
 clear HB
 have HO283:=n0_
 have HO286:=n1_
 have BK280:=n2_
 have HB:=n3_
 clear n0_ n1_ n2_ n3_
 (try clear hb)
 (try clear ho0)
 obtain ⟨Ao13,co13,eo13⟩:=Kd.R_slice HO286.out
 (subst eo13)
 refine hK.out _ _ ⟨(blk_cell BK280.out 0).trans rfl,(blk_cell BK280.out 1).trans rfl,(blk_cell BK280.out 2).trans rfl,(blk_cell BK280.out 3).trans rfl,(blk_cell BK280.out 4).trans rfl,(blk_cell BK280.out 5).trans rfl,(blk_cell BK280.out 6).trans rfl,(blk_cell BK280.out 7).trans rfl,(blk_cell BK280.out 8).trans rfl,(blk_cell BK280.out 9).trans rfl⟩ (fun hHeld=>?_)
 clear hK K
 refine norm_ (a':=?_) ?_ ?_
 rotate_left
 ·show Act.put _ (some 13) _=_
  simp only [Act.put,List.setIfInBounds_toArray,List.set_cons_zero,List.set_cons_succ,i64_w,i32_w]
  rfl
 refine one_ (i:=8) (N:=some 16) #[true,true,true,true,true,true,true,true,true,true,true,false,false] rfl rfl (one_of HT_.out (by kernel_rfl)) (by decide) (fun K hK=>?_)
 refine goes_ Tryz.func36 (by kernel_rfl) rfl #[.slice Ao13 t284.length co13,.int .i64 a0_2] (by rfl) rfl rfl (by (try simp only [List.map_toArray,List.map_cons,List.map_nil]);rfl) ?_
 with_reducible refine (q01_Put.calls _ _ t284 a0_2 t287 _ ?side1 ?side2 A4.out).mono ?_
 (case side1=>repeat (exact (Kd.R_reads' HO286.out).2.2))
 (case side2=>exact (Kd.R_reads' HO286.out).2.1)
 rintro e w14 ⟨v288,rfl,ho0,hb⟩
 refine ⟨_,rfl,?_⟩
 have n0_:=Ak (Kd.R_elder' HO283.out (Kd.R_base ho0) hb)
 have n1_:=Ak (Kd.R_elder' HO286.out (Kd.R_base ho0) hb)
 have n2_:=Ak (Kd.R_lower (Kd.R_new' (Kd.R_new' ho0 (Kd.R_lt HO283.out)) (Kd.R_lt HO286.out)) (below_size HB.out))
 have n3_:=Ak (blk_below (g:=gb280) (o:=.cells #[.int .i64 a0_0,.int .i64 a0_1,.int .i64 a0_2,.int .i64 a0_3,.string a0_4,.string a0_5,.string a0_6,.slice A0_7 l0_7.length c0_7,.slice A0_8 l0_8.length c0_8,.slice A0_9 l0_9.length c0_9] 34 (0,0)) BK280.out hb)
 have n4_:=Ak (below_step HB.out hb)
 clear HO283
 clear HO286
 clear BK280
 clear HB
 have HO283:=n0_
 have HO286:=n1_
 have HO289:=n2_
 have BK280:=n3_
 have HB:=n4_
 clear n0_ n1_ n2_ n3_ n4_
 (try clear hb)
 (try clear ho0)
 obtain ⟨Ao15,co15,eo15⟩:=Kd.R_slice HO289.out
 (subst eo15)
 refine hK.out _ _ ⟨(blk_cell BK280.out 0).trans rfl,(blk_cell BK280.out 1).trans rfl,(blk_cell BK280.out 2).trans rfl,(blk_cell BK280.out 3).trans rfl,(blk_cell BK280.out 4).trans rfl,(blk_cell BK280.out 5).trans rfl,(blk_cell BK280.out 6).trans rfl,(blk_cell BK280.out 7).trans rfl,(blk_cell BK280.out 8).trans rfl,(blk_cell BK280.out 9).trans rfl⟩ (fun hHeld=>?_)
 clear hK K
 refine norm_ (a':=?_) ?_ ?_
 rotate_left
 ·show Act.put _ (some 16) _=_
  simp only [Act.put,List.setIfInBounds_toArray,List.set_cons_zero,List.set_cons_succ,i64_w,i32_w]
  rfl
 refine one_ (i:=11) (N:=some 19) #[true,true,true,true,true,true,true,true,true,true,true,true,false] rfl rfl (one_of HT_.out (by kernel_rfl)) (by decide) (fun K hK=>?_)
 refine goes_ Tryz.func36 (by kernel_rfl) rfl #[.slice Ao15 t287.length co15,.int .i64 a0_3] (by rfl) rfl rfl (by (try simp only [List.map_toArray,List.map_cons,List.map_nil]);rfl) ?_
 with_reducible refine (q01_Put.calls _ _ t287 a0_3 t290 _ ?side1 ?side2 A5.out).mono ?_
 (case side1=>repeat (exact (Kd.R_reads' HO289.out).2.2))
 (case side2=>exact (Kd.R_reads' HO289.out).2.1)
 rintro e w16 ⟨v291,rfl,ho0,hb⟩
 refine ⟨_,rfl,?_⟩
 have n0_:=Ak (Kd.R_elder' HO283.out (Kd.R_base ho0) hb)
 have n1_:=Ak (Kd.R_elder' HO286.out (Kd.R_base ho0) hb)
 have n2_:=Ak (Kd.R_elder' HO289.out (Kd.R_base ho0) hb)
 have n3_:=Ak (Kd.R_lower (Kd.R_new' (Kd.R_new' (Kd.R_new' ho0 (Kd.R_lt HO283.out)) (Kd.R_lt HO286.out)) (Kd.R_lt HO289.out)) (below_size HB.out))
 have n4_:=Ak (blk_below (g:=gb280) (o:=.cells #[.int .i64 a0_0,.int .i64 a0_1,.int .i64 a0_2,.int .i64 a0_3,.string a0_4,.string a0_5,.string a0_6,.slice A0_7 l0_7.length c0_7,.slice A0_8 l0_8.length c0_8,.slice A0_9 l0_9.length c0_9] 34 (0,0)) BK280.out hb)
 have n5_:=Ak (below_step HB.out hb)
 clear HO283
 clear HO286
 clear HO289
 clear BK280
 clear HB
 have HO283:=n0_
 have HO286:=n1_
 have HO289:=n2_
 have HO292:=n3_
 have BK280:=n4_
 have HB:=n5_
 clear n0_ n1_ n2_ n3_ n4_ n5_
 (try clear hb)
 (try clear ho0)
 refine hK.out _ _ ⟨(blk_cell BK280.out 0).trans rfl,(blk_cell BK280.out 1).trans rfl,(blk_cell BK280.out 2).trans rfl,(blk_cell BK280.out 3).trans rfl,(blk_cell BK280.out 4).trans rfl,(blk_cell BK280.out 5).trans rfl,(blk_cell BK280.out 6).trans rfl,(blk_cell BK280.out 7).trans rfl,(blk_cell BK280.out 8).trans rfl,(blk_cell BK280.out 9).trans rfl⟩ (fun hHeld=>?_)
 clear hK K
 refine norm_ (a':=?_) ?_ ?_
 rotate_left
 ·show Act.put _ (some 19) _=_
  simp only [Act.put,List.setIfInBounds_toArray,List.set_cons_zero,List.set_cons_succ,i64_w,i32_w]
  rfl
 refine pure_ (i:=12) (N:=some 4) (v:=?_) (a':=?_) #[true,true,true,true,true,true,true,true,true,true,true,true,true] rfl rfl (any_of HT_.out (by kernel_rfl)) (fun _ _ _ h=>h) (Or.inl ⟨by rfl,?_⟩) ?_ ?_
 rotate_left
 ·intro w'
  go_simp
  with_reducible rfl
 rotate_left
 ·simp only [Act.put,List.setIfInBounds_toArray,List.set_cons_zero,List.set_cons_succ,i64_w,i32_w]
  rfl
 refine done_ (done_of HT_.out (by kernel_rfl)) ?_
 have hcz17_0:w16.cell? ⟨gb280,0,none⟩=some (.int .i64 a0_0):=(blk_cell BK280.out 0).trans rfl
 have hcz17_1:w16.cell? ⟨gb280,1,none⟩=some (.int .i64 a0_1):=(blk_cell BK280.out 1).trans rfl
 have hcz17_2:w16.cell? ⟨gb280,2,none⟩=some (.int .i64 a0_2):=(blk_cell BK280.out 2).trans rfl
 have hcz17_3:w16.cell? ⟨gb280,3,none⟩=some (.int .i64 a0_3):=(blk_cell BK280.out 3).trans rfl
 have hcz17_4:w16.cell? ⟨gb280,4,none⟩=some (.string a0_4):=(blk_cell BK280.out 4).trans rfl
 have hcz17_5:w16.cell? ⟨gb280,5,none⟩=some (.string a0_5):=(blk_cell BK280.out 5).trans rfl
 have hcz17_6:w16.cell? ⟨gb280,6,none⟩=some (.string a0_6):=(blk_cell BK280.out 6).trans rfl
 have hcz17_7:w16.cell? ⟨gb280,7,none⟩=some (.slice A0_7 l0_7.length c0_7):=(blk_cell BK280.out 7).trans rfl
 have hcz17_8:w16.cell? ⟨gb280,8,none⟩=some (.slice A0_8 l0_8.length c0_8):=(blk_cell BK280.out 8).trans rfl
 have hcz17_9:w16.cell? ⟨gb280,9,none⟩=some (.slice A0_9 l0_9.length c0_9):=(blk_cell BK280.out 9).trans rfl
 have hfz17_0:=blk_frozen BK280.out 0
 have hfz17_1:=blk_frozen BK280.out 1
 have hfz17_2:=blk_frozen BK280.out 2
 have hfz17_3:=blk_frozen BK280.out 3
 have hfz17_4:=blk_frozen BK280.out 4
 have hfz17_5:=blk_frozen BK280.out 5
 have hfz17_6:=blk_frozen BK280.out 6
 have hfz17_7:=blk_frozen BK280.out 7
 have hfz17_8:=blk_frozen BK280.out 8
 have hfz17_9:=blk_frozen BK280.out 9
 obtain ⟨Ao18,co18,eo18⟩:=Kd.R_slice HO292.out
 subst eo18
 go_upto_region 4 with (first | ((with_reducible refine gate_callee (f:=37) rfl ?_);refine goesL_ (some 23) rfl rfl Tryz.func37 (by kernel_rfl) rfl #[.slice Ao18 t290.length co18,.string a0_4] rfl (by (try simp only [List.map_toArray,List.map_cons,List.map_nil]);rfl) ?_;(with_reducible refine (q01_PutText.calls _ _ t290 a0_4 t293 _ ?side1 ?side2 A6.out).mono ?_);(case side1=>repeat (exact (Kd.R_reads' HO292.out).2.2));(case side2=>exact (Kd.R_reads' HO292.out).2.1);rintro e w19 ⟨v294,rfl,ho0,hb⟩;refine ⟨_,rfl,?_⟩;have n0_:=Ak (Kd.R_elder' HO283.out (Kd.R_base ho0) hb);have n1_:=Ak (Kd.R_elder' HO286.out (Kd.R_base ho0) hb);have n2_:=Ak (Kd.R_elder' HO289.out (Kd.R_base ho0) hb);have n3_:=Ak (Kd.R_elder' HO292.out (Kd.R_base ho0) hb);have n4_:=Ak (Kd.R_lower (Kd.R_new' (Kd.R_new' (Kd.R_new' (Kd.R_new' ho0 (Kd.R_lt HO283.out)) (Kd.R_lt HO286.out)) (Kd.R_lt HO289.out)) (Kd.R_lt HO292.out)) (below_size HB.out));have n5_:=Ak (blk_below (g:=gb280) (o:=.cells #[.int .i64 a0_0,.int .i64 a0_1,.int .i64 a0_2,.int .i64 a0_3,.string a0_4,.string a0_5,.string a0_6,.slice A0_7 l0_7.length c0_7,.slice A0_8 l0_8.length c0_8,.slice A0_9 l0_9.length c0_9] 34 (0,0)) BK280.out hb);have n6_:=Ak (below_step HB.out hb);clear HO283;clear HO286;clear HO289;clear HO292;clear BK280;clear HB;have HO283:=n0_;have HO286:=n1_;have HO289:=n2_;have HO292:=n3_;have HO295:=n4_;have BK280:=n5_;have HB:=n6_;clear n0_ n1_ n2_ n3_ n4_ n5_ n6_;(try clear hb);(try clear ho0);have hcz20_0:w19.cell? ⟨gb280,0,none⟩=some (.int .i64 a0_0):=(blk_cell BK280.out 0).trans rfl;have hcz20_1:w19.cell? ⟨gb280,1,none⟩=some (.int .i64 a0_1):=(blk_cell BK280.out 1).trans rfl;have hcz20_2:w19.cell? ⟨gb280,2,none⟩=some (.int .i64 a0_2):=(blk_cell BK280.out 2).trans rfl;have hcz20_3:w19.cell? ⟨gb280,3,none⟩=some (.int .i64 a0_3):=(blk_cell BK280.out 3).trans rfl;have hcz20_4:w19.cell? ⟨gb280,4,none⟩=some (.string a0_4):=(blk_cell BK280.out 4).trans rfl;have hcz20_5:w19.cell? ⟨gb280,5,none⟩=some (.string a0_5):=(blk_cell BK280.out 5).trans rfl;have hcz20_6:w19.cell? ⟨gb280,6,none⟩=some (.string a0_6):=(blk_cell BK280.out 6).trans rfl;have hcz20_7:w19.cell? ⟨gb280,7,none⟩=some (.slice A0_7 l0_7.length c0_7):=(blk_cell BK280.out 7).trans rfl;have hcz20_8:w19.cell? ⟨gb280,8,none⟩=some (.slice A0_8 l0_8.length c0_8):=(blk_cell BK280.out 8).trans rfl;have hcz20_9:w19.cell? ⟨gb280,9,none⟩=some (.slice A0_9 l0_9.length c0_9):=(blk_cell BK280.out 9).trans rfl;have hfz20_0:=blk_frozen BK280.out 0;have hfz20_1:=blk_frozen BK280.out 1;have hfz20_2:=blk_frozen BK280.out 2;have hfz20_3:=blk_frozen BK280.out 3;have hfz20_4:=blk_frozen BK280.out 4;have hfz20_5:=blk_frozen BK280.out 5;have hfz20_6:=blk_frozen BK280.out 6;have hfz20_7:=blk_frozen BK280.out 7;have hfz20_8:=blk_frozen BK280.out 8;have hfz20_9:=blk_frozen BK280.out 9) | ((with_reducible refine gate_dst (N:=5) rfl ?_);(try (refine gate_guard (by rfl) ?_;dsimp only));refine box_event ?hg (N:=5) ?hd (cs:=#[.string (⟨#[]⟩:ByteArray),.string (⟨#[]⟩:ByteArray),.slice none 0 0,.slice none 0 0]) (t:=29) ?hr ?_;(case hd=>rfl);(case hg=>rfl);(case hr=>(go_simp;done));intro gb296 hg w21 hbox hb;have n0_:=Ak (Kd.R_below HO283.out hb);have n1_:=Ak (Kd.R_below HO286.out hb);have n2_:=Ak (Kd.R_below HO289.out hb);have n3_:=Ak (Kd.R_below HO292.out hb);have n4_:=Ak (Kd.R_below HO295.out hb);have n5_:=Ak (blk_below (g:=gb280) (o:=.cells #[.int .i64 a0_0,.int .i64 a0_1,.int .i64 a0_2,.int .i64 a0_3,.string a0_4,.string a0_5,.string a0_6,.slice A0_7 l0_7.length c0_7,.slice A0_8 l0_8.length c0_8,.slice A0_9 l0_9.length c0_9] 34 (0,0)) BK280.out hb);have n6_:=Ak (below_step HB.out hb);have n7_:=Ak (hbox);have n8_:=Ak ((by rw [hg];exact (below_size HB.out):w.heap.size≤gb296));have n9_:=Ak ((by rw [hg];exact (below_size HB.out):w.heap.size≤gb296));have n10_:=Ak ((by rw [hg];exact Nat.ne_of_lt (blk_lt (g:=gb280) (o:=.cells #[.int .i64 a0_0,.int .i64 a0_1,.int .i64 a0_2,.int .i64 a0_3,.string a0_4,.string a0_5,.string a0_6,.slice A0_7 l0_7.length c0_7,.slice A0_8 l0_8.length c0_8,.slice A0_9 l0_9.length c0_9] 34 (0,0)) BK280.out):gb280≠gb296));have n11_:=Ak ((by rw [hg];exact Nat.ne_of_gt (blk_lt (g:=gb280) (o:=.cells #[.int .i64 a0_0,.int .i64 a0_1,.int .i64 a0_2,.int .i64 a0_3,.string a0_4,.string a0_5,.string a0_6,.slice A0_7 l0_7.length c0_7,.slice A0_8 l0_8.length c0_8,.slice A0_9 l0_9.length c0_9] 34 (0,0)) BK280.out):gb296≠gb280));clear HO283;clear HO286;clear HO289;clear HO292;clear HO295;clear BK280;clear HB;have HO283:=n0_;have HO286:=n1_;have HO289:=n2_;have HO292:=n3_;have HO295:=n4_;have BK280:=n5_;have HB:=n6_;have BK296:=n7_;have GW296:=n8_;have GE296:=n9_;have NB280_296:=n10_;have NB296_280:=n11_;clear n0_ n1_ n2_ n3_ n4_ n5_ n6_ n7_ n8_ n9_ n10_ n11_;clear hb hbox hg;have hnb22:=NB296_280.out;have hnc22:=NB280_296.out;have hcz23_0:w21.cell? ⟨gb296,0,none⟩=some (.string (⟨#[]⟩:ByteArray)):=(blk_cell BK296.out 0).trans rfl;have hcz23_1:w21.cell? ⟨gb296,1,none⟩=some (.string (⟨#[]⟩:ByteArray)):=(blk_cell BK296.out 1).trans rfl;have hcz23_2:w21.cell? ⟨gb296,2,none⟩=some (.slice none 0 0):=(blk_cell BK296.out 2).trans rfl;have hcz23_3:w21.cell? ⟨gb296,3,none⟩=some (.slice none 0 0):=(blk_cell BK296.out 3).trans rfl;have hfz23_0:=blk_frozen BK296.out 0;have hfz23_1:=blk_frozen BK296.out 1;have hfz23_2:=blk_frozen BK296.out 2;have hfz23_3:=blk_frozen BK296.out 3))
 go_cut [45] (fun v45 wc=>∃ (kq:Nat) (x45_6:Bool),v45 = .bool x45_6∧Aside0 (q22_Put.j0 kq t293 x45_6 a0_0 a0_1 a0_2 a0_3 a0_4 a0_5 a0_6 l0_7 l0_8 l0_9 a0_5 a0_6 l0_7 l0_8=some (r1,r2))∧Aside0 (kq≤k)∧Aside0 (Kd.R (Kd.int .u8) 5 wc w.heap.size (fun _=>True) v294 t293)∧Aside0 (wc.heap[gb280]? = some (.cells #[.int .i64 a0_0,.int .i64 a0_1,.int .i64 a0_2,.int .i64 a0_3,.string a0_4,.string a0_5,.string a0_6,(.slice A0_7 l0_7.length c0_7),(.slice A0_8 l0_8.length c0_8),(.slice A0_9 l0_9.length c0_9)] 34 (0,0)))∧Aside0 (wc.heap[gb296]? = some (.cells #[.string a0_5,.string a0_6,(.slice A0_7 l0_7.length c0_7),(.slice A0_8 l0_8.length c0_8)] 29 (0,0)))∧Aside0 (Below w.heap.size w wc))
 case first=>
  have H:=HC7.out
  clear HC7
  by_cases c24:a0_5.toList=([]:List UInt8)
  ·rw [if_pos c24] at H
   have c24b0:(a0_5.toList == ([]:List UInt8))=true:=beq_iff_eq.mpr c24
   have c24b1:(a0_5.toList != ([]:List UInt8))=false:=bne_eq_false_iff_eq.mpr c24
   clear c24
   by_cases c25:a0_6.toList=([]:List UInt8)
   ·rw [if_pos c25] at H
    have c25b0:(a0_6.toList == ([]:List UInt8))=true:=beq_iff_eq.mpr c25
    have c25b1:(a0_6.toList != ([]:List UInt8))=false:=bne_eq_false_iff_eq.mpr c25
    clear c25
    by_cases c26:(l0_7.length:Int)=0
    ·rw [if_pos c26] at H
     have c26b0:((l0_7.length:Int) == 0)=true:=beq_iff_eq.mpr c26
     have c26b1:((l0_7.length:Int) != 0)=false:=bne_eq_false_iff_eq.mpr c26
     clear c26
     have H':=Ak H
     clear H
     have hnb27:=NB296_280.out
     have hnc27:=NB280_296.out
     have hcz28_0:w21.cell? ⟨gb296,0,none⟩=some (.string (⟨#[]⟩:ByteArray)):=(blk_cell BK296.out 0).trans rfl
     have hcz28_1:w21.cell? ⟨gb296,1,none⟩=some (.string (⟨#[]⟩:ByteArray)):=(blk_cell BK296.out 1).trans rfl
     have hcz28_2:w21.cell? ⟨gb296,2,none⟩=some (.slice none 0 0):=(blk_cell BK296.out 2).trans rfl
     have hcz28_3:w21.cell? ⟨gb296,3,none⟩=some (.slice none 0 0):=(blk_cell BK296.out 3).trans rfl
     have hfz28_0:=blk_frozen BK296.out 0
     have hfz28_1:=blk_frozen BK296.out 1
     have hfz28_2:=blk_frozen BK296.out 2
     have hfz28_3:=blk_frozen BK296.out 3
     go_wp2
     go_meet
     case rel=>exact ⟨_,(((l0_8.length:Int) == 0)),(by rfl),H',⟨by omega⟩,⟨by exact Kd.R_mono (Kd.R_far (p:=⟨gb296,3,none⟩) (Kd.R_far (p:=⟨gb296,2,none⟩) (Kd.R_far (p:=⟨gb296,1,none⟩) (Kd.R_far (p:=⟨gb296,0,none⟩) (Kd.R_types HO295.out BK296.out (by decide)) (fun _ hk=>hk.2) (.string a0_5)) (fun _ hk=>hk.2) (.string a0_6)) (fun _ hk=>hk.2) (.slice A0_7 l0_7.length c0_7)) (fun _ hk=>hk.2) (.slice A0_8 l0_8.length c0_8)) (fun _ hk=>trivial)⟩,⟨by refine blk_far ?_ NB280_296.out _;refine blk_far ?_ NB280_296.out _;refine blk_far ?_ NB280_296.out _;refine blk_far ?_ NB280_296.out _;exact BK280.out⟩,⟨by refine blk_put (cs:=#[.string a0_5,.string a0_6,.slice A0_7 l0_7.length c0_7,.slice none 0 0]) ?_ 3 _ rfl;refine blk_put (cs:=#[.string a0_5,.string a0_6,.slice none 0 0,.slice none 0 0]) ?_ 2 _ rfl;refine blk_put (cs:=#[.string a0_5,.string (⟨#[]⟩:ByteArray),.slice none 0 0,.slice none 0 0]) ?_ 1 _ rfl;refine blk_put (cs:=#[.string (⟨#[]⟩:ByteArray),.string (⟨#[]⟩:ByteArray),.slice none 0 0,.slice none 0 0]) ?_ 0 _ rfl;exact BK296.out⟩,⟨by repeat (with_reducible first | exact HB.out | refine below_set ?_ GE296.out)⟩⟩
    ·rw [if_neg c26] at H
     have c26b0:((l0_7.length:Int) == 0)=false:=beq_eq_false_iff_ne.mpr c26
     have c26b1:((l0_7.length:Int) != 0)=true:=bne_iff_ne.mpr c26
     have c26b2:¬(l0_7=[]):=fun h_=>c26 (by rw [h_];rfl)
     have H':=Ak H
     clear H
     have hnb29:=NB296_280.out
     have hnc29:=NB280_296.out
     have hcz30_0:w21.cell? ⟨gb296,0,none⟩=some (.string (⟨#[]⟩:ByteArray)):=(blk_cell BK296.out 0).trans rfl
     have hcz30_1:w21.cell? ⟨gb296,1,none⟩=some (.string (⟨#[]⟩:ByteArray)):=(blk_cell BK296.out 1).trans rfl
     have hcz30_2:w21.cell? ⟨gb296,2,none⟩=some (.slice none 0 0):=(blk_cell BK296.out 2).trans rfl
     have hcz30_3:w21.cell? ⟨gb296,3,none⟩=some (.slice none 0 0):=(blk_cell BK296.out 3).trans rfl
     have hfz30_0:=blk_frozen BK296.out 0
     have hfz30_1:=blk_frozen BK296.out 1
     have hfz30_2:=blk_frozen BK296.out 2
     have hfz30_3:=blk_frozen BK296.out 3
     go_wp2
     go_meet
     case rel=>exact ⟨_,(false),(by rfl),H',⟨by omega⟩,⟨by exact Kd.R_mono (Kd.R_far (p:=⟨gb296,3,none⟩) (Kd.R_far (p:=⟨gb296,2,none⟩) (Kd.R_far (p:=⟨gb296,1,none⟩) (Kd.R_far (p:=⟨gb296,0,none⟩) (Kd.R_types HO295.out BK296.out (by decide)) (fun _ hk=>hk.2) (.string a0_5)) (fun _ hk=>hk.2) (.string a0_6)) (fun _ hk=>hk.2) (.slice A0_7 l0_7.length c0_7)) (fun _ hk=>hk.2) (.slice A0_8 l0_8.length c0_8)) (fun _ hk=>trivial)⟩,⟨by refine blk_far ?_ NB280_296.out _;refine blk_far ?_ NB280_296.out _;refine blk_far ?_ NB280_296.out _;refine blk_far ?_ NB280_296.out _;exact BK280.out⟩,⟨by refine blk_put (cs:=#[.string a0_5,.string a0_6,.slice A0_7 l0_7.length c0_7,.slice none 0 0]) ?_ 3 _ rfl;refine blk_put (cs:=#[.string a0_5,.string a0_6,.slice none 0 0,.slice none 0 0]) ?_ 2 _ rfl;refine blk_put (cs:=#[.string a0_5,.string (⟨#[]⟩:ByteArray),.slice none 0 0,.slice none 0 0]) ?_ 1 _ rfl;refine blk_put (cs:=#[.string (⟨#[]⟩:ByteArray),.string (⟨#[]⟩:ByteArray),.slice none 0 0,.slice none 0 0]) ?_ 0 _ rfl;exact BK296.out⟩,⟨by repeat (with_reducible first | exact HB.out | refine below_set ?_ GE296.out)⟩⟩
   ·rw [if_neg c25] at H
    have c25b0:(a0_6.toList == ([]:List UInt8))=false:=beq_eq_false_iff_ne.mpr c25
    have c25b1:(a0_6.toList != ([]:List UInt8))=true:=bne_iff_ne.mpr c25
    have H':=Ak H
    clear H
    have hnb31:=NB296_280.out
    have hnc31:=NB280_296.out
    have hcz32_0:w21.cell? ⟨gb296,0,none⟩=some (.string (⟨#[]⟩:ByteArray)):=(blk_cell BK296.out 0).trans rfl
    have hcz32_1:w21.cell? ⟨gb296,1,none⟩=some (.string (⟨#[]⟩:ByteArray)):=(blk_cell BK296.out 1).trans rfl
    have hcz32_2:w21.cell? ⟨gb296,2,none⟩=some (.slice none 0 0):=(blk_cell BK296.out 2).trans rfl
    have hcz32_3:w21.cell? ⟨gb296,3,none⟩=some (.slice none 0 0):=(blk_cell BK296.out 3).trans rfl
    have hfz32_0:=blk_frozen BK296.out 0
    have hfz32_1:=blk_frozen BK296.out 1
    have hfz32_2:=blk_frozen BK296.out 2
    have hfz32_3:=blk_frozen BK296.out 3
    go_wp2
    go_meet
    case rel=>exact ⟨_,(false),(by rfl),H',⟨by omega⟩,⟨by exact Kd.R_mono (Kd.R_far (p:=⟨gb296,3,none⟩) (Kd.R_far (p:=⟨gb296,2,none⟩) (Kd.R_far (p:=⟨gb296,1,none⟩) (Kd.R_far (p:=⟨gb296,0,none⟩) (Kd.R_types HO295.out BK296.out (by decide)) (fun _ hk=>hk.2) (.string a0_5)) (fun _ hk=>hk.2) (.string a0_6)) (fun _ hk=>hk.2) (.slice A0_7 l0_7.length c0_7)) (fun _ hk=>hk.2) (.slice A0_8 l0_8.length c0_8)) (fun _ hk=>trivial)⟩,⟨by refine blk_far ?_ NB280_296.out _;refine blk_far ?_ NB280_296.out _;refine blk_far ?_ NB280_296.out _;refine blk_far ?_ NB280_296.out _;exact BK280.out⟩,⟨by refine blk_put (cs:=#[.string a0_5,.string a0_6,.slice A0_7 l0_7.length c0_7,.slice none 0 0]) ?_ 3 _ rfl;refine blk_put (cs:=#[.string a0_5,.string a0_6,.slice none 0 0,.slice none 0 0]) ?_ 2 _ rfl;refine blk_put (cs:=#[.string a0_5,.string (⟨#[]⟩:ByteArray),.slice none 0 0,.slice none 0 0]) ?_ 1 _ rfl;refine blk_put (cs:=#[.string (⟨#[]⟩:ByteArray),.string (⟨#[]⟩:ByteArray),.slice none 0 0,.slice none 0 0]) ?_ 0 _ rfl;exact BK296.out⟩,⟨by repeat (with_reducible first | exact HB.out | refine below_set ?_ GE296.out)⟩⟩
  ·rw [if_neg c24] at H
   have c24b0:(a0_5.toList == ([]:List UInt8))=false:=beq_eq_false_iff_ne.mpr c24
   have c24b1:(a0_5.toList != ([]:List UInt8))=true:=bne_iff_ne.mpr c24
   have H':=Ak H
   clear H
   have hnb33:=NB296_280.out
   have hnc33:=NB280_296.out
   have hcz34_0:w21.cell? ⟨gb296,0,none⟩=some (.string (⟨#[]⟩:ByteArray)):=(blk_cell BK296.out 0).trans rfl
   have hcz34_1:w21.cell? ⟨gb296,1,none⟩=some (.string (⟨#[]⟩:ByteArray)):=(blk_cell BK296.out 1).trans rfl
   have hcz34_2:w21.cell? ⟨gb296,2,none⟩=some (.slice none 0 0):=(blk_cell BK296.out 2).trans rfl
   have hcz34_3:w21.cell? ⟨gb296,3,none⟩=some (.slice none 0 0):=(blk_cell BK296.out 3).trans rfl
   have hfz34_0:=blk_frozen BK296.out 0
   have hfz34_1:=blk_frozen BK296.out 1
   have hfz34_2:=blk_frozen BK296.out 2
   have hfz34_3:=blk_frozen BK296.out 3
   go_wp2
   go_meet
   case rel=>exact ⟨_,(false),(by rfl),H',⟨by omega⟩,⟨by exact Kd.R_mono (Kd.R_far (p:=⟨gb296,3,none⟩) (Kd.R_far (p:=⟨gb296,2,none⟩) (Kd.R_far (p:=⟨gb296,1,none⟩) (Kd.R_far (p:=⟨gb296,0,none⟩) (Kd.R_types HO295.out BK296.out (by decide)) (fun _ hk=>hk.2) (.string a0_5)) (fun _ hk=>hk.2) (.string a0_6)) (fun _ hk=>hk.2) (.slice A0_7 l0_7.length c0_7)) (fun _ hk=>hk.2) (.slice A0_8 l0_8.length c0_8)) (fun _ hk=>trivial)⟩,⟨by refine blk_far ?_ NB280_296.out _;refine blk_far ?_ NB280_296.out _;refine blk_far ?_ NB280_296.out _;refine blk_far ?_ NB280_296.out _;exact BK280.out⟩,⟨by refine blk_put (cs:=#[.string a0_5,.string a0_6,.slice A0_7 l0_7.length c0_7,.slice none 0 0]) ?_ 3 _ rfl;refine blk_put (cs:=#[.string a0_5,.string a0_6,.slice none 0 0,.slice none 0 0]) ?_ 2 _ rfl;refine blk_put (cs:=#[.string a0_5,.string (⟨#[]⟩:ByteArray),.slice none 0 0,.slice none 0 0]) ?_ 1 _ rfl;refine blk_put (cs:=#[.string (⟨#[]⟩:ByteArray),.string (⟨#[]⟩:ByteArray),.slice none 0 0,.slice none 0 0]) ?_ 0 _ rfl;exact BK296.out⟩,⟨by repeat (with_reducible first | exact HB.out | refine below_set ?_ GE296.out)⟩⟩
 case rest=>
  clear HC7
  try clear hcz17_0
  try clear hcz17_1
  try clear hcz17_2
  try clear hcz17_3
  try clear hcz17_4
  try clear hcz17_5
  try clear hcz17_6
  try clear hcz17_7
  try clear hcz17_8
  try clear hcz17_9
  try clear hcz20_0
  try clear hcz20_1
  try clear hcz20_2
  try clear hcz20_3
  try clear hcz20_4
  try clear hcz20_5
  try clear hcz20_6
  try clear hcz20_7
  try clear hcz20_8
  try clear hcz20_9
  try clear hcz23_0
  try clear hcz23_1
  try clear hcz23_2
  try clear hcz23_3
  try clear hfz17_0
  try clear hfz17_1
  try clear hfz17_2
  try clear hfz17_3
  try clear hfz17_4
  try clear hfz17_5
  try clear hfz17_6
  try clear hfz17_7
  try clear hfz17_8
  try clear hfz17_9
  try clear hfz20_0
  try clear hfz20_1
  try clear hfz20_2
  try clear hfz20_3
  try clear hfz20_4
  try clear hfz20_5
  try clear hfz20_6
  try clear hfz20_7
  try clear hfz20_8
  try clear hfz20_9
  try clear hfz23_0
  try clear hfz23_1
  try clear hfz23_2
  try clear hfz23_3
  obtain ⟨kq,x45_6,rfl,HA,HJ6,HO_4,BK280,BK296,HB⟩:=hcut
  cases kq with
  | zero=>exact absurd HA.out (by simp [q22_Put.j0])
  | succ kj6=>
   have H:=HA.out
   clear HA
   simp only [q22_Put.j0] at H
   have HC35:=Ak H
   clear H
   go_upto_if 45 with (fail)
   go_cut [4] (fun v4 wc=>∃ (kq:Nat) (x4_34:List Int),Aside0 (q22_Put.j1 kq x4_34 a0_0 a0_1 a0_2 a0_3 a0_4 a0_5 a0_6 l0_7 l0_8 l0_9=some (r1,r2))∧Aside0 (kq≤kj6)∧Aside0 (Kd.R (Kd.int .u8) 5 wc w.heap.size (fun _=>True) v4 x4_34)∧Aside0 (wc.heap[gb280]? = some (.cells #[.int .i64 a0_0,.int .i64 a0_1,.int .i64 a0_2,.int .i64 a0_3,.string a0_4,.string a0_5,.string a0_6,(.slice A0_7 l0_7.length c0_7),(.slice A0_8 l0_8.length c0_8),(.slice A0_9 l0_9.length c0_9)] 34 (0,0)))∧Aside0 (wc.heap[gb296]? = some (.cells #[.string a0_5,.string a0_6,(.slice A0_7 l0_7.length c0_7),(.slice A0_8 l0_8.length c0_8)] 29 (0,0)))∧Aside0 (Below w.heap.size w wc))
   case first=>
    have H:=HC35.out
    clear HC35
    by_cases c36:x45_6=true
    ·subst c36
     have H1:((q01_Put.f t293 0).bind fun t297=>(q22_Put.j1 kj6 t297 a0_0 a0_1 a0_2 a0_3 a0_4 a0_5 a0_6 l0_7 l0_8 l0_9))=some (r1,r2):=by rw [if_pos rfl] at H;exact H
     clear H
     have H:=H1
     clear H1
     replace H:=Option.bind_eq_some_iff.mp H
     obtain ⟨t297,A370,H⟩:=H
     replace H:(q22_Put.j1 kj6 t297 a0_0 a0_1 a0_2 a0_3 a0_4 a0_5 a0_6 l0_7 l0_8 l0_9)=some (r1,r2):=H
     have A37:=Ak A370
     clear A370
     have H':=Ak H
     clear H
     obtain ⟨Ao38,co38,eo38⟩:=Kd.R_slice HO_4.out
     subst eo38
     go_wp2_with (((with_reducible refine gate_callee (f:=36) rfl ?_);refine goesL_ (some 47) rfl rfl Tryz.func36 (by kernel_rfl) rfl #[.slice Ao38 t293.length co38,.int .i64 0] rfl (by (try simp only [List.map_toArray,List.map_cons,List.map_nil]);rfl) ?_;(with_reducible refine (q01_Put.calls _ _ t293 0 t297 _ ?side1 ?side2 A37.out).mono ?_);(case side1=>repeat (exact (Kd.R_reads' HO_4.out).2.2));(case side2=>exact (Kd.R_reads' HO_4.out).2.1);rintro e w39 ⟨v298,rfl,ho0,hb⟩;refine ⟨_,rfl,?_⟩;have n0_:=Ak (Kd.R_elder' HO_4.out (Kd.R_base ho0) hb);have n1_:=Ak (Kd.R_lower (Kd.R_new' ho0 (Kd.R_lt HO_4.out)) (below_size HB.out));have n2_:=Ak (blk_below (g:=gb280) (o:=.cells #[.int .i64 a0_0,.int .i64 a0_1,.int .i64 a0_2,.int .i64 a0_3,.string a0_4,.string a0_5,.string a0_6,.slice A0_7 l0_7.length c0_7,.slice A0_8 l0_8.length c0_8,.slice A0_9 l0_9.length c0_9] 34 (0,0)) BK280.out hb);have n3_:=Ak (blk_below (g:=gb296) (o:=.cells #[.string a0_5,.string a0_6,.slice A0_7 l0_7.length c0_7,.slice A0_8 l0_8.length c0_8] 29 (0,0)) BK296.out hb);have n4_:=Ak (below_step HB.out hb);clear HO_4;clear BK280;clear BK296;clear HB;have HO_4:=n0_;have HO299:=n1_;have BK280:=n2_;have BK296:=n3_;have HB:=n4_;clear n0_ n1_ n2_ n3_ n4_;(try clear hb);(try clear ho0)))
     go_meet
     case rel=>exact ⟨_,(t297),H',⟨by have:=HJ6.out;omega⟩,⟨by exact Kd.R_mono HO299.out (fun _ hk=>trivial)⟩,⟨by exact BK280.out⟩,⟨by exact BK296.out⟩,⟨by with_reducible exact HB.out⟩⟩
    ·replace c36:=Bool.eq_false_iff.mpr c36
     subst c36
     have H1:((q01_Put.f t293 1).bind fun t300=>((q05_PutG.f t300 a0_5 a0_6 l0_7 l0_8).bind fun bt303=>(if bt303.2=0 then (q22_Put.j1 kj6 bt303.1 a0_0 a0_1 a0_2 a0_3 a0_4 a0_5 a0_6 l0_7 l0_8 l0_9) else (some (([]:List Int),bt303.2)))))=some (r1,r2):=by rw [if_neg (show ¬(false=true) by decide)] at H;exact H
     clear H
     have H:=H1
     clear H1
     replace H:=Option.bind_eq_some_iff.mp H
     obtain ⟨t300,A400,H⟩:=H
     replace H:((q05_PutG.f t300 a0_5 a0_6 l0_7 l0_8).bind fun bt303=>(if bt303.2=0 then (q22_Put.j1 kj6 bt303.1 a0_0 a0_1 a0_2 a0_3 a0_4 a0_5 a0_6 l0_7 l0_8 l0_9) else (some (([]:List Int),bt303.2))))=some (r1,r2):=H
     have A40:=Ak A400
     clear A400
     replace H:=Option.bind_eq_some_iff.mp H
     obtain ⟨⟨t303,t306⟩,A410,H⟩:=H
     replace H:(if t306=0 then (q22_Put.j1 kj6 t303 a0_0 a0_1 a0_2 a0_3 a0_4 a0_5 a0_6 l0_7 l0_8 l0_9) else (some (([]:List Int),t306)))=some (r1,r2):=H
     have A41:=Ak A410
     clear A410
     by_cases c42:t306=0
     ·rw [if_pos c42] at H
      have c42b0:(t306 == 0)=true:=beq_iff_eq.mpr c42
      have c42b1:(t306 != 0)=false:=bne_eq_false_iff_eq.mpr c42
      clear c42
      have H':=Ak H
      clear H
      try go_wp2
      replace HO_4:=Ak (Kd.R_drew HO_4.out)
      replace BK280:=Ak (blk_drew BK280.out)
      replace BK296:=Ak (blk_drew BK296.out)
      replace HB:=Ak (below_drew1 HB.out)
      obtain ⟨Ao44,co44,eo44⟩:=Kd.R_slice HO_4.out
      (subst eo44)
      refine start_ (n:=9) (S:=fun w'=>w'.cell? ⟨gb296,0,none⟩=some (.string a0_5)∧w'.cell? ⟨gb296,1,none⟩=some (.string a0_6)∧w'.cell? ⟨gb296,2,none⟩=some (.slice A0_7 l0_7.length c0_7)∧w'.cell? ⟨gb296,3,none⟩=some (.slice A0_8 l0_8.length c0_8)) (ds:=[]) #[false,false,false,false,false,false,false,false,false] (by kernel_rfl) rfl rfl ⟨(blk_cell BK296.out 0).trans rfl,(blk_cell BK296.out 1).trans rfl,(blk_cell BK296.out 2).trans rfl,(blk_cell BK296.out 3).trans rfl⟩ (fun hHeld=>?_);refine with_tabW q22_Put.tab6 q22_Put.bits6 (fun HT_ HW_=>?_)
      generalize wc.drew=w43 at HO_4 BK280 BK296 HB hHeld ⊢
      refine pure_ (i:=0) (N:=some 49) (v:=?_) (a':=?_) #[true,false,false,false,false,false,false,false,false] rfl rfl (any_of HT_.out (by kernel_rfl)) (fun _ _ _ h=>h) (Or.inl ⟨by rfl,?_⟩) ?_ ?_
      rotate_left
      ·intro w'
       go_simp
       with_reducible rfl
      rotate_left
      ·simp only [Act.put,List.setIfInBounds_toArray,List.set_cons_zero,List.set_cons_succ,i64_w,i32_w]
       rfl
      refine take_ (i:=2) (N:=some 51) (v:=?_) (a':=?_) #[true,false,true,false,false,false,false,false,false] rfl rfl (take_ofW HT_.out HW_.out (by kernel_rfl)) (fun _ _ _ h=>h) (Or.inl ⟨by rfl,?_⟩) hHeld ?_ ?_
      rotate_left
      ·rintro w' ⟨s0,s1,s2,s3⟩
       go_simp
       with_reducible rfl
      rotate_left
      ·simp only [Act.put,List.setIfInBounds_toArray,List.set_cons_zero,List.set_cons_succ,i64_w,i32_w]
       rfl
      refine one_ (i:=1) (N:=some 50) #[true,true,true,false,false,false,false,false,false] rfl rfl (one_of HT_.out (by kernel_rfl)) (by decide) (fun K hK=>?_)
      refine goes_ Tryz.func36 (by kernel_rfl) rfl #[.slice Ao44 t293.length co44,.int .i64 1] (by rfl) rfl rfl (by (try simp only [List.map_toArray,List.map_cons,List.map_nil]);rfl) ?_
      with_reducible refine (q01_Put.calls _ _ t293 1 t300 _ ?side1 ?side2 A40.out).mono ?_
      (case side1=>repeat (exact (Kd.R_reads' HO_4.out).2.2))
      (case side2=>exact (Kd.R_reads' HO_4.out).2.1)
      rintro e w45 ⟨v301,rfl,ho0,hb⟩
      refine ⟨_,rfl,?_⟩
      have n0_:=Ak (Kd.R_elder' HO_4.out (Kd.R_base ho0) hb)
      have n1_:=Ak (Kd.R_lower (Kd.R_new' ho0 (Kd.R_lt HO_4.out)) (below_size HB.out))
      have n2_:=Ak (blk_below (g:=gb280) (o:=.cells #[.int .i64 a0_0,.int .i64 a0_1,.int .i64 a0_2,.int .i64 a0_3,.string a0_4,.string a0_5,.string a0_6,.slice A0_7 l0_7.length c0_7,.slice A0_8 l0_8.length c0_8,.slice A0_9 l0_9.length c0_9] 34 (0,0)) BK280.out hb)
      have n3_:=Ak (blk_below (g:=gb296) (o:=.cells #[.string a0_5,.string a0_6,.slice A0_7 l0_7.length c0_7,.slice A0_8 l0_8.length c0_8] 29 (0,0)) BK296.out hb)
      have n4_:=Ak (below_step HB.out hb)
      clear HO_4
      clear BK280
      clear BK296
      clear HB
      have HO_4:=n0_
      have HO302:=n1_
      have BK280:=n2_
      have BK296:=n3_
      have HB:=n4_
      clear n0_ n1_ n2_ n3_ n4_
      (try clear hb)
      (try clear ho0)
      obtain ⟨Ao46,co46,eo46⟩:=Kd.R_slice HO302.out
      (subst eo46)
      refine hK.out _ _ ⟨(blk_cell BK296.out 0).trans rfl,(blk_cell BK296.out 1).trans rfl,(blk_cell BK296.out 2).trans rfl,(blk_cell BK296.out 3).trans rfl⟩ (fun hHeld=>?_)
      clear hK K
      refine norm_ (a':=?_) ?_ ?_
      rotate_left
      ·show Act.put _ (some 50) _=_
       simp only [Act.put,List.setIfInBounds_toArray,List.set_cons_zero,List.set_cons_succ,i64_w,i32_w]
       rfl
      refine one_ (i:=3) (N:=some 52) #[true,true,true,true,false,false,false,false,false] rfl rfl (one_of HT_.out (by kernel_rfl)) (by decide) (fun K hK=>?_)
      refine goes_ Tryz.func38 (by kernel_rfl) rfl #[.slice Ao46 t300.length co46,.agg #[.string a0_5,.string a0_6,.slice A0_7 l0_7.length c0_7,.slice A0_8 l0_8.length c0_8]] (by rfl) rfl rfl (by (try simp only [List.map_toArray,List.map_cons,List.map_nil]);rfl) ?_
      with_reducible refine (q05_PutG.calls _ _ t300 a0_5 a0_6 _ _ l0_7 _ _ l0_8 t303 t306 _ ?side1 ?side2 ?side3 ?side4 ?side5 ?side6 A41.out).mono ?_
      (case side1=>repeat (exact (Kd.R_reads' HO302.out).2.2))
      (case side2=>exact (Kd.R_reads' HO302.out).2.1)
      (case side3=>repeat (exact (Kd.C_below HR0_7.out HB.out)))
      (case side4=>exact HC0_7.out)
      (case side5=>repeat (exact (Kd.C_below HR0_8.out HB.out)))
      (case side6=>exact HC0_8.out)
      rintro e w47 ⟨v304,rfl,ho0,hb⟩
      refine ⟨_,rfl,?_⟩
      have n0_:=Ak (Kd.R_elder' HO_4.out (Kd.R_base ho0) hb)
      have n1_:=Ak (Kd.R_elder' HO302.out (Kd.R_base ho0) hb)
      have n2_:=Ak (Kd.R_lower (Kd.R_new' (Kd.R_new' ho0 (Kd.R_lt HO_4.out)) (Kd.R_lt HO302.out)) (below_size HB.out))
      have n3_:=Ak (blk_below (g:=gb280) (o:=.cells #[.int .i64 a0_0,.int .i64 a0_1,.int .i64 a0_2,.int .i64 a0_3,.string a0_4,.string a0_5,.string a0_6,.slice A0_7 l0_7.length c0_7,.slice A0_8 l0_8.length c0_8,.slice A0_9 l0_9.length c0_9] 34 (0,0)) BK280.out hb)
      have n4_:=Ak (blk_below (g:=gb296) (o:=.cells #[.string a0_5,.string a0_6,.slice A0_7 l0_7.length c0_7,.slice A0_8 l0_8.length c0_8] 29 (0,0)) BK296.out hb)
      have n5_:=Ak (below_step HB.out hb)
      clear HO_4
      clear HO302
      clear BK280
      clear BK296
      clear HB
      have HO_4:=n0_
      have HO302:=n1_
      have HO305:=n2_
      have BK280:=n3_
      have BK296:=n4_
      have HB:=n5_
      clear n0_ n1_ n2_ n3_ n4_ n5_
      (try clear hb)
      (try clear ho0)
      refine hK.out _ _ ⟨(blk_cell BK296.out 0).trans rfl,(blk_cell BK296.out 1).trans rfl,(blk_cell BK296.out 2).trans rfl,(blk_cell BK296.out 3).trans rfl⟩ (fun hHeld=>?_)
      clear hK K
      refine norm_ (a':=?_) ?_ ?_
      rotate_left
      ·show Act.put _ (some 52) _=_
       simp only [Act.put,List.setIfInBounds_toArray,List.set_cons_zero,List.set_cons_succ,i64_w,i32_w]
       rfl
      refine pure_ (i:=4) (N:=some 48) (v:=?_) (a':=?_) #[true,true,true,true,true,false,false,false,false] rfl rfl (any_of HT_.out (by kernel_rfl)) (fun _ _ _ h=>h) (Or.inl ⟨by rfl,?_⟩) ?_ ?_
      rotate_left
      ·intro w'
       go_simp
       with_reducible rfl
      rotate_left
      ·simp only [Act.put,List.setIfInBounds_toArray,List.set_cons_zero,List.set_cons_succ,i64_w,i32_w]
       rfl
      refine pure_ (i:=5) (N:=some 53) (v:=?_) (a':=?_) #[true,true,true,true,true,true,false,false,false] rfl rfl (any_of HT_.out (by kernel_rfl)) (fun _ _ _ h=>h) (Or.inl ⟨by rfl,?_⟩) ?_ ?_
      rotate_left
      ·intro w'
       go_simp
       with_reducible rfl
      rotate_left
      ·simp only [Act.put,List.setIfInBounds_toArray,List.set_cons_zero,List.set_cons_succ,i64_w,i32_w]
       rfl
      refine pure_ (i:=6) (N:=some 54) (v:=?_) (a':=?_) #[true,true,true,true,true,true,true,false,false] rfl rfl (any_of HT_.out (by kernel_rfl)) (fun _ _ _ h=>h) (Or.inl ⟨by rfl,?_⟩) ?_ ?_
      rotate_left
      ·intro w'
       go_simp
       with_reducible rfl
      rotate_left
      ·simp only [Act.put,List.setIfInBounds_toArray,List.set_cons_zero,List.set_cons_succ,i64_w,i32_w]
       rfl
      refine pure_ (i:=7) (N:=some 6) (v:=?_) (a':=?_) #[true,true,true,true,true,true,true,true,false] rfl rfl (any_of HT_.out (by kernel_rfl)) (fun _ _ _ h=>h) (Or.inl ⟨by rfl,?_⟩) ?_ ?_
      rotate_left
      ·intro w'
       go_simp
       with_reducible rfl
      rotate_left
      ·simp only [Act.put,List.setIfInBounds_toArray,List.set_cons_zero,List.set_cons_succ,i64_w,i32_w]
       rfl
      refine pure_ (i:=8) (N:=some 7) (v:=?_) (a':=?_) #[true,true,true,true,true,true,true,true,true] rfl rfl (any_of HT_.out (by kernel_rfl)) (fun _ _ _ h=>h) (Or.inl ⟨by rfl,?_⟩) ?_ ?_
      rotate_left
      ·intro w'
       go_simp
       with_reducible rfl
      rotate_left
      ·simp only [Act.put,List.setIfInBounds_toArray,List.set_cons_zero,List.set_cons_succ,i64_w,i32_w]
       rfl
      refine done_ (done_of HT_.out (by kernel_rfl)) ?_
      try go_wp2
      go_meet
      case rel=>exact ⟨_,(t303),H',⟨by have:=HJ6.out;omega⟩,⟨by exact Kd.R_mono HO305.out (fun _ hk=>trivial)⟩,⟨by exact BK280.out⟩,⟨by exact BK296.out⟩,⟨by with_reducible exact HB.out⟩⟩
     ·rw [if_neg c42] at H
      have c42b0:(t306 == 0)=false:=beq_eq_false_iff_ne.mpr c42
      have c42b1:(t306 != 0)=true:=bne_iff_ne.mpr c42
      simp only [Option.some.injEq,Prod.mk.injEq] at H
      obtain ⟨rfl,rfl⟩:=H
      try go_wp2
      replace HO_4:=Ak (Kd.R_drew HO_4.out)
      replace BK280:=Ak (blk_drew BK280.out)
      replace BK296:=Ak (blk_drew BK296.out)
      replace HB:=Ak (below_drew1 HB.out)
      obtain ⟨Ao49,co49,eo49⟩:=Kd.R_slice HO_4.out
      (subst eo49)
      refine start_ (n:=9) (S:=fun w'=>w'.cell? ⟨gb296,0,none⟩=some (.string a0_5)∧w'.cell? ⟨gb296,1,none⟩=some (.string a0_6)∧w'.cell? ⟨gb296,2,none⟩=some (.slice A0_7 l0_7.length c0_7)∧w'.cell? ⟨gb296,3,none⟩=some (.slice A0_8 l0_8.length c0_8)) (ds:=[]) #[false,false,false,false,false,false,false,false,false] (by kernel_rfl) rfl rfl ⟨(blk_cell BK296.out 0).trans rfl,(blk_cell BK296.out 1).trans rfl,(blk_cell BK296.out 2).trans rfl,(blk_cell BK296.out 3).trans rfl⟩ (fun hHeld=>?_);refine with_tabW q22_Put.tab6 q22_Put.bits6 (fun HT_ HW_=>?_)
      generalize wc.drew=w48 at HO_4 BK280 BK296 HB hHeld ⊢
      refine pure_ (i:=0) (N:=some 49) (v:=?_) (a':=?_) #[true,false,false,false,false,false,false,false,false] rfl rfl (any_of HT_.out (by kernel_rfl)) (fun _ _ _ h=>h) (Or.inl ⟨by rfl,?_⟩) ?_ ?_
      rotate_left
      ·intro w'
       go_simp
       with_reducible rfl
      rotate_left
      ·simp only [Act.put,List.setIfInBounds_toArray,List.set_cons_zero,List.set_cons_succ,i64_w,i32_w]
       rfl
      refine take_ (i:=2) (N:=some 51) (v:=?_) (a':=?_) #[true,false,true,false,false,false,false,false,false] rfl rfl (take_ofW HT_.out HW_.out (by kernel_rfl)) (fun _ _ _ h=>h) (Or.inl ⟨by rfl,?_⟩) hHeld ?_ ?_
      rotate_left
      ·rintro w' ⟨s0,s1,s2,s3⟩
       go_simp
       with_reducible rfl
      rotate_left
      ·simp only [Act.put,List.setIfInBounds_toArray,List.set_cons_zero,List.set_cons_succ,i64_w,i32_w]
       rfl
      refine one_ (i:=1) (N:=some 50) #[true,true,true,false,false,false,false,false,false] rfl rfl (one_of HT_.out (by kernel_rfl)) (by decide) (fun K hK=>?_)
      refine goes_ Tryz.func36 (by kernel_rfl) rfl #[.slice Ao49 t293.length co49,.int .i64 1] (by rfl) rfl rfl (by (try simp only [List.map_toArray,List.map_cons,List.map_nil]);rfl) ?_
      with_reducible refine (q01_Put.calls _ _ t293 1 t300 _ ?side1 ?side2 A40.out).mono ?_
      (case side1=>repeat (exact (Kd.R_reads' HO_4.out).2.2))
      (case side2=>exact (Kd.R_reads' HO_4.out).2.1)
      rintro e w50 ⟨v301,rfl,ho0,hb⟩
      refine ⟨_,rfl,?_⟩
      have n0_:=Ak (Kd.R_elder' HO_4.out (Kd.R_base ho0) hb)
      have n1_:=Ak (Kd.R_lower (Kd.R_new' ho0 (Kd.R_lt HO_4.out)) (below_size HB.out))
      have n2_:=Ak (blk_below (g:=gb280) (o:=.cells #[.int .i64 a0_0,.int .i64 a0_1,.int .i64 a0_2,.int .i64 a0_3,.string a0_4,.string a0_5,.string a0_6,.slice A0_7 l0_7.length c0_7,.slice A0_8 l0_8.length c0_8,.slice A0_9 l0_9.length c0_9] 34 (0,0)) BK280.out hb)
      have n3_:=Ak (blk_below (g:=gb296) (o:=.cells #[.string a0_5,.string a0_6,.slice A0_7 l0_7.length c0_7,.slice A0_8 l0_8.length c0_8] 29 (0,0)) BK296.out hb)
      have n4_:=Ak (below_step HB.out hb)
      clear HO_4
      clear BK280
      clear BK296
      clear HB
      have HO_4:=n0_
      have HO302:=n1_
      have BK280:=n2_
      have BK296:=n3_
      have HB:=n4_
      clear n0_ n1_ n2_ n3_ n4_
      (try clear hb)
      (try clear ho0)
      obtain ⟨Ao51,co51,eo51⟩:=Kd.R_slice HO302.out
      (subst eo51)
      refine hK.out _ _ ⟨(blk_cell BK296.out 0).trans rfl,(blk_cell BK296.out 1).trans rfl,(blk_cell BK296.out 2).trans rfl,(blk_cell BK296.out 3).trans rfl⟩ (fun hHeld=>?_)
      clear hK K
      refine norm_ (a':=?_) ?_ ?_
      rotate_left
      ·show Act.put _ (some 50) _=_
       simp only [Act.put,List.setIfInBounds_toArray,List.set_cons_zero,List.set_cons_succ,i64_w,i32_w]
       rfl
      refine one_ (i:=3) (N:=some 52) #[true,true,true,true,false,false,false,false,false] rfl rfl (one_of HT_.out (by kernel_rfl)) (by decide) (fun K hK=>?_)
      refine goes_ Tryz.func38 (by kernel_rfl) rfl #[.slice Ao51 t300.length co51,.agg #[.string a0_5,.string a0_6,.slice A0_7 l0_7.length c0_7,.slice A0_8 l0_8.length c0_8]] (by rfl) rfl rfl (by (try simp only [List.map_toArray,List.map_cons,List.map_nil]);rfl) ?_
      with_reducible refine (q05_PutG.calls _ _ t300 a0_5 a0_6 _ _ l0_7 _ _ l0_8 t303 t306 _ ?side1 ?side2 ?side3 ?side4 ?side5 ?side6 A41.out).mono ?_
      (case side1=>repeat (exact (Kd.R_reads' HO302.out).2.2))
      (case side2=>exact (Kd.R_reads' HO302.out).2.1)
      (case side3=>repeat (exact (Kd.C_below HR0_7.out HB.out)))
      (case side4=>exact HC0_7.out)
      (case side5=>repeat (exact (Kd.C_below HR0_8.out HB.out)))
      (case side6=>exact HC0_8.out)
      rintro e w52 ⟨v304,rfl,ho0,hb⟩
      refine ⟨_,rfl,?_⟩
      have n0_:=Ak (Kd.R_elder' HO_4.out (Kd.R_base ho0) hb)
      have n1_:=Ak (Kd.R_elder' HO302.out (Kd.R_base ho0) hb)
      have n2_:=Ak (Kd.R_lower (Kd.R_new' (Kd.R_new' ho0 (Kd.R_lt HO_4.out)) (Kd.R_lt HO302.out)) (below_size HB.out))
      have n3_:=Ak (blk_below (g:=gb280) (o:=.cells #[.int .i64 a0_0,.int .i64 a0_1,.int .i64 a0_2,.int .i64 a0_3,.string a0_4,.string a0_5,.string a0_6,.slice A0_7 l0_7.length c0_7,.slice A0_8 l0_8.length c0_8,.slice A0_9 l0_9.length c0_9] 34 (0,0)) BK280.out hb)
      have n4_:=Ak (blk_below (g:=gb296) (o:=.cells #[.string a0_5,.string a0_6,.slice A0_7 l0_7.length c0_7,.slice A0_8 l0_8.length c0_8] 29 (0,0)) BK296.out hb)
      have n5_:=Ak (below_step HB.out hb)
      clear HO_4
      clear HO302
      clear BK280
      clear BK296
      clear HB
      have HO_4:=n0_
      have HO302:=n1_
      have HO305:=n2_
      have BK280:=n3_
      have BK296:=n4_
      have HB:=n5_
      clear n0_ n1_ n2_ n3_ n4_ n5_
      (try clear hb)
      (try clear ho0)
      refine hK.out _ _ ⟨(blk_cell BK296.out 0).trans rfl,(blk_cell BK296.out 1).trans rfl,(blk_cell BK296.out 2).trans rfl,(blk_cell BK296.out 3).trans rfl⟩ (fun hHeld=>?_)
      clear hK K
      refine norm_ (a':=?_) ?_ ?_
      rotate_left
      ·show Act.put _ (some 52) _=_
       simp only [Act.put,List.setIfInBounds_toArray,List.set_cons_zero,List.set_cons_succ,i64_w,i32_w]
       rfl
      refine pure_ (i:=4) (N:=some 48) (v:=?_) (a':=?_) #[true,true,true,true,true,false,false,false,false] rfl rfl (any_of HT_.out (by kernel_rfl)) (fun _ _ _ h=>h) (Or.inl ⟨by rfl,?_⟩) ?_ ?_
      rotate_left
      ·intro w'
       go_simp
       with_reducible rfl
      rotate_left
      ·simp only [Act.put,List.setIfInBounds_toArray,List.set_cons_zero,List.set_cons_succ,i64_w,i32_w]
       rfl
      refine pure_ (i:=5) (N:=some 53) (v:=?_) (a':=?_) #[true,true,true,true,true,true,false,false,false] rfl rfl (any_of HT_.out (by kernel_rfl)) (fun _ _ _ h=>h) (Or.inl ⟨by rfl,?_⟩) ?_ ?_
      rotate_left
      ·intro w'
       go_simp
       with_reducible rfl
      rotate_left
      ·simp only [Act.put,List.setIfInBounds_toArray,List.set_cons_zero,List.set_cons_succ,i64_w,i32_w]
       rfl
      refine pure_ (i:=6) (N:=some 54) (v:=?_) (a':=?_) #[true,true,true,true,true,true,true,false,false] rfl rfl (any_of HT_.out (by kernel_rfl)) (fun _ _ _ h=>h) (Or.inl ⟨by rfl,?_⟩) ?_ ?_
      rotate_left
      ·intro w'
       go_simp
       with_reducible rfl
      rotate_left
      ·simp only [Act.put,List.setIfInBounds_toArray,List.set_cons_zero,List.set_cons_succ,i64_w,i32_w]
       rfl
      refine pure_ (i:=7) (N:=some 6) (v:=?_) (a':=?_) #[true,true,true,true,true,true,true,true,false] rfl rfl (any_of HT_.out (by kernel_rfl)) (fun _ _ _ h=>h) (Or.inl ⟨by rfl,?_⟩) ?_ ?_
      rotate_left
      ·intro w'
       go_simp
       with_reducible rfl
      rotate_left
      ·simp only [Act.put,List.setIfInBounds_toArray,List.set_cons_zero,List.set_cons_succ,i64_w,i32_w]
       rfl
      refine pure_ (i:=8) (N:=some 7) (v:=?_) (a':=?_) #[true,true,true,true,true,true,true,true,true] rfl rfl (any_of HT_.out (by kernel_rfl)) (fun _ _ _ h=>h) (Or.inl ⟨by rfl,?_⟩) ?_ ?_
      rotate_left
      ·intro w'
       go_simp
       with_reducible rfl
      rotate_left
      ·simp only [Act.put,List.setIfInBounds_toArray,List.set_cons_zero,List.set_cons_succ,i64_w,i32_w]
       rfl
      refine done_ (done_of HT_.out (by kernel_rfl)) ?_
      try go_wp2
      go_ret2
      exact ⟨_,by rfl,by exact Kd.R_nil _ _ _ _ _,by with_reducible exact HB.out⟩
   case rest=>
    clear HC35
    obtain ⟨kq,x4_34,HA,HJ34,HO_4,BK280,BK296,HB⟩:=hcut
    cases kq with
    | zero=>exact absurd HA.out (by simp [q22_Put.j1])
    | succ kj34=>
     have H:=HA.out
     clear HA
     simp only [q22_Put.j1] at H
     by_cases c53:(l0_9.length:Int)=0
     ·rw [if_pos c53] at H
      have c53b0:((l0_9.length:Int) == 0)=true:=beq_iff_eq.mpr c53
      have c53b1:((l0_9.length:Int) != 0)=false:=bne_eq_false_iff_eq.mpr c53
      clear c53
      replace H:=Option.bind_eq_some_iff.mp H
      obtain ⟨t307,A540,H⟩:=H
      replace H:(some (t307,0))=some (r1,r2):=H
      have A54:=Ak A540
      clear A540
      simp only [Option.some.injEq,Prod.mk.injEq] at H
      obtain ⟨rfl,rfl⟩:=H
      have hnb55:=NB280_296.out
      have hnc55:=NB296_280.out
      have hcz56_0:wc.cell? ⟨gb280,0,none⟩=some (.int .i64 a0_0):=(blk_cell BK280.out 0).trans rfl
      have hcz56_1:wc.cell? ⟨gb280,1,none⟩=some (.int .i64 a0_1):=(blk_cell BK280.out 1).trans rfl
      have hcz56_2:wc.cell? ⟨gb280,2,none⟩=some (.int .i64 a0_2):=(blk_cell BK280.out 2).trans rfl
      have hcz56_3:wc.cell? ⟨gb280,3,none⟩=some (.int .i64 a0_3):=(blk_cell BK280.out 3).trans rfl
      have hcz56_4:wc.cell? ⟨gb280,4,none⟩=some (.string a0_4):=(blk_cell BK280.out 4).trans rfl
      have hcz56_5:wc.cell? ⟨gb280,5,none⟩=some (.string a0_5):=(blk_cell BK280.out 5).trans rfl
      have hcz56_6:wc.cell? ⟨gb280,6,none⟩=some (.string a0_6):=(blk_cell BK280.out 6).trans rfl
      have hcz56_7:wc.cell? ⟨gb280,7,none⟩=some (.slice A0_7 l0_7.length c0_7):=(blk_cell BK280.out 7).trans rfl
      have hcz56_8:wc.cell? ⟨gb280,8,none⟩=some (.slice A0_8 l0_8.length c0_8):=(blk_cell BK280.out 8).trans rfl
      have hcz56_9:wc.cell? ⟨gb280,9,none⟩=some (.slice A0_9 l0_9.length c0_9):=(blk_cell BK280.out 9).trans rfl
      have hfz56_0:=blk_frozen BK280.out 0
      have hfz56_1:=blk_frozen BK280.out 1
      have hfz56_2:=blk_frozen BK280.out 2
      have hfz56_3:=blk_frozen BK280.out 3
      have hfz56_4:=blk_frozen BK280.out 4
      have hfz56_5:=blk_frozen BK280.out 5
      have hfz56_6:=blk_frozen BK280.out 6
      have hfz56_7:=blk_frozen BK280.out 7
      have hfz56_8:=blk_frozen BK280.out 8
      have hfz56_9:=blk_frozen BK280.out 9
      obtain ⟨Ao57,co57,eo57⟩:=Kd.R_slice HO_4.out
      subst eo57
      go_wp2_with (((with_reducible refine gate_callee (f:=36) rfl ?_);refine goesL_ (some 65) rfl rfl Tryz.func36 (by kernel_rfl) rfl #[.slice Ao57 x4_34.length co57,.int .i64 0] rfl (by (try simp only [List.map_toArray,List.map_cons,List.map_nil]);rfl) ?_;(with_reducible refine (q01_Put.calls _ _ x4_34 0 t307 _ ?side1 ?side2 A54.out).mono ?_);(case side1=>repeat (exact (Kd.R_reads' HO_4.out).2.2));(case side2=>exact (Kd.R_reads' HO_4.out).2.1);rintro e w58 ⟨v308,rfl,ho0,hb⟩;refine ⟨_,rfl,?_⟩;have n0_:=Ak (Kd.R_elder' HO_4.out (Kd.R_base ho0) hb);have n1_:=Ak (Kd.R_lower (Kd.R_new' ho0 (Kd.R_lt HO_4.out)) (below_size HB.out));have n2_:=Ak (blk_below (g:=gb280) (o:=.cells #[.int .i64 a0_0,.int .i64 a0_1,.int .i64 a0_2,.int .i64 a0_3,.string a0_4,.string a0_5,.string a0_6,.slice A0_7 l0_7.length c0_7,.slice A0_8 l0_8.length c0_8,.slice A0_9 l0_9.length c0_9] 34 (0,0)) BK280.out hb);have n3_:=Ak (blk_below (g:=gb296) (o:=.cells #[.string a0_5,.string a0_6,.slice A0_7 l0_7.length c0_7,.slice A0_8 l0_8.length c0_8] 29 (0,0)) BK296.out hb);have n4_:=Ak (below_step HB.out hb);clear HO_4;clear BK280;clear BK296;clear HB;have HO_4:=n0_;have HO309:=n1_;have BK280:=n2_;have BK296:=n3_;have HB:=n4_;clear n0_ n1_ n2_ n3_ n4_;(try clear hb);(try clear ho0)))
      go_ret2
      exact ⟨_,by rfl,by exact Kd.R_mono HO309.out (fun _ hk=>trivial),by with_reducible exact HB.out⟩
     ·rw [if_neg c53] at H
      have c53b0:((l0_9.length:Int) == 0)=false:=beq_eq_false_iff_ne.mpr c53
      have c53b1:((l0_9.length:Int) != 0)=true:=bne_iff_ne.mpr c53
      have c53b2:¬(l0_9=[]):=fun h_=>c53 (by rw [h_];rfl)
      replace H:=Option.bind_eq_some_iff.mp H
      obtain ⟨t310,A590,H⟩:=H
      replace H:((q07_PutG.f t310 l0_9).bind fun bt313=>(some (bt313.1,bt313.2)))=some (r1,r2):=H
      have A59:=Ak A590
      clear A590
      replace H:=Option.bind_eq_some_iff.mp H
      obtain ⟨⟨t313,t316⟩,A600,H⟩:=H
      replace H:(some (t313,t316))=some (r1,r2):=H
      have A60:=Ak A600
      clear A600
      simp only [Option.some.injEq,Prod.mk.injEq] at H
      obtain ⟨rfl,rfl⟩:=H
      have hnb61:=NB280_296.out
      have hnc61:=NB296_280.out
      have hcz62_0:wc.cell? ⟨gb280,0,none⟩=some (.int .i64 a0_0):=(blk_cell BK280.out 0).trans rfl
      have hcz62_1:wc.cell? ⟨gb280,1,none⟩=some (.int .i64 a0_1):=(blk_cell BK280.out 1).trans rfl
      have hcz62_2:wc.cell? ⟨gb280,2,none⟩=some (.int .i64 a0_2):=(blk_cell BK280.out 2).trans rfl
      have hcz62_3:wc.cell? ⟨gb280,3,none⟩=some (.int .i64 a0_3):=(blk_cell BK280.out 3).trans rfl
      have hcz62_4:wc.cell? ⟨gb280,4,none⟩=some (.string a0_4):=(blk_cell BK280.out 4).trans rfl
      have hcz62_5:wc.cell? ⟨gb280,5,none⟩=some (.string a0_5):=(blk_cell BK280.out 5).trans rfl
      have hcz62_6:wc.cell? ⟨gb280,6,none⟩=some (.string a0_6):=(blk_cell BK280.out 6).trans rfl
      have hcz62_7:wc.cell? ⟨gb280,7,none⟩=some (.slice A0_7 l0_7.length c0_7):=(blk_cell BK280.out 7).trans rfl
      have hcz62_8:wc.cell? ⟨gb280,8,none⟩=some (.slice A0_8 l0_8.length c0_8):=(blk_cell BK280.out 8).trans rfl
      have hcz62_9:wc.cell? ⟨gb280,9,none⟩=some (.slice A0_9 l0_9.length c0_9):=(blk_cell BK280.out 9).trans rfl
      have hfz62_0:=blk_frozen BK280.out 0
      have hfz62_1:=blk_frozen BK280.out 1
      have hfz62_2:=blk_frozen BK280.out 2
      have hfz62_3:=blk_frozen BK280.out 3
      have hfz62_4:=blk_frozen BK280.out 4
      have hfz62_5:=blk_frozen BK280.out 5
      have hfz62_6:=blk_frozen BK280.out 6
      have hfz62_7:=blk_frozen BK280.out 7
      have hfz62_8:=blk_frozen BK280.out 8
      have hfz62_9:=blk_frozen BK280.out 9
      try go_wp2
      replace HO_4:=Ak (Kd.R_drew HO_4.out)
      replace BK280:=Ak (blk_drew BK280.out)
      replace BK296:=Ak (blk_drew BK296.out)
      replace HB:=Ak (below_drew1 HB.out)
      obtain ⟨Ao64,co64,eo64⟩:=Kd.R_slice HO_4.out
      (subst eo64)
      refine start_ (n:=9) (S:=fun w'=>w'.cell? ⟨gb280,0,none⟩=some (.int .i64 a0_0)∧w'.cell? ⟨gb280,1,none⟩=some (.int .i64 a0_1)∧w'.cell? ⟨gb280,2,none⟩=some (.int .i64 a0_2)∧w'.cell? ⟨gb280,3,none⟩=some (.int .i64 a0_3)∧w'.cell? ⟨gb280,4,none⟩=some (.string a0_4)∧w'.cell? ⟨gb280,5,none⟩=some (.string a0_5)∧w'.cell? ⟨gb280,6,none⟩=some (.string a0_6)∧w'.cell? ⟨gb280,7,none⟩=some (.slice A0_7 l0_7.length c0_7)∧w'.cell? ⟨gb280,8,none⟩=some (.slice A0_8 l0_8.length c0_8)∧w'.cell? ⟨gb280,9,none⟩=some (.slice A0_9 l0_9.length c0_9)) (ds:=[]) #[false,false,false,false,false,false,false,false,false] (by kernel_rfl) rfl rfl ⟨(blk_cell BK280.out 0).trans rfl,(blk_cell BK280.out 1).trans rfl,(blk_cell BK280.out 2).trans rfl,(blk_cell BK280.out 3).trans rfl,(blk_cell BK280.out 4).trans rfl,(blk_cell BK280.out 5).trans rfl,(blk_cell BK280.out 6).trans rfl,(blk_cell BK280.out 7).trans rfl,(blk_cell BK280.out 8).trans rfl,(blk_cell BK280.out 9).trans rfl⟩ (fun hHeld=>?_);refine with_tabW q22_Put.tab12 q22_Put.bits12 (fun HT_ HW_=>?_)
      generalize wc.drew=w63 at HO_4 BK280 BK296 HB hHeld ⊢
      refine pure_ (i:=0) (N:=some 66) (v:=?_) (a':=?_) #[true,false,false,false,false,false,false,false,false] rfl rfl (any_of HT_.out (by kernel_rfl)) (fun _ _ _ h=>h) (Or.inl ⟨by rfl,?_⟩) ?_ ?_
      rotate_left
      ·intro w'
       go_simp
       with_reducible rfl
      rotate_left
      ·simp only [Act.put,List.setIfInBounds_toArray,List.set_cons_zero,List.set_cons_succ,i64_w,i32_w]
       rfl
      refine pure_ (i:=2) (N:=some 68) (v:=?_) (a':=?_) #[true,false,true,false,false,false,false,false,false] rfl rfl (any_of HT_.out (by kernel_rfl)) (fun _ _ _ h=>h) (Or.inl ⟨by rfl,?_⟩) ?_ ?_
      rotate_left
      ·intro w'
       go_simp
       with_reducible rfl
      rotate_left
      ·simp only [Act.put,List.setIfInBounds_toArray,List.set_cons_zero,List.set_cons_succ,i64_w,i32_w]
       rfl
      refine take_ (i:=3) (N:=some 69) (v:=?_) (a':=?_) #[true,false,true,true,false,false,false,false,false] rfl rfl (take_ofW HT_.out HW_.out (by kernel_rfl)) (fun _ _ _ h=>h) (Or.inl ⟨by rfl,?_⟩) hHeld ?_ ?_
      rotate_left
      ·rintro w' ⟨s0,s1,s2,s3,s4,s5,s6,s7,s8,s9⟩
       go_simp
       with_reducible rfl
      rotate_left
      ·simp only [Act.put,List.setIfInBounds_toArray,List.set_cons_zero,List.set_cons_succ,i64_w,i32_w]
       rfl
      refine one_ (i:=1) (N:=some 67) #[true,true,true,true,false,false,false,false,false] rfl rfl (one_of HT_.out (by kernel_rfl)) (by decide) (fun K hK=>?_)
      refine goes_ Tryz.func36 (by kernel_rfl) rfl #[.slice Ao64 x4_34.length co64,.int .i64 1] (by rfl) rfl rfl (by (try simp only [List.map_toArray,List.map_cons,List.map_nil]);rfl) ?_
      with_reducible refine (q01_Put.calls _ _ x4_34 1 t310 _ ?side1 ?side2 A59.out).mono ?_
      (case side1=>repeat (exact (Kd.R_reads' HO_4.out).2.2))
      (case side2=>exact (Kd.R_reads' HO_4.out).2.1)
      rintro e w65 ⟨v311,rfl,ho0,hb⟩
      refine ⟨_,rfl,?_⟩
      have n0_:=Ak (Kd.R_elder' HO_4.out (Kd.R_base ho0) hb)
      have n1_:=Ak (Kd.R_lower (Kd.R_new' ho0 (Kd.R_lt HO_4.out)) (below_size HB.out))
      have n2_:=Ak (blk_below (g:=gb280) (o:=.cells #[.int .i64 a0_0,.int .i64 a0_1,.int .i64 a0_2,.int .i64 a0_3,.string a0_4,.string a0_5,.string a0_6,.slice A0_7 l0_7.length c0_7,.slice A0_8 l0_8.length c0_8,.slice A0_9 l0_9.length c0_9] 34 (0,0)) BK280.out hb)
      have n3_:=Ak (blk_below (g:=gb296) (o:=.cells #[.string a0_5,.string a0_6,.slice A0_7 l0_7.length c0_7,.slice A0_8 l0_8.length c0_8] 29 (0,0)) BK296.out hb)
      have n4_:=Ak (below_step HB.out hb)
      clear HO_4
      clear BK280
      clear BK296
      clear HB
      have HO_4:=n0_
      have HO312:=n1_
      have BK280:=n2_
      have BK296:=n3_
      have HB:=n4_
      clear n0_ n1_ n2_ n3_ n4_
      (try clear hb)
      (try clear ho0)
      obtain ⟨Ao66,co66,eo66⟩:=Kd.R_slice HO312.out
      (subst eo66)
      refine hK.out _ _ ⟨(blk_cell BK280.out 0).trans rfl,(blk_cell BK280.out 1).trans rfl,(blk_cell BK280.out 2).trans rfl,(blk_cell BK280.out 3).trans rfl,(blk_cell BK280.out 4).trans rfl,(blk_cell BK280.out 5).trans rfl,(blk_cell BK280.out 6).trans rfl,(blk_cell BK280.out 7).trans rfl,(blk_cell BK280.out 8).trans rfl,(blk_cell BK280.out 9).trans rfl⟩ (fun hHeld=>?_)
      clear hK K
      refine norm_ (a':=?_) ?_ ?_
      rotate_left
      ·show Act.put _ (some 67) _=_
       simp only [Act.put,List.setIfInBounds_toArray,List.set_cons_zero,List.set_cons_succ,i64_w,i32_w]
       rfl
      refine one_ (i:=4) (N:=some 70) #[true,true,true,true,true,false,false,false,false] rfl rfl (one_of HT_.out (by kernel_rfl)) (by decide) (fun K hK=>?_)
      refine goes_ Tryz.func39 (by kernel_rfl) rfl #[.slice Ao66 t310.length co66,.agg #[.slice A0_9 l0_9.length c0_9]] (by rfl) rfl rfl (by (try simp only [List.map_toArray,List.map_cons,List.map_nil]);rfl) ?_
      with_reducible refine (q07_PutG.calls _ _ t310 _ _ l0_9 t313 t316 _ ?side1 ?side2 ?side3 ?side4 A60.out).mono ?_
      (case side1=>repeat (exact (Kd.R_reads' HO312.out).2.2))
      (case side2=>exact (Kd.R_reads' HO312.out).2.1)
      (case side3=>repeat (exact (Kd.C_below HR0_9.out HB.out)))
      (case side4=>exact HC0_9.out)
      rintro e w67 ⟨v314,rfl,ho0,hb⟩
      refine ⟨_,rfl,?_⟩
      have n0_:=Ak (Kd.R_elder' HO_4.out (Kd.R_base ho0) hb)
      have n1_:=Ak (Kd.R_elder' HO312.out (Kd.R_base ho0) hb)
      have n2_:=Ak (Kd.R_lower (Kd.R_new' (Kd.R_new' ho0 (Kd.R_lt HO_4.out)) (Kd.R_lt HO312.out)) (below_size HB.out))
      have n3_:=Ak (blk_below (g:=gb280) (o:=.cells #[.int .i64 a0_0,.int .i64 a0_1,.int .i64 a0_2,.int .i64 a0_3,.string a0_4,.string a0_5,.string a0_6,.slice A0_7 l0_7.length c0_7,.slice A0_8 l0_8.length c0_8,.slice A0_9 l0_9.length c0_9] 34 (0,0)) BK280.out hb)
      have n4_:=Ak (blk_below (g:=gb296) (o:=.cells #[.string a0_5,.string a0_6,.slice A0_7 l0_7.length c0_7,.slice A0_8 l0_8.length c0_8] 29 (0,0)) BK296.out hb)
      have n5_:=Ak (below_step HB.out hb)
      clear HO_4
      clear HO312
      clear BK280
      clear BK296
      clear HB
      have HO_4:=n0_
      have HO312:=n1_
      have HO315:=n2_
      have BK280:=n3_
      have BK296:=n4_
      have HB:=n5_
      clear n0_ n1_ n2_ n3_ n4_ n5_
      (try clear hb)
      (try clear ho0)
      refine hK.out _ _ ⟨(blk_cell BK280.out 0).trans rfl,(blk_cell BK280.out 1).trans rfl,(blk_cell BK280.out 2).trans rfl,(blk_cell BK280.out 3).trans rfl,(blk_cell BK280.out 4).trans rfl,(blk_cell BK280.out 5).trans rfl,(blk_cell BK280.out 6).trans rfl,(blk_cell BK280.out 7).trans rfl,(blk_cell BK280.out 8).trans rfl,(blk_cell BK280.out 9).trans rfl⟩ (fun hHeld=>?_)
      clear hK K
      refine norm_ (a':=?_) ?_ ?_
      rotate_left
      ·show Act.put _ (some 70) _=_
       simp only [Act.put,List.setIfInBounds_toArray,List.set_cons_zero,List.set_cons_succ,i64_w,i32_w]
       rfl
      refine pure_ (i:=5) (N:=some 71) (v:=?_) (a':=?_) #[true,true,true,true,true,true,false,false,false] rfl rfl (any_of HT_.out (by kernel_rfl)) (fun _ _ _ h=>h) (Or.inl ⟨by rfl,?_⟩) ?_ ?_
      rotate_left
      ·intro w'
       go_simp
       with_reducible rfl
      rotate_left
      ·simp only [Act.put,List.setIfInBounds_toArray,List.set_cons_zero,List.set_cons_succ,i64_w,i32_w]
       rfl
      refine pure_ (i:=6) (N:=some 72) (v:=?_) (a':=?_) #[true,true,true,true,true,true,true,false,false] rfl rfl (any_of HT_.out (by kernel_rfl)) (fun _ _ _ h=>h) (Or.inl ⟨by rfl,?_⟩) ?_ ?_
      rotate_left
      ·intro w'
       go_simp
       with_reducible rfl
      rotate_left
      ·simp only [Act.put,List.setIfInBounds_toArray,List.set_cons_zero,List.set_cons_succ,i64_w,i32_w]
       rfl
      refine pure_ (i:=7) (N:=some 2) (v:=?_) (a':=?_) #[true,true,true,true,true,true,true,true,false] rfl rfl (any_of HT_.out (by kernel_rfl)) (fun _ _ _ h=>h) (Or.inl ⟨by rfl,?_⟩) ?_ ?_
      rotate_left
      ·intro w'
       go_simp
       with_reducible rfl
      rotate_left
      ·simp only [Act.put,List.setIfInBounds_toArray,List.set_cons_zero,List.set_cons_succ,i64_w,i32_w]
       rfl
      refine pure_ (i:=8) (N:=some 3) (v:=?_) (a':=?_) #[true,true,true,true,true,true,true,true,true] rfl rfl (any_of HT_.out (by kernel_rfl)) (fun _ _ _ h=>h) (Or.inl ⟨by rfl,?_⟩) ?_ ?_
      rotate_left
      ·intro w'
       go_simp
       with_reducible rfl
      rotate_left
      ·simp only [Act.put,List.setIfInBounds_toArray,List.set_cons_zero,List.set_cons_succ,i64_w,i32_w]
       rfl
      refine done_ (done_of HT_.out (by kernel_rfl)) ?_
      try go_wp2
      go_ret2
      exact ⟨_,by rfl,by exact Kd.R_mono HO315.out (fun _ hk=>trivial),by with_reducible exact HB.out⟩
end Go.Proofs.YtocpcnmnhckcpaaGreat.Prt
namespace Go.Proofs.YtocpcnmnhckcpaaGreat.Prt
open RowKit YtocpcnmnhckcpaaGreatW.PrintWords YtocpcnmnhckcpaaGreatW.PrintLast YtocpcnmnhckcpaaGreatW.PrintMore
attribute [local go_sem] max2_int min2_int max_two min_two max_three min_three max_four min_four
def q22_digits.l0:Nat→List Int→List Int→Int→Option (ByteArray)
 | 0,_,_,_=>none
 | k+1,x0,x3,x4=>if x4 < (x0.length:Int) then (if 0≤x4 then (if 0≤((Int.tdiv (rd x0 x4) 16) % 256) then (if ((Int.tdiv (rd x0 x4) 16) % 256) < 16 then (if 0≤(Int.tmod (rd x0 x4) 16) then (if (Int.tmod (rd x0 x4) 16) < 16 then ((some (([bt (⟨#[48,49,50,51,52,53,54,55,56,57,97,98,99,100,101,102]⟩:ByteArray) ((Int.tdiv (rd x0 x4) 16) % 256),bt (⟨#[48,49,50,51,52,53,54,55,56,57,97,98,99,100,101,102]⟩:ByteArray) (Int.tmod (rd x0 x4) 16)]:List Int):List Int)).bind fun y368=>(if x3.length+y368.length < 140737488355328 then (q22_digits.l0 k x0 (x3++y368) (wrap64 (x4+1))) else (none))) else (none)) else (none)) else (none)) else (none)) else (none)) else (some (strOfNums x3))
def q22_digits.f (k:Nat) (l0:List Int):Option (ByteArray):=q22_digits.l0 k l0 (([]:List Int)) 0
def q22_digits.T5:Bool × List (List Nat × List Nat):=(true,[([],[]),([],[]),([],[]),([1,2],[1,2]),([3],[3]),([4],[4]),([5],[5]),([],[]),([],[]),([7,8],[7,8]),([9],[9]),([10],[10]),([11],[11]),([6,12],[6,12]),([0,13],[0,13]),([14,14,0,1,2,3,4,5,6,7,8,9,10,11,12,13,14],[0,14])])
def q22_digits.B5:List Nat:=[0,0,0,6,14,30,62,0,0,384,896,1920,3968,8190,16383,32767]
theorem q22_digits.tab5:rtab .any (opsOf Tryz.f43 5)=q22_digits.T5:=by kernel_rfl
theorem q22_digits.bits5:waitsOk q22_digits.T5.2 q22_digits.B5=true:=by kernel_rfl
set_option maxHeartbeats 8000000 in
set_option maxRecDepth 100000 in
theorem q22_digits.calls (k:Nat) (A0:Option Addr) (c0:Nat) (l0:List Int) (r:ByteArray) (w:World) (hr0:Kd.C (Kd.int .u8) w A0 l0.length l0) (hc0:l0.length≤c0) (h:q22_digits.f k l0=some r) :
  Calls Tryz.prog 43 #[.slice A0 l0.length c0] w fun e w'=>e = .returned (.string r)∧Below w.heap.size w w':=by
 have HR0:=Ak hr0
 have HC0:=Ak hc0
 clear hr0 hc0
 have HB:=Ak (Below.refl w.heap.size w)
 have H:(q22_digits.l0 k l0 (([]:List Int)) 0)=some r:=h
 clear h
 obtain ⟨y363,hy363⟩:∃ y_:List Int,y_=(([]:List Int)):=⟨_,rfl⟩
 replace H:(q22_digits.l0 k l0 y363 0)=some r:=by (rw [hy363];with_reducible exact H)
 have Ny363:=Ak hy363
 clear hy363
 have H':=Ak H
 clear H
 go_enter Tryz.func43,Tryz.ntmps43
 go_wp2_with (((with_reducible refine gate_dst (N:=5) rfl ?_);refine Kd.R_lit (Kd.int .u8) _ 5 ?hg (N:=5) ?hd (xs:=([]:List Int)) (inner:=[]) (ok:=fun _=>True) (okp:=fun _=>True) ?hr ?hp (fun _ hk=>hk) trivial (Below.refl _ _) (Nat.le_refl _) (by simp) ?_;(case hd=>rfl);(case hg=>rfl);(case hr=>(go_simp;done));(case hp=>exact (Reps.none _ _));intro v364 w2 ho3 hb hg_ hnew_;clear hg_ hnew_;(rw [←Ny363.out] at ho3);have n0_:=Ak (Kd.R_lower ho3 (below_size HB.out));have n1_:=Ak (below_step HB.out hb);clear HB;have HO365:=n0_;have HB:=n1_;clear n0_ n1_;clear hb ho3))
 go_loopg [3,4] k (fun kq v3 v4 w'=>∃ (x3_1:List Int) (x4_1:Int),v4 = .int .i64 x4_1∧Aside0 (q22_digits.l0 kq l0 x3_1 x4_1=some r)∧Aside0 (kq≤k)∧Aside0 (Kd.R (Kd.int .u8) 5 w' w.heap.size (fun _=>True) v3 x3_1)∧Aside0 (Below w.heap.size w w'))
 case atStart=>exact ⟨(y363),(0),(by rfl),H',⟨Nat.le_refl _⟩,⟨by exact HO365.out⟩,⟨by with_reducible exact HB.out⟩⟩
 case round=>
  clear H'
  obtain ⟨x3_1,x4_1,rfl,HA,HK1,HO_3,HB⟩:=hrel
  cases gk with
  | zero=>exact absurd HA.out (by simp [q22_digits.l0])
  | succ k1=>
   have H:=HA.out
   clear HA
   simp only [q22_digits.l0] at H
   by_cases c4:x4_1 < (l0.length:Int)
   ·rw [if_pos c4] at H
    have c4b0:decide (x4_1 < (l0.length:Int))=true:=decide_eq_true c4
    clear c4
    by_cases c5:0≤x4_1
    ·rw [if_pos c5] at H
     have c5b0:decide (0≤x4_1)=true:=decide_eq_true c5
     clear c5
     obtain ⟨ji6,hji6⟩:∃ j_:Int,((Int.tdiv (rd l0 x4_1) 16) % 256)=j_:=⟨_,rfl⟩
     have hji6w:IntKind.u8.wrap (Int.tdiv (rd l0 x4_1) 16)=ji6:=by rw [IntKind.wrap_u8];exact hji6
     replace H:(if 0≤(ji6) then (if (ji6) < 16 then (if 0≤(Int.tmod (rd l0 x4_1) 16) then (if (Int.tmod (rd l0 x4_1) 16) < 16 then ((some (([bt (⟨#[48,49,50,51,52,53,54,55,56,57,97,98,99,100,101,102]⟩:ByteArray) (ji6),bt (⟨#[48,49,50,51,52,53,54,55,56,57,97,98,99,100,101,102]⟩:ByteArray) (Int.tmod (rd l0 x4_1) 16)]:List Int):List Int)).bind fun y368=>(if x3_1.length+y368.length < 140737488355328 then (q22_digits.l0 k1 l0 (x3_1++y368) (wrap64 (x4_1+1))) else (none))) else (none)) else (none)) else (none)) else (none))=some r:=by (rw [hji6] at H;exact H)
     by_cases c7:0≤(ji6)
     ·rw [if_pos c7] at H
      have c7b0:decide (0≤(ji6))=true:=decide_eq_true c7
      clear c7
      by_cases c8:(ji6) < 16
      ·rw [if_pos c8] at H
       have c8b0:decide ((ji6) < 16)=true:=decide_eq_true c8
       clear c8
       obtain ⟨ji10,hji10⟩:∃ j_:Int,(Int.tmod (rd l0 x4_1) 16)=j_:=⟨_,rfl⟩
       replace H:(if 0≤(ji10) then (if (ji10) < 16 then ((some (([bt (⟨#[48,49,50,51,52,53,54,55,56,57,97,98,99,100,101,102]⟩:ByteArray) (ji6),bt (⟨#[48,49,50,51,52,53,54,55,56,57,97,98,99,100,101,102]⟩:ByteArray) (ji10)]:List Int):List Int)).bind fun y368=>(if x3_1.length+y368.length < 140737488355328 then (q22_digits.l0 k1 l0 (x3_1++y368) (wrap64 (x4_1+1))) else (none))) else (none)) else (none))=some r:=by (rw [hji10] at H;exact H)
       by_cases c11:0≤(ji10)
       ·rw [if_pos c11] at H
        have c11b0:decide (0≤(ji10))=true:=decide_eq_true c11
        clear c11
        by_cases c12:(ji10) < 16
        ·rw [if_pos c12] at H
         have c12b0:decide ((ji10) < 16)=true:=decide_eq_true c12
         clear c12
         obtain ⟨y368,hy368⟩:∃ y_:List Int,y_=(([bt (⟨#[48,49,50,51,52,53,54,55,56,57,97,98,99,100,101,102]⟩:ByteArray) (ji6),bt (⟨#[48,49,50,51,52,53,54,55,56,57,97,98,99,100,101,102]⟩:ByteArray) (ji10)]:List Int)):=⟨_,rfl⟩
         replace H:(if x3_1.length+y368.length < 140737488355328 then (q22_digits.l0 k1 l0 (x3_1++y368) (wrap64 (x4_1+1))) else (none))=some r:=by (have H2_:=(Option.bind_some _ _).symm.trans H;rw [hy368];with_reducible exact H2_)
         have Ny368:=Ak hy368
         clear hy368
         by_cases c14:x3_1.length+y368.length < 140737488355328
         ·rw [if_pos c14] at H
          have LMc14:=Ak c14
          clear c14
          obtain ⟨y371,hy371⟩:∃ y_:List Int,y_=(x3_1++y368):=⟨_,rfl⟩
          replace H:(q22_digits.l0 k1 l0 y371 (wrap64 (x4_1+1)))=some r:=by (rw [hy371];with_reducible exact H)
          have Ny371:=Ak hy371
          clear hy371
          have H':=Ak H
          clear H
          try go_wp2
          replace HO_3:=Ak (Kd.R_drew HO_3.out)
          replace HB:=Ak (below_drew1 HB.out)
          have p366:0≤(x4_1:Int):=of_decide_eq_true (by (with_reducible assumption))
          have q366:x4_1 < (l0.length:Int):=of_decide_eq_true (by (with_reducible assumption))
          obtain ⟨ad366,e366,hx366_0⟩:=Kd.at_int HR0.out x4_1 p366 q366
          have hw366_0:=hx366_0
          cases e366
          replace hx366_0:=(HB.out.cell (World.block_lt_of_cell? w _ hx366_0)).trans hx366_0
          replace p366:=eq_true p366
          replace q366:=eq_true q366
          have p9:0≤((ji6):Int):=of_decide_eq_true (by (with_reducible assumption))
          have q9:(ji6) < (16:Int):=of_decide_eq_true (by (with_reducible assumption))
          have hx9:=bt_at (⟨#[48,49,50,51,52,53,54,55,56,57,97,98,99,100,101,102]⟩:ByteArray) (ji6)
          replace p9:=eq_true p9
          replace q9:=eq_true q9
          have p367:0≤(x4_1:Int):=of_decide_eq_true (by (with_reducible assumption))
          have q367:x4_1 < (l0.length:Int):=of_decide_eq_true (by (with_reducible assumption))
          obtain ⟨ad367,e367,hx367_0⟩:=Kd.at_int HR0.out x4_1 p367 q367
          have hw367_0:=hx367_0
          obtain rfl:ad366=ad367:=(by injection e367)
          replace hx367_0:=(HB.out.cell (World.block_lt_of_cell? w _ hx367_0)).trans hx367_0
          replace p367:=eq_true p367
          replace q367:=eq_true q367
          have p13:0≤((ji10):Int):=of_decide_eq_true (by (with_reducible assumption))
          have q13:(ji10) < (16:Int):=of_decide_eq_true (by (with_reducible assumption))
          have hx13:=bt_at (⟨#[48,49,50,51,52,53,54,55,56,57,97,98,99,100,101,102]⟩:ByteArray) (ji10)
          replace p13:=eq_true p13
          replace q13:=eq_true q13
          refine start_ (n:=16) (S:=fun w'=>w'.cell? (ad366.add (x4_1).toNat)=some (.int .u8 (rd l0 x4_1))∧w'.cell? (ad366.add (x4_1).toNat)=some (.int .u8 (rd l0 x4_1))) (ds:=[]) #[false,false,false,false,false,false,false,false,false,false,false,false,false,false,false,false] (by kernel_rfl) rfl rfl ⟨((HB.out.cell (World.block_lt_of_cell? w _ hw366_0)).trans hw366_0),((HB.out.cell (World.block_lt_of_cell? w _ hw367_0)).trans hw367_0)⟩ (fun hHeld=>?_);refine with_tabW q22_digits.tab5 q22_digits.bits5 (fun HT_ HW_=>?_)
          generalize wr.drew=w15 at HO_3 HB hx366_0 hx367_0 hHeld ⊢
          refine pure_ (i:=0) (N:=some 12) (v:=?_) (a':=?_) #[true,false,false,false,false,false,false,false,false,false,false,false,false,false,false,false] rfl rfl (any_of HT_.out (by kernel_rfl)) (fun _ _ _ h=>h) (Or.inl ⟨by rfl,?_⟩) ?_ ?_
          rotate_left
          ·intro w'
           go_simp
           with_reducible rfl
          rotate_left
          ·simp only [Act.put,List.setIfInBounds_toArray,List.set_cons_zero,List.set_cons_succ,i64_w,i32_w]
           rfl
          refine pure_ (i:=1) (N:=some 13) (v:=?_) (a':=?_) #[true,true,false,false,false,false,false,false,false,false,false,false,false,false,false,false] rfl rfl (any_of HT_.out (by kernel_rfl)) (fun _ _ _ h=>h) (Or.inl ⟨by rfl,?_⟩) ?_ ?_
          rotate_left
          ·intro w'
           go_simp
           with_reducible rfl
          rotate_left
          ·simp only [Act.put,List.setIfInBounds_toArray,List.set_cons_zero,List.set_cons_succ,i64_w,i32_w]
           rfl
          refine pure_ (i:=2) (N:=some 14) (v:=?_) (a':=?_) #[true,true,true,false,false,false,false,false,false,false,false,false,false,false,false,false] rfl rfl (any_of HT_.out (by kernel_rfl)) (fun _ _ _ h=>h) (Or.inl ⟨by rfl,?_⟩) ?_ ?_
          rotate_left
          ·intro w'
           go_simp
           with_reducible rfl
          rotate_left
          ·simp only [Act.put,List.setIfInBounds_toArray,List.set_cons_zero,List.set_cons_succ,i64_w,i32_w]
           rfl
          refine pure_ (i:=3) (N:=some 15) (v:=?_) (a':=?_) #[true,true,true,true,false,false,false,false,false,false,false,false,false,false,false,false] rfl rfl (any_of HT_.out (by kernel_rfl)) (fun _ _ _ h=>h) (Or.inl ⟨by rfl,?_⟩) ?_ ?_
          rotate_left
          ·intro w'
           go_simp
           with_reducible rfl
          rotate_left
          ·simp only [Act.put,List.setIfInBounds_toArray,List.set_cons_zero,List.set_cons_succ,i64_w,i32_w]
           rfl
          refine pure_ (i:=7) (N:=some 19) (v:=?_) (a':=?_) #[true,true,true,true,false,false,false,true,false,false,false,false,false,false,false,false] rfl rfl (any_of HT_.out (by kernel_rfl)) (fun _ _ _ h=>h) (Or.inl ⟨by rfl,?_⟩) ?_ ?_
          rotate_left
          ·intro w'
           go_simp
           with_reducible rfl
          rotate_left
          ·simp only [Act.put,List.setIfInBounds_toArray,List.set_cons_zero,List.set_cons_succ,i64_w,i32_w]
           rfl
          refine pure_ (i:=8) (N:=some 20) (v:=?_) (a':=?_) #[true,true,true,true,false,false,false,true,true,false,false,false,false,false,false,false] rfl rfl (any_of HT_.out (by kernel_rfl)) (fun _ _ _ h=>h) (Or.inl ⟨by rfl,?_⟩) ?_ ?_
          rotate_left
          ·intro w'
           go_simp
           with_reducible rfl
          rotate_left
          ·simp only [Act.put,List.setIfInBounds_toArray,List.set_cons_zero,List.set_cons_succ,i64_w,i32_w]
           rfl
          refine pure_ (i:=9) (N:=some 21) (v:=?_) (a':=?_) #[true,true,true,true,false,false,false,true,true,true,false,false,false,false,false,false] rfl rfl (any_of HT_.out (by kernel_rfl)) (fun _ _ _ h=>h) (Or.inl ⟨by rfl,?_⟩) ?_ ?_
          rotate_left
          ·intro w'
           go_simp
           with_reducible rfl
          rotate_left
          ·simp only [Act.put,List.setIfInBounds_toArray,List.set_cons_zero,List.set_cons_succ,i64_w,i32_w]
           rfl
          refine take_ (i:=4) (N:=some 16) (v:=?_) (a':=?_) #[true,true,true,true,true,false,false,true,true,true,false,false,false,false,false,false] rfl rfl (take_ofW HT_.out HW_.out (by kernel_rfl)) (fun _ _ _ h=>h) (Or.inl ⟨by rfl,?_⟩) hHeld ?_ ?_
          rotate_left
          ·rintro w' ⟨s0,s1⟩
           go_simp
           with_reducible rfl
          rotate_left
          ·simp only [Act.put,List.setIfInBounds_toArray,List.set_cons_zero,List.set_cons_succ,i64_w,i32_w]
           rfl
          refine pure_ (i:=5) (N:=some 17) (v:=?_) (a':=?_) #[true,true,true,true,true,true,false,true,true,true,false,false,false,false,false,false] rfl rfl (any_of HT_.out (by kernel_rfl)) (fun _ _ _ h=>h) (Or.inl ⟨by rfl,?_⟩) ?_ ?_
          rotate_left
          ·intro w'
           go_simp
           with_reducible rfl
          rotate_left
          ·simp only [Act.put,List.setIfInBounds_toArray,List.set_cons_zero,List.set_cons_succ,i64_w,i32_w]
           rfl
          refine take_ (i:=6) (N:=some 18) (v:=?_) (a':=?_) #[true,true,true,true,true,true,true,true,true,true,false,false,false,false,false,false] rfl rfl (take_ofW HT_.out HW_.out (by kernel_rfl)) (fun _ _ _ h=>h) (Or.inl ⟨by rfl,?_⟩) hHeld ?_ ?_
          rotate_left
          ·rintro w' ⟨s0,s1⟩
           go_simp
           with_reducible rfl
          rotate_left
          ·simp only [Act.put,List.setIfInBounds_toArray,List.set_cons_zero,List.set_cons_succ,i64_w,i32_w]
           rfl
          refine take_ (i:=10) (N:=some 22) (v:=?_) (a':=?_) #[true,true,true,true,true,true,true,true,true,true,true,false,false,false,false,false] rfl rfl (take_ofW HT_.out HW_.out (by kernel_rfl)) (fun _ _ _ h=>h) (Or.inl ⟨by rfl,?_⟩) hHeld ?_ ?_
          rotate_left
          ·rintro w' ⟨s0,s1⟩
           go_simp
           with_reducible rfl
          rotate_left
          ·simp only [Act.put,List.setIfInBounds_toArray,List.set_cons_zero,List.set_cons_succ,i64_w,i32_w]
           rfl
          refine pure_ (i:=11) (N:=some 23) (v:=?_) (a':=?_) #[true,true,true,true,true,true,true,true,true,true,true,true,false,false,false,false] rfl rfl (any_of HT_.out (by kernel_rfl)) (fun _ _ _ h=>h) (Or.inl ⟨by rfl,?_⟩) ?_ ?_
          rotate_left
          ·intro w'
           go_simp
           with_reducible rfl
          rotate_left
          ·simp only [Act.put,List.setIfInBounds_toArray,List.set_cons_zero,List.set_cons_succ,i64_w,i32_w]
           rfl
          refine take_ (i:=12) (N:=some 24) (v:=?_) (a':=?_) #[true,true,true,true,true,true,true,true,true,true,true,true,true,false,false,false] rfl rfl (take_ofW HT_.out HW_.out (by kernel_rfl)) (fun _ _ _ h=>h) (Or.inl ⟨by rfl,?_⟩) hHeld ?_ ?_
          rotate_left
          ·rintro w' ⟨s0,s1⟩
           go_simp
           with_reducible rfl
          rotate_left
          ·simp only [Act.put,List.setIfInBounds_toArray,List.set_cons_zero,List.set_cons_succ,i64_w,i32_w]
           rfl
          refine one_ (i:=13) (N:=some 25) #[true,true,true,true,true,true,true,true,true,true,true,true,true,true,false,false] rfl rfl (one_of HT_.out (by kernel_rfl)) (by decide) (fun K hK=>?_)
          refine Kd.R_lit_step (Kd.int .u8) _ 5 ?hg (N:=25) ?hd (xs:=([bt (⟨#[48,49,50,51,52,53,54,55,56,57,97,98,99,100,101,102]⟩:ByteArray) (ji6),bt (⟨#[48,49,50,51,52,53,54,55,56,57,97,98,99,100,101,102]⟩:ByteArray) (ji10)]:List Int)) (inner:=[.int .u8 (bt (⟨#[48,49,50,51,52,53,54,55,56,57,97,98,99,100,101,102]⟩:ByteArray) (ji6)),.int .u8 (bt (⟨#[48,49,50,51,52,53,54,55,56,57,97,98,99,100,101,102]⟩:ByteArray) (ji10))]) (ok:=fun _=>True) (okp:=fun _=>True) ?hr ?hp (fun _ hk=>hk) trivial (Below.refl _ _) (Nat.le_refl _) (by simp) ?_;(case hd=>rfl);(case hg=>rfl);(case hr=>(go_simp;done));(case hp=>exact (Reps.one (show Kd.M (Kd.int .u8) _ _ _ (bt (⟨#[48,49,50,51,52,53,54,55,56,57,97,98,99,100,101,102]⟩:ByteArray) (ji6)) [.int .u8 (bt (⟨#[48,49,50,51,52,53,54,55,56,57,97,98,99,100,101,102]⟩:ByteArray) (ji6))] from rfl) (Reps.one (show Kd.M (Kd.int .u8) _ _ _ (bt (⟨#[48,49,50,51,52,53,54,55,56,57,97,98,99,100,101,102]⟩:ByteArray) (ji10)) [.int .u8 (bt (⟨#[48,49,50,51,52,53,54,55,56,57,97,98,99,100,101,102]⟩:ByteArray) (ji10))] from rfl) (Reps.none _ _))))
          intro v369 w16 ho17 hb hg_ hnew_
          clear hg_ hnew_
          (rw [←Ny368.out] at ho17)
          have n0_:=Ak (Kd.R_elder' HO_3.out (Kd.R_base ho17) hb)
          have n1_:=Ak (Kd.R_lower (Kd.R_new' ho17 (Kd.R_lt HO_3.out)) (below_size HB.out))
          have n2_:=Ak (below_step HB.out hb)
          clear HO_3
          clear HB
          have HO_3:=n0_
          have HO370:=n1_
          have HB:=n2_
          clear n0_ n1_ n2_
          clear hb ho17
          obtain ⟨Ao19,co19,eo19⟩:=Kd.R_slice HO370.out
          (subst eo19)
          refine hK.out _ _ ⟨((HB.out.cell (World.block_lt_of_cell? w _ hw366_0)).trans hw366_0),((HB.out.cell (World.block_lt_of_cell? w _ hw367_0)).trans hw367_0)⟩ (fun hHeld=>?_)
          clear hK K
          refine norm_ (a':=?_) ?_ ?_
          rotate_left
          ·show Act.put _ (some 25) _=_
           simp only [Act.put,List.setIfInBounds_toArray,List.set_cons_zero,List.set_cons_succ,i64_w,i32_w]
           rfl
          refine one_ (i:=14) (N:=some 26) #[true,true,true,true,true,true,true,true,true,true,true,true,true,true,true,false] rfl rfl (one_of HT_.out (by kernel_rfl)) (by decide) (fun K hK=>?_)
          refine Kd.R_append_rows_step (Kd.int .u8) (w0:=w) w.heap.size (by rfl) (.tmp 12) (.tmp 25) 23 5 (.int .u8 0) 1 rfl Tryz.underlying23 info5 rfl (by decide) (by omega) u3 x3_1 y368 _ _ _ (fun k_=>some k_≠(.slice Ao19 y368.length co19:Value).ownBlock) (fun _=>False) rfl rfl ?aO ?aR (fun _ _ h=>h) (fun _ h=>h.elim) ?aF ?aB ?aS ?aL ?_
          (case aR=>repeat (exact (Kd.R_reads' HO370.out).2.2))
          (case aB=>exact HB.out)
          (case aF=>exact (fun k_ hk=>Kd.fresh' (Kd.R_lt HO370.out) k_ hk))
          (case aO=>exact (by exact Kd.R_mono HO_3.out (fun _ hk=>hk.2)))
          (case aS=>exact (below_size HB.out))
          (case aL=>have:=LMc14.out;omega)
          intro v372 w18 ho hb hg hat
          rw [←Ny371.out] at ho
          replace HO370:=Ak (Kd.R_after (ok:=(fun _=>True)) HO370.out hg hat)
          replace HB:=Ak (hb)
          have HO373:=Ak (ho)
          clear HO_3
          clear ho hb hg hat
          refine hK.out _ _ ⟨((HB.out.cell (World.block_lt_of_cell? w _ hw366_0)).trans hw366_0),((HB.out.cell (World.block_lt_of_cell? w _ hw367_0)).trans hw367_0)⟩ (fun hHeld=>?_)
          clear hK K
          refine norm_ (a':=?_) ?_ ?_
          rotate_left
          ·show Act.put _ (some 26) _=_
           simp only [Act.put,List.setIfInBounds_toArray,List.set_cons_zero,List.set_cons_succ,i64_w,i32_w]
           rfl
          refine pure_ (i:=15) (N:=some 3) (v:=?_) (a':=?_) #[true,true,true,true,true,true,true,true,true,true,true,true,true,true,true,true] rfl rfl (any_of HT_.out (by kernel_rfl)) (fun _ _ _ h=>h) (Or.inl ⟨by rfl,?_⟩) ?_ ?_
          rotate_left
          ·intro w'
           go_simp
           with_reducible rfl
          rotate_left
          ·simp only [Act.put,List.setIfInBounds_toArray,List.set_cons_zero,List.set_cons_succ,i64_w,i32_w]
           rfl
          refine done_ (done_of HT_.out (by kernel_rfl)) ?_
          try go_wp2
          go_roundg k1
          case measure=>have:=HK1.out;omega
          case rel=>exact ⟨(y371),(wrap64 (x4_1+1)),(by rfl),H',⟨by have:=HK1.out;omega⟩,⟨by exact Kd.R_mono HO373.out (fun _ hk=>trivial)⟩,⟨by with_reducible exact HB.out⟩⟩
         ·rw [if_neg c14] at H
          exact absurd H (by simp)
        ·rw [if_neg c12] at H
         exact absurd H (by simp)
       ·rw [if_neg c11] at H
        exact absurd H (by simp)
      ·rw [if_neg c8] at H
       exact absurd H (by simp)
     ·rw [if_neg c7] at H
      exact absurd H (by simp)
    ·rw [if_neg c5] at H
     exact absurd H (by simp)
   ·rw [if_neg c4] at H
    have c4b0:decide (x4_1 < (l0.length:Int))=false:=decide_eq_false c4
    clear c4
    obtain rfl:=Option.some.inj H
    have hcv20:=own_string (P:=Tryz.prog) Tryz.underlying23 Tryz.underlying5 Tryz.underlying9 (Kd.own_of_R HO_3.out)
    go_wp2
    go_ret
    exact ⟨by rfl,by with_reducible exact HB.out⟩
end Go.Proofs.YtocpcnmnhckcpaaGreat.Prt
namespace Go.Proofs.YtocpcnmnhckcpaaGreat.Prt
open RowKit YtocpcnmnhckcpaaGreatW.PrintWords YtocpcnmnhckcpaaGreatW.PrintLast YtocpcnmnhckcpaaGreatW.PrintMore
attribute [local go_sem] max2_int min2_int max_two min_two max_three min_three max_four min_four
def q22_digit.l0:Nat→Int→Int→Option (Int)
 | 0,_,_=>none
 | k+1,x0,x3=>if x3 < 16 then (if 0≤x3 then (if (bt (⟨#[48,49,50,51,52,53,54,55,56,57,97,98,99,100,101,102]⟩:ByteArray) x3)=x0 then (some ((x3) % 256)) else (q22_digit.l0 k x0 (wrap64 (x3+1)))) else (none)) else (some 0)
def q22_digit.f (k:Nat) (a0:Int):Option (Int):=q22_digit.l0 k a0 0
set_option maxHeartbeats 8000000 in
set_option maxRecDepth 100000 in
theorem q22_digit.calls (k:Nat) (a0:Int) (r:Int) (w:World) (h:q22_digit.f k a0=some r) :
  Calls Tryz.prog 74 #[.int .u8 a0] w fun e w'=>e = .returned (.int .u8 r)∧Drawn0 w w':=by
 have H:(q22_digit.l0 k a0 0)=some r:=h
 clear h
 have H':=Ak H
 clear H
 go_enter Tryz.func74,Tryz.ntmps74
 go_wp2
 go_loopg [3] k (fun kq v3 w'=>∃ (x3_1:Int),v3 = .int .i64 x3_1∧Aside0 (q22_digit.l0 kq a0 x3_1=some r)∧Aside0 (kq≤k)∧Drawn0 w w')
 case atStart=>exact ⟨(0),(by rfl),H',⟨Nat.le_refl _⟩,by repeat (exact Drawn0.refl _)⟩
 case round=>
  clear H'
  obtain ⟨x3_1,rfl,HA,HK1,⟨m1,rfl⟩⟩:=hrel
  cases gk with
  | zero=>exact absurd HA.out (by simp [q22_digit.l0])
  | succ k1=>
   have H:=HA.out
   clear HA
   simp only [q22_digit.l0] at H
   by_cases c2:x3_1 < 16
   ·rw [if_pos c2] at H
    have c2b0:decide (x3_1 < 16)=true:=decide_eq_true c2
    clear c2
    by_cases c3:0≤x3_1
    ·rw [if_pos c3] at H
     have c3b0:decide (0≤x3_1)=true:=decide_eq_true c3
     clear c3
     by_cases c5:(bt (⟨#[48,49,50,51,52,53,54,55,56,57,97,98,99,100,101,102]⟩:ByteArray) x3_1)=a0
     ·rw [if_pos c5] at H
      have c5b0:((bt (⟨#[48,49,50,51,52,53,54,55,56,57,97,98,99,100,101,102]⟩:ByteArray) x3_1) == a0)=true:=beq_iff_eq.mpr c5
      have c5b1:((bt (⟨#[48,49,50,51,52,53,54,55,56,57,97,98,99,100,101,102]⟩:ByteArray) x3_1) != a0)=false:=bne_eq_false_iff_eq.mpr c5
      clear c5
      obtain rfl:=Option.some.inj H
      have p4:0≤(x3_1:Int):=of_decide_eq_true (by (with_reducible assumption))
      have q4:x3_1 < (16:Int):=of_decide_eq_true (by (with_reducible assumption))
      have hx4:=bt_at (⟨#[48,49,50,51,52,53,54,55,56,57,97,98,99,100,101,102]⟩:ByteArray) x3_1
      replace p4:=eq_true p4
      replace q4:=eq_true q4
      go_wp2
      go_ret
      exact ⟨by rfl,by repeat (first | exact Drawn0.refl _ | apply Drawn0.step)⟩
     ·rw [if_neg c5] at H
      have c5b0:((bt (⟨#[48,49,50,51,52,53,54,55,56,57,97,98,99,100,101,102]⟩:ByteArray) x3_1) == a0)=false:=beq_eq_false_iff_ne.mpr c5
      have c5b1:((bt (⟨#[48,49,50,51,52,53,54,55,56,57,97,98,99,100,101,102]⟩:ByteArray) x3_1) != a0)=true:=bne_iff_ne.mpr c5
      have H':=Ak H
      clear H
      have p4:0≤(x3_1:Int):=of_decide_eq_true (by (with_reducible assumption))
      have q4:x3_1 < (16:Int):=of_decide_eq_true (by (with_reducible assumption))
      have hx4:=bt_at (⟨#[48,49,50,51,52,53,54,55,56,57,97,98,99,100,101,102]⟩:ByteArray) x3_1
      replace p4:=eq_true p4
      replace q4:=eq_true q4
      go_wp2
      go_roundg k1
      case measure=>have:=HK1.out;omega
      case rel=>exact ⟨(wrap64 (x3_1+1)),(by rfl),H',⟨by have:=HK1.out;omega⟩,by repeat (first | exact Drawn0.refl _ | apply Drawn0.step)⟩
    ·rw [if_neg c3] at H
     exact absurd H (by simp)
   ·rw [if_neg c2] at H
    have c2b0:decide (x3_1 < 16)=false:=decide_eq_false c2
    clear c2
    obtain rfl:=Option.some.inj H
    go_wp2
    go_ret
    exact ⟨by rfl,by repeat (first | exact Drawn0.refl _ | apply Drawn0.step)⟩
end Go.Proofs.YtocpcnmnhckcpaaGreat.Prt
namespace Go.Proofs.YtocpcnmnhckcpaaGreat.Prt
open RowKit YtocpcnmnhckcpaaGreatW.PrintWords YtocpcnmnhckcpaaGreatW.PrintLast YtocpcnmnhckcpaaGreatW.PrintMore YtocpcnmnhckcpaaGreat.Num YtocpcnmnhckcpaaGreat.Nam
theorem bt_digit:∀ k:Fin 16,bt (⟨#[48,49,50,51,52,53,54,55,56,57,97,98,99,100,101,102]⟩:ByteArray) (k.val:Int)=dig (k.val:Int):=by decide +kernel
theorem bt_dig {d:Int} (h0:0≤d) (h1:d < 16):bt (⟨#[48,49,50,51,52,53,54,55,56,57,97,98,99,100,101,102]⟩:ByteArray) d=dig d:=by
 obtain ⟨k,rfl⟩:=Int.eq_ofNat_of_zero_le h0
 exact bt_digit ⟨k,by omega⟩
theorem rd_get {l:List Int} {i:Nat} (h:i < l.length):rd l (i:Int)=l[i]:=by
 unfold rd
 rw [Int.toNat_natCast,List.getD_eq_getElem?_getD,List.getElem?_eq_getElem h];rfl
theorem digits_go (l:List Int) (hb:isBytes l) (hl:l.length≤1000000000) (j:Nat):∀ (n i:Nat),i+n=l.length→q22_digits.l0 (n+1+j) l (hexL (l.take i)) (i:Int)=some (strOfNums (hexL l))
 | 0,i,h=>by
  have e:0+1+j=j+1:=by omega
  rw [e,q22_digits.l0,if_neg (by omega),List.take_of_length_le (by omega)]
 | n+1,i,h=>by
  have hi:i < l.length:=by omega
  have hc:=hb l[i] (List.getElem_mem hi)
  have hr:=rd_get hi
  have e:n+1+1+j=(n+1+j)+1:=by omega
  obtain ⟨c,hcc⟩:∃ c,c=l[i]:=⟨_,rfl⟩
  rw [←hcc] at hc hr
  have q1:(i:Int) < (l.length:Int):=by omega
  have q2:(0:Int)≤(i:Int):=by omega
  have q3:0≤c / 16:=by omega
  have q4:c / 16 < 16:=by omega
  have q5:0≤c % 16:=by omega
  have q6:c % 16 < 16:=by omega
  have q8:c / 16 % 256=c / 16:=by omega
  have hlen:(hexL (l.take i)).length≤2000000000:=by rw [hexL_len,List.length_take];omega
  have e4:wrap64 ((i:Int)+1)=((i+1:Nat):Int):=(i64_w _).symm.trans (wrap_small (n:=(i:Int)+1) (by omega) (by omega))
  have q7:(hexL (l.take i)).length+[dig (c / 16),dig (c % 16)].length < 140737488355328:=by simp only [List.length_cons,List.length_nil];omega
  have ih:=digits_go l hb hl j n (i+1) (by omega)
  have e1:(Int.tdiv c 16) % 256=c / 16:=(congrArg (· % 256) (Int.tdiv_eq_ediv_of_nonneg hc.1)).trans q8
  have e2:Int.tmod c 16=c % 16:=by rw [Int.tmod_eq_emod_of_nonneg hc.1]
  have e3:hexL (l.take (i+1))=hexL (l.take i)++[dig (c / 16),dig (c % 16)]:=by
   rw [List.take_succ_eq_append_getElem hi,hexL_append,←hcc];rfl
  rw [e,q22_digits.l0,if_pos q1,if_pos q2,hr,e1,e2,if_pos q3,if_pos q4,if_pos q5,if_pos q6,bt_dig q3 q4,bt_dig q5 q6,Option.bind_some,if_pos q7,←e3,e4]
  exact ih
theorem digits_f (l:List Int) (hb:isBytes l) (hl:l.length≤1000000000):q22_digits.f (l.length+1) l=some (strOfNums (hexL l)):=by
 unfold q22_digits.f
 exact digits_go l hb hl 0 l.length 0 (by omega)
theorem digits_calls22 (A:Option Addr) (c:Nat) (l:List Int) (w:World) (hC:Kd.C (Kd.int .u8) w A l.length l) (hc:l.length≤c) (hb:isBytes l) (hl:l.length≤1000000000) :
  Calls Tryz.prog 43 #[.slice A l.length c] w fun e w'=>e = .returned (.string (strOfNums (hexL l)))∧Below w.heap.size w w':=
 q22_digits.calls _ A c l _ w hC hc (digits_f l hb hl)
theorem digit_f:∀ k:Fin 256,q22_digit.f 17 (k.val:Int)=some (if undig (k.val:Int) < 0 then 0 else undig (k.val:Int)):=by decide +kernel
theorem digit_calls22 (c:Int) (h0:0≤c) (h1:c < 256) (w:World):Calls Tryz.prog 74 #[.int .u8 c] w fun e w'=>e = .returned (.int .u8 (if undig c < 0 then 0 else undig c))∧Below w.heap.size w w':=by
 obtain ⟨k,rfl⟩:=Int.eq_ofNat_of_zero_le h0
 exact (q22_digit.calls 17 _ _ w (digit_f ⟨k,by omega⟩)).mono (fun e w' h=>⟨h.1,h.2.below⟩)
theorem sz_nil {s:ByteArray}:s.toList=([]:List UInt8)↔s.size=0:=by
 rw [ByteArray.toList_eq]
 constructor
 ·intro h
  have:=congrArg List.length h
  rw [Array.length_toList] at this
  exact this
 ·intro h
  exact List.eq_nil_of_length_eq_zero (by rw [Array.length_toList];exact h)
theorem refPut_f (t:S34) (hf:FitS t):q22_Put.f 2 t.f0 t.f1 t.f2 t.f3 t.f4 t.f5.f0 t.f5.f1 t.f5.f2 t.f5.f3 t.f6.f0=some (putS t):=by
 have h0:=hf.k0
 have h1:=hf.k1
 have h2:=hf.k2
 have h3:=hf.k3
 have h4:=hf.k4
 have h5:=hf.k5
 have hv:=hf.hv
 have hq:=hf.hq
 have l0:=enc_len h0
 have l1:=enc_len h1
 have l2:=enc_len h2
 have l3:=enc_len h3
 have l4:=encT_len t.f4 (by omega)
 obtain ⟨a,b,c,d,s,⟨x,y,g,f⟩,⟨q⟩⟩:=t
 simp only at *
 have m0:q01_Put.f [] a=some ([]++enc a):=if_pos ⟨by simp,h0.1,h0.2⟩
 have m1:q01_Put.f ([]++enc a) b=some ([]++enc a++enc b):=if_pos ⟨by simp only [List.nil_append];omega,h1.1,h1.2⟩
 have m2:q01_Put.f ([]++enc a++enc b) c=some ([]++enc a++enc b++enc c):=if_pos ⟨by simp only [List.nil_append,List.length_append];omega,h2.1,h2.2⟩
 have m3:q01_Put.f ([]++enc a++enc b++enc c) d=some ([]++enc a++enc b++enc c++enc d):=if_pos ⟨by simp only [List.nil_append,List.length_append];omega,h3.1,h3.2⟩
 have m4:q01_PutText.f ([]++enc a++enc b++enc c++enc d) s=some ([]++enc a++enc b++enc c++enc d++encT (bytesOf s)):=if_pos (by simp only [List.nil_append,List.length_append];omega)
 obtain ⟨K,hK⟩:∃ K,K=encK ⟨a,b,c,d,s,⟨x,y,g,f⟩,⟨q⟩⟩:=⟨_,rfl⟩
 have hKe:[]++enc a++enc b++enc c++enc d++encT (bytesOf s)=K:=by
  rw [hK];unfold encK;simp only [List.nil_append,List.append_assoc]
 have hKl:K.length≤2000000000:=by rw [←hKe];simp only [List.nil_append,List.length_append];omega
 rw [hKe] at m4
 unfold q22_Put.f
 rw [m0,Option.bind_some,m1,Option.bind_some,m2,Option.bind_some,m3,Option.bind_some,m4,Option.bind_some]
 have hj1:∀ X:List Int,X.length≤3000000000→∀ a' b' c' d' s' x' y' g' f',q22_Put.j1 1 X a' b' c' d' s' x' y' g' f' q=some (if mayW q≠0 then ([],mayW q) else (X++encW q,0)):=by
  intro X hX a' b' c' d' s' x' y' g' f'
  rw [q22_Put.j1]
  by_cases hq0:q.length=0
  ·have p0:q01_Put.f X 0=some (X++enc 0):=if_pos ⟨by omega,by decide,by decide⟩
   rw [if_pos (by omega),p0,Option.bind_some]
   have e1:mayW q=0:=if_pos hq0
   have e2:encW q=enc 0:=if_pos hq0
   rw [if_neg (fun h=>h e1),e2]
  ·have p0:q01_Put.f X 1=some (X++enc 1):=if_pos ⟨by omega,by decide,by decide⟩
   have e1:mayW q=mayQ q:=if_neg hq0
   have e2:encW q=enc 1++encQ q:=if_neg hq0
   have l1:=enc_len (x:=1) ⟨by decide,by decide⟩
   have p1:q07_PutG.f (X++enc 1) q=some (if mayQ q=0 then (X++enc 1++encQ q,0) else ([],mayQ q)):=if_pos ⟨hq,by rw [List.length_append];omega⟩
   rw [if_neg (by omega),p0,Option.bind_some,p1,Option.bind_some,e1,e2]
   by_cases hm:mayQ q=0
   ·rw [if_pos hm,if_neg (fun h=>h hm),List.append_assoc]
   ·rw [if_neg hm,if_pos hm]
 have hj0:∀ bb:Bool,(bb=noV ⟨x,y,g,f⟩)→q22_Put.j0 2 K bb a b c d s x y g f q x y g f=some (putS ⟨a,b,c,d,s,⟨x,y,g,f⟩,⟨q⟩⟩):=by
  intro bb hbb
  have hput:putS ⟨a,b,c,d,s,⟨x,y,g,f⟩,⟨q⟩⟩=if mayV ⟨x,y,g,f⟩≠0 then ([],mayV ⟨x,y,g,f⟩) else if mayW q≠0 then ([],mayW q) else (K++encV ⟨x,y,g,f⟩++encW q,0):=by
   unfold putS encS
   rw [hK,List.append_assoc]
  rw [q22_Put.j0,hput]
  by_cases hn:noV ⟨x,y,g,f⟩=true
  ·have p0:q01_Put.f K 0=some (K++enc 0):=if_pos ⟨by omega,by decide,by decide⟩
   have e1:mayV ⟨x,y,g,f⟩=0:=if_pos hn
   have e2:encV ⟨x,y,g,f⟩=enc 0:=if_pos hn
   have l1:=enc_len (x:=0) ⟨by decide,by decide⟩
   rw [if_pos (hbb.trans hn),p0,Option.bind_some,hj1 _ (by rw [List.length_append];omega),e1,e2]
   rfl
  ·have p0:q01_Put.f K 1=some (K++enc 1):=if_pos ⟨by omega,by decide,by decide⟩
   have e1:mayV ⟨x,y,g,f⟩=mayE x y g f:=if_neg hn
   have e2:encV ⟨x,y,g,f⟩=enc 1++encEv x y g f:=if_neg hn
   have l1:=enc_len (x:=1) ⟨by decide,by decide⟩
   have p1:q05_PutG.f (K++enc 1) x y g f=some (if mayE x y g f=0 then (K++enc 1++encEv x y g f,0) else ([],mayE x y g f)):=if_pos ⟨by rw [List.length_append];omega,by omega,hv⟩
   rw [if_neg (fun h=>hn (hbb.symm.trans h)),p0,Option.bind_some,p1,Option.bind_some,e1,e2]
   by_cases hm:mayE x y g f=0
   ·have hsz:(encEv x y g f).length≤1000:=encEv_size (mayV_ok (e:=⟨x,y,g,f⟩) (by rw [e1];exact hm) hn)
    rw [if_pos hm,if_pos (show (K++enc 1++encEv x y g f,(0:Int)).2=0 from rfl),if_neg (fun h=>h hm),hj1 _ (by rw [List.length_append,List.length_append];omega)]
    simp only [List.append_assoc]
   ·rw [if_neg hm,if_pos hm,if_neg hm]
 by_cases hx:x.size=0
 ·rw [if_pos (sz_nil.2 hx)]
  by_cases hy:y.size=0
  ·rw [if_pos (sz_nil.2 hy)]
   by_cases hg:g.length=0
   ·rw [if_pos (by omega)]
    refine hj0 _ ?_
    unfold noV
    simp only [hx,hy,hg,decide_true,Bool.true_and,Nat.zero_add]
    by_cases hff:f.length=0
    ·rw [hff];rfl
    ·rw [decide_eq_false hff]
     exact beq_eq_false_iff_ne.mpr (by omega)
   ·rw [if_neg (by omega)]
    refine hj0 _ ?_
    unfold noV
    simp only [hx,hy,decide_true,Bool.true_and]
    exact (decide_eq_false (by omega)).symm
  ·rw [if_neg (fun h=>hy (sz_nil.1 h))]
   refine hj0 _ ?_
   unfold noV
   simp only [hy,decide_false,Bool.false_and,Bool.and_false]
 ·rw [if_neg (fun h=>hx (sz_nil.1 h))]
  refine hj0 _ ?_
  unfold noV
  simp only [hx,decide_false,Bool.false_and]
theorem refPut_calls22 (t:S34) (A7:Option Addr) (c7:Nat) (A8:Option Addr) (c8:Nat) (A9:Option Addr) (c9:Nat) (w:World) (h:StC w t A7 c7 A8 c8 A9 c9) (hf:FitS t) (p:List Int) (pe:Int) (hp:putS t=(p,pe)) :
  Calls Tryz.prog 11 #[.agg #[.int .i64 t.f0,.int .i64 t.f1,.int .i64 t.f2,.int .i64 t.f3,.string t.f4,.string t.f5.f0,.string t.f5.f1,.slice A7 t.f5.f2.length c7,.slice A8 t.f5.f3.length c8,.slice A9 t.f6.f0.length c9]] w fun e w'=>∃ A' c',e = .returned (.tuple #[.slice A' p.length c',.int .i64 pe])∧p.length≤c'∧Kd.C (Kd.int .u8) w' A' p.length p∧Below w.heap.size w w':=
 (q22_Put.calls 2 _ _ _ _ _ _ _ A7 c7 t.f5.f2 A8 c8 t.f5.f3 A9 c9 t.f6.f0 p pe w h.h7 h.l7 h.h8 h.l8 h.h9 h.l9 ((refPut_f t hf).trans (congrArg some hp))).mono (by
  rintro e w' ⟨v,rfl,hN,hb⟩
  obtain ⟨A',c',rfl,h1,h2⟩:=Kd.R_reads hN
  exact ⟨A',c',rfl,h1,h2,hb⟩)
end Go.Proofs.YtocpcnmnhckcpaaGreat.Prt
namespace Go.Proofs.YtocpcnmnhckcpaaGreat.Num
open RowKit YtocpcnmnhckcpaaGreatW.PrintWords YtocpcnmnhckcpaaGreatW.PrintLast YtocpcnmnhckcpaaGreatW.PrintMore YtocpcnmnhckcpaaGreat.Prt YtocpcnmnhckcpaaGreat.Nam
structure Tr (w0 w:World) (P:Nat→Prop) (g E:Nat) (l:List Int) (bad:Bool) (s t:ByteArray) (v2:Value) (tags:List ByteArray) (v3:Value) (fl:List S90):Prop where
 rd:Rd 60 P w g l bad
 hE:w.heap[E]? = some (.cells #[.string s,.string t,v2,v3] 29 (0,0))
 r2:Kd.string.R 9 w w0.heap.size (fun _=>True) v2 tags
 r3:k90.R 90 w w0.heap.size (fun _=>True) v3 fl
 keep:KeepBut w0 w g none
 below:Below g w0 w
 gN:g < w0.heap.size
 NE:w0.heap.size≤E
 PN:∀ k,P k→k < w0.heap.size
 by_:isBytes l
section
variable {w0 w w1 : World} {P : Nat → Prop} {g E : Nat} {l l' : List Int} {bad bad' : Bool} {s t : ByteArray} {v2 v3 : Value} {tags : List ByteArray} {fl : List S90}
theorem Tr.read (h:Tr w0 w P g E l bad s t v2 tags v3 fl) (hr:Rd 60 P w1 g l' bad') (hb:Below g w w1) (hk:KeepBut w w1 g none) (hy:isBytes l'):Tr w0 w1 P g E l' bad' s t v2 tags v3 fl:=
 ⟨hr,hk.blk h.hE (by have:=h.gN;have:=h.NE;omega) (by simp),R_off' h.r2 h.gN hk,R_off' h.r3 h.gN hk,h.keep.trans hk (.inl rfl),h.below.trans hb,h.gN,h.NE,h.PN,hy⟩
theorem Tr.up (h:Tr w0 w P g E l bad s t v2 tags v3 fl) (hb:Below w.heap.size w w1):Tr w0 w1 P g E l bad s t v2 tags v3 fl:=
 ⟨h.rd.below hb,blk_below h.hE hb,Kd.R_below h.r2 hb,Kd.R_below h.r3 hb,h.keep.trans (KeepBut.of_below hb g none) (.inl rfl),h.below.trans (hb.mono (Nat.le_of_lt h.rd.lt)),h.gN,h.NE,h.PN,h.by_⟩
theorem Tr.alloc (h:Tr w0 w P g E l bad s t v2 tags v3 fl) (o:Obj):Tr w0 (w.alloc o) P g E l bad s t v2 tags v3 fl:=h.up (below_alloc (Below.refl _ _) o)
theorem Tr.drew (h:Tr w0 w P g E l bad s t v2 tags v3 fl):Tr w0 w.drew P g E l bad s t v2 tags v3 fl:=h.up (below_drew (Below.refl _ _))
theorem Tr.notP (h:Tr w0 w P g E l bad s t v2 tags v3 fl):¬P E:=fun hp=>by have:=h.PN E hp;have:=h.NE;omega
theorem Tr.set1 (h:Tr w0 w P g E l bad s t v2 tags v3 fl) (t':ByteArray):Tr w0 (w.setCell ⟨E,1,none⟩ (.string t')) P g E l bad s t' v2 tags v3 fl:=
 ⟨h.rd.kept ((KeepBut.refl w E none).set_ 1 _) (by have:=h.gN;have:=h.NE;omega) h.notP,by simpa using blk_set h.hE 1 (.string t'),R_set h.r2 h.hE (by decide) 1 _,R_set h.r3 h.hE (by decide) 1 _,keep_far h.keep h.NE _,h.below.setCell (p:=⟨E,1,none⟩) (Nat.le_trans (Nat.le_of_lt h.gN) h.NE) _,h.gN,h.NE,h.PN,h.by_⟩
theorem Tr.side (h:Tr w0 w P g E l bad s t v2 tags v3 fl) {B:Nat} (hB:w0.heap.size≤B) (h1:B≠E) (h3:some B≠v2.ownBlock) (h4:some B≠v3.ownBlock) (i:Nat) (u:Value):Tr w0 (w.setCell ⟨B,i,none⟩ u) P g E l bad s t v2 tags v3 fl:=
 ⟨h.rd.kept ((KeepBut.refl w B none).set_ i _) (by have:=h.gN;omega) (fun hp=>by have:=h.PN B hp;omega),blk_far h.hE (Ne.symm h1) _,Kd.R_mono (Kd.R_far (p:=⟨B,i,none⟩) (Kd.R_far1 h.r2 rfl h3) (fun k hk=>hk.2) u) (fun _ _=>trivial),Kd.R_mono (Kd.R_far (p:=⟨B,i,none⟩) (Kd.R_far1 h.r3 rfl h4) (fun k hk=>hk.2) u) (fun _ _=>trivial),
  keep_far h.keep hB _,h.below.setCell (p:=⟨B,i,none⟩) (Nat.le_trans (Nat.le_of_lt h.gN) hB) _,h.gN,h.NE,h.PN,h.by_⟩
theorem Tr.push2 (h:Tr w0 w P g E l bad s t v2 tags v3 fl) {v:Value} {x:ByteArray} (hr:Kd.string.R 9 w1 w0.heap.size (fun _=>True) v (tags++[x])) (hb:Below w0.heap.size w w1) (hg:w.grownBy w1 v2.ownBlock) :
  Tr w0 (w1.setCell ⟨E,2,none⟩ v) P g E l bad s t v (tags++[x]) v3 fl:=by
 have base:=Kd.R_base h.r2
 have hE1:w1.heap[E]? = some (.cells #[.string s,.string t,v2,v3] 29 (0,0)):=blk_grown h.hE hg (Kd.R_ne h.r2 h.hE (by decide))
 have r31:k90.R 90 w1 w0.heap.size (fun _=>True) v3 fl:=Kd.R_mono (Kd.R_grown (Kd.R_apart' h.r3 (Kd.R_typed h.r2) (by decide)) hg (fun k hk=>hk.2)) (fun _ _=>trivial)
 have rd1:=h.rd.grown hg (ne_base base h.gN) (fun k hk=>ne_base base (h.PN k hk))
 exact ⟨rd1.kept ((KeepBut.refl w1 E none).set_ 2 _) (by have:=h.gN;have:=h.NE;omega) h.notP,by simpa using blk_set hE1 2 v,R_set hr hE1 (by decide) 2 _,R_set r31 hE1 (by decide) 2 _,
  keep_far (keep_grown h.keep hg base) h.NE _,(h.below.trans (hb.mono (Nat.le_of_lt h.gN))).setCell (p:=⟨E,2,none⟩) (Nat.le_trans (Nat.le_of_lt h.gN) h.NE) _,h.gN,h.NE,h.PN,h.by_⟩
theorem Tr.push3 (h:Tr w0 w P g E l bad s t v2 tags v3 fl) {v:Value} {x:S90} (hr:k90.R 90 w1 w0.heap.size (fun _=>True) v (fl++[x])) (hb:Below w0.heap.size w w1) (hg:w.grownBy w1 v3.ownBlock) :
  Tr w0 (w1.setCell ⟨E,3,none⟩ v) P g E l bad s t v2 tags v (fl++[x]):=by
 have base:=Kd.R_base h.r3
 have hE1:w1.heap[E]? = some (.cells #[.string s,.string t,v2,v3] 29 (0,0)):=blk_grown h.hE hg (Kd.R_ne h.r3 h.hE (by decide))
 have r21:Kd.string.R 9 w1 w0.heap.size (fun _=>True) v2 tags:=Kd.R_mono (Kd.R_grown (Kd.R_apart' h.r2 (Kd.R_typed h.r3) (by decide)) hg (fun k hk=>hk.2)) (fun _ _=>trivial)
 have rd1:=h.rd.grown hg (ne_base base h.gN) (fun k hk=>ne_base base (h.PN k hk))
 exact ⟨rd1.kept ((KeepBut.refl w1 E none).set_ 3 _) (by have:=h.gN;have:=h.NE;omega) h.notP,by simpa using blk_set hE1 3 v,R_set r21 hE1 (by decide) 3 _,R_set hr hE1 (by decide) 3 _,
  keep_far (keep_grown h.keep hg base) h.NE _,(h.below.trans (hb.mono (Nat.le_of_lt h.gN))).setCell (p:=⟨E,3,none⟩) (Nat.le_trans (Nat.le_of_lt h.gN) h.NE) _,h.gN,h.NE,h.PN,h.by_⟩
end
def OutR (w w':World) (P:Nat→Prop) (g:Nat) (l:List Int) (b:Bool):Prop:=Rd 60 P w' g l b∧Below g w w'∧KeepBut w w' g none
theorem OutR.of_Tr {w w0 w':World} {P:Nat→Prop} {g E:Nat} {l:List Int} {bad:Bool} {s t:ByteArray} {v2 v3:Value} {tags:List ByteArray} {fl:List S90} (h:Tr w0 w' P g E l bad s t v2 tags v3 fl) (hB:Below w.heap.size w w0) (hg:g < w.heap.size):OutR w w' P g l bad:=
 ⟨h.rd,(hB.mono (Nat.le_of_lt hg)).trans h.below,(KeepBut.of_below hB g none).trans h.keep (.inl rfl)⟩
theorem OutR.set {w w':World} {P:Nat→Prop} {g:Nat} {l:List Int} {bad:Bool} (h:OutR w w' P g l bad) (hg:g < w.heap.size) (hP:∀ k,P k→k < w.heap.size) {Q:Nat} (hQ:w.heap.size≤Q) (i:Nat) (u:Value):OutR w (w'.setCell ⟨Q,i,none⟩ u) P g l bad:=
 ⟨h.1.kept ((KeepBut.refl w' Q none).set_ i _) (by omega) (fun hp=>by have:=hP Q hp;omega),h.2.1.setCell (p:=⟨Q,i,none⟩) (by show g≤Q;omega) _,keep_far h.2.2 hQ _⟩
end Go.Proofs.YtocpcnmnhckcpaaGreat.Num
namespace Go.Proofs.YtocpcnmnhckcpaaGreat.Num
open RowKit YtocpcnmnhckcpaaGreatW.PrintWords YtocpcnmnhckcpaaGreatW.PrintLast YtocpcnmnhckcpaaGreatW.PrintMore YtocpcnmnhckcpaaGreat.Prt YtocpcnmnhckcpaaGreat.Nam
theorem badT_true (l:List Int):badT l true=true:=by unfold badT;simp
theorem badOf_true (l:List Int):badOf l true=true:=by unfold badOf;simp
theorem takeTs_bad {l:List Int} {b:Bool} {i:Nat} (h:(takeTs i l b).2.2=true):∀ k,(takeTs (i+k) l b).2.2=true
 | 0=>h
 | k+1=>by
  show badT (takeTs (i+k) l b).2.1 (takeTs (i+k) l b).2.2=true
  rw [takeTs_bad h k,badT_true]
theorem takeFs_bad {l:List Int} {b:Bool} {i:Nat} (h:(takeFs i l b).2.2=true):∀ k,(takeFs (i+k) l b).2.2=true
 | 0=>h
 | k+1=>by
  show badOf (aftT (takeFs (i+k) l b).2.1) (badT (takeFs (i+k) l b).2.1 (takeFs (i+k) l b).2.2)=true
  rw [takeFs_bad h k,badT_true,badOf_true]
def noE (l:List Int):Prop:=∃ l2 b2,takeE l false=(z29,2,l2,b2)
section
variable {l l4 l6 : List Int} {b4 b6 : Bool} {tags : List ByteArray} {fl : List S90} {j j2 : Nat}
theorem noE_tags (hn:¬(numOf (aftT (aftT l)) < 0∨6 < numOf (aftT (aftT l)))) (h:(takeTs (numOf (aftT (aftT l))).toNat (aft (aftT (aftT l))) (badOf (aftT (aftT l)) (badT (aftT l) (badT l false)))).2.2=true):noE l:=by
 obtain ⟨⟨a,l4,b4⟩,hq⟩:∃ q,takeTs (numOf (aftT (aftT l))).toNat (aft (aftT (aftT l))) (badOf (aftT (aftT l)) (badT (aftT l) (badT l false)))=q:=⟨_,rfl⟩
 rw [hq] at h
 simp only at h
 subst h
 by_cases hm:numOf l4 < 0∨4 < numOf l4
 ·exact ⟨_,_,takeE_m hn hq hm⟩
 ·have hb:=takeFs_bad (l:=aft l4) (b:=badOf l4 true) (i:=0) (badOf_true l4) (numOf l4).toNat
  rw [Nat.zero_add] at hb
  have hr:=takeE_r hn hq hm rfl
  simp only at hr
  rw [if_pos (.inl hb)] at hr
  exact ⟨_,_,hr⟩
theorem refTake_no (hn:¬(numOf (aftT (aftT l)) < 0∨6 < numOf (aftT (aftT l))))
  (hA:(∀ i,i < j→(takeTs i (aft (aftT (aftT l))) (badOf (aftT (aftT l)) (badT (aftT l) (badT l false)))).2.2=false∧(i:Int) < numOf (aftT (aftT l)))∧j≤7∧¬((j:Int) < numOf (aftT (aftT l))∧j≤6∧(takeTs j (aft (aftT (aftT l))) (badOf (aftT (aftT l)) (badT (aftT l) (badT l false)))).2.2=false))
  (hq:takeTs j (aft (aftT (aftT l))) (badOf (aftT (aftT l)) (badT (aftT l) (badT l false)))=(tags,l4,b4))
  (hA2:(∀ i,i < j2→(takeFs i (aft l4) (badOf l4 b4)).2.2=false∧(i:Int) < numOf l4)∧j2≤5∧¬((j2:Int) < numOf l4∧j2≤4∧(takeFs j2 (aft l4) (badOf l4 b4)).2.2=false))
  (hq2:takeFs j2 (aft l4) (badOf l4 b4)=(fl,l6,b6)) :
  (numOf l4 < 0∨b6=true∨mayE (textOf l) (textOf (aftT l)) tags fl≠0→noE l)∧(¬numOf l4 < 0→b6=false→mayE (textOf l) (textOf (aftT l)) tags fl=0→takeE l false=(⟨textOf l,textOf (aftT l),tags,fl⟩,0,l6,false)):=by
 obtain ⟨a1,a2,a3⟩:=hA
 obtain ⟨c1,c2,c3⟩:=hA2
 have hjn:(j:Int)≤numOf (aftT (aftT l)):=by
  rcases Nat.eq_zero_or_pos j with h | h
  ·omega
  ·have:=(a1 (j - 1) (by omega)).2;omega
 rw [hq] at a3
 rw [hq2] at c3
 simp only at a3 c3
 cases b4 with
 | true=>
  have hb:(takeTs (numOf (aftT (aftT l))).toNat (aft (aftT (aftT l))) (badOf (aftT (aftT l)) (badT (aftT l) (badT l false)))).2.2=true:=by
   have h:=takeTs_bad (i:=j) (l:=aft (aftT (aftT l))) (b:=badOf (aftT (aftT l)) (badT (aftT l) (badT l false))) (by rw [hq]) ((numOf (aftT (aftT l))).toNat - j)
   rwa [show j+((numOf (aftT (aftT l))).toNat - j)=(numOf (aftT (aftT l))).toNat by omega] at h
  refine ⟨fun _=>noE_tags hn hb,fun _ h6 _=>?_⟩
  have h:=takeFs_bad (l:=aft l4) (b:=badOf l4 true) (i:=0) (badOf_true l4) j2
  rw [Nat.zero_add,hq2] at h
  simp only at h
  rw [h] at h6;cases h6
 | false=>
  have hj:(numOf (aftT (aftT l))).toNat=j:=by
   rcases Nat.lt_or_ge j (numOf (aftT (aftT l))).toNat with h | h
   ·exact absurd ⟨by omega,by omega,rfl⟩ a3
   ·omega
  have hq':=hq
  rw [←hj] at hq'
  have hj2:fl.length=j2:=by have:=takeFs_len (aft l4) (badOf l4 false) j2;rw [hq2] at this;exact this
  by_cases hm:numOf l4 < 0∨4 < numOf l4
  ·refine ⟨fun _=>⟨_,_,takeE_m hn hq' hm⟩,fun h0 h6 h7=>?_⟩
   exfalso
   have:=((okE_iff _ _ _ _).1 h7).hf4
   rcases hm with hm | hm
   ·exact h0 hm
   ·exact c3 ⟨by omega,by omega,h6⟩
  ·have hm0:0≤numOf l4:=by omega
   have hjm:(j2:Int)≤numOf l4:=by
    rcases Nat.eq_zero_or_pos j2 with h | h
    ·omega
    ·have:=(c1 (j2 - 1) (by omega)).2;omega
   cases b6 with
   | true=>
    have hb:(takeFs (numOf l4).toNat (aft l4) (badOf l4 false)).2.2=true:=by
     have h:=takeFs_bad (i:=j2) (l:=aft l4) (b:=badOf l4 false) (by rw [hq2]) ((numOf l4).toNat - j2)
     rwa [show j2+((numOf l4).toNat - j2)=(numOf l4).toNat by omega] at h
    refine ⟨fun _=>?_,fun _ h6 _=>by cases h6⟩
    have hr:=takeE_r hn hq' hm rfl
    simp only at hr
    rw [if_pos (.inl hb)] at hr
    exact ⟨_,_,hr⟩
   | false=>
    have hj3:(numOf l4).toNat=j2:=by
     rcases Nat.lt_or_ge j2 (numOf l4).toNat with h | h
     ·exact absurd ⟨by omega,by omega,rfl⟩ c3
     ·omega
    have hq3:takeFs (numOf l4).toNat (aft l4) (badOf l4 false)=(fl,l6,false):=by rw [hj3];exact hq2
    have hr:=takeE_r hn hq' hm hq3
    simp only at hr
    refine ⟨fun h=>?_,fun _ _ h7=>?_⟩
    ·rw [if_pos (by rcases h with h | h | h;(· exact absurd h (by omega));(· cases h);exact .inr h)] at hr
     exact ⟨_,_,hr⟩
    ·rw [if_neg (by rintro (h | h);(· cases h);exact h h7)] at hr
     exact hr
end
end Go.Proofs.YtocpcnmnhckcpaaGreat.Num
namespace Go.Proofs.YtocpcnmnhckcpaaGreat.Num
open RowKit YtocpcnmnhckcpaaGreatW.PrintWords YtocpcnmnhckcpaaGreatW.PrintLast YtocpcnmnhckcpaaGreatW.PrintMore YtocpcnmnhckcpaaGreat.Prt YtocpcnmnhckcpaaGreat.Nam
theorem ref_start (w0 w1 w2:World) (P:Nat→Prop) (g E:Nat) (l:List Int) (bad:Bool) (s:ByteArray) (hI:Rd 60 P w1 g l bad) (hb:Below g w0 w1) (hk:KeepBut w0 w1 g none) (gN:g < w0.heap.size) (PN:∀ k,P k→k < w0.heap.size) (hy:isBytes l)
  (hE:E=w1.heap.size) (h2:w2.heap[E]? = some (.cells #[.string ⟨#[]⟩,.string ⟨#[]⟩,.slice none 0 0,.slice none 0 0] 29 (0,0))) (hb2:Below w1.heap.size w1 w2) :
  Tr w0 ((((w2.setCell ⟨E,0,none⟩ (.string s)).setCell ⟨E,1,none⟩ (.string ⟨#[]⟩)).setCell ⟨E,2,none⟩ (.slice none 0 0)).setCell ⟨E,3,none⟩ (.slice none 0 0)) P g E l bad s ⟨#[]⟩ (.slice none 0 0) [] (.slice none 0 0) []:=by
 have hge:w0.heap.size≤E:=by rw [hE];exact hk.1
 have hgE:g≠E:=by omega
 have hPE:¬P E:=fun hp=>by have:=PN E hp;omega
 have hlt:=hI.lt
 have k2:∀ (w:World) (i:Nat) (v:Value),KeepBut w (w.setCell ⟨E,i,none⟩ v) E none:=fun w i v=>(KeepBut.refl w E none).set_ i v
 refine ⟨((((hI.below hb2).kept (k2 _ 0 _) hgE hPE).kept (k2 _ 1 _) hgE hPE).kept (k2 _ 2 _) hgE hPE).kept (k2 _ 3 _) hgE hPE,?_,Kd.R_nil _ _ _ _ _,Kd.R_nil _ _ _ _ _,?_,?_,gN,hge,PN,hy⟩
 ·simpa using blk_set (blk_set (blk_set (blk_set h2 0 (.string s)) 1 (.string ⟨#[]⟩)) 2 (.slice none 0 0)) 3 (.slice none 0 0)
 ·exact keep_far (keep_far (keep_far (keep_far (hk.trans (KeepBut.of_below hb2 g none) (.inl rfl)) hge _) hge _) hge _) hge _
 ·have h0:Below g w0 w2:=hb.trans (hb2.mono (by omega))
  have q:g≤E:=by omega
  exact (((h0.setCell (p:=⟨E,0,none⟩) q _).setCell (p:=⟨E,1,none⟩) q _).setCell (p:=⟨E,2,none⟩) q _).setCell (p:=⟨E,3,none⟩) q _
theorem Rd.isBad {T:Nat} {P:Nat→Prop} {W:World} {g:Nat} {l:List Int} {bad:Bool} (h:Rd T P W g l bad):W.cell? ⟨g,1,none⟩=some (.bool bad):=by
 obtain ⟨A,c,h1,_⟩:=h
 exact (blk_cell h1 1).trans rfl
theorem takeTs_succ {l3:List Int} {b3:Bool} {i:Nat} {tags:List ByteArray} {li:List Int} {bi:Bool} (h:takeTs i l3 b3=(tags,li,bi)):takeTs (i+1) l3 b3=(tags++[textOf li],aftT li,badT li bi):=by simp only [takeTs,h]
theorem takeFs_succ {l3:List Int} {b3:Bool} {i:Nat} {fl:List S90} {li:List Int} {bi:Bool} (h:takeFs i l3 b3=(fl,li,bi)):takeFs (i+1) l3 b3=(fl++[⟨textOf li,numOf (aftT li)⟩],aft (aftT li),badOf (aftT li) (badT li bi)):=by simp only [takeFs,h]
def D25.T7:Bool × List (List Nat × List Nat):=(true,[([],[]),([0],[0]),([],[]),([2],[2]),([3],[3]),([1,4,3],[1,4]),([0,1,2,3,4,5],[]),([6,5,5,0,1,2,3,4,5],[5,6])])
def D25.B7:List Nat:=[0,1,0,4,12,31,63,127]
theorem D25.tab7:rtab .any (opsOf Tryz.f25 7)=D25.T7:=by kernel_rfl
theorem D25.bits7:waitsOk D25.T7.2 D25.B7=true:=by kernel_rfl
def RefPost (P:Nat→Prop) (w:World) (g:Nat) (x:S29) (c:Int) (l':List Int) (b':Bool) (e:Ending) (w':World):Prop:=
 ∃ v2 v3 l2 b2,e = .returned (.tuple #[.agg #[.string x.f0,.string x.f1,v2,v3],.int .i64 c])∧Kd.string.R 9 w' w.heap.size (fun _=>True) v2 x.f2∧k90.R 90 w' w.heap.size (fun _=>True) v3 x.f3 ∧
   Rd 60 P w' g l2 b2∧isBytes l2∧(c=0→l2=l'∧b2=b')∧Below g w w'∧KeepBut w w' g none
set_option maxRecDepth 100000 in
set_option maxHeartbeats 4000000 in
theorem refTake_walk (P:Nat→Prop) (w:World) (g:Nat) (l:List Int) (hI:Rd 60 P w g l false) (hb:isBytes l) (hP:∀ k,P k→k < w.heap.size) (x:S29) (c:Int) (l':List Int) (b':Bool) (hx:takeE l false=(x,c,l',b')) :
  Calls Tryz.prog 25 #[.pointer (some ⟨g,0,none⟩)] w fun e w'=>RefPost P w g x c l' b' e w':=by
 have HI:=Ak hI
 have HBY:=Ak hb
 have HP:=Ak hP
 have HSL:=Ak hI.len
 have HSZ:=Ak (Nat.le_trans (textOf_size l hb) hI.len)
 have HSY:=Ak (Nat.le_trans (textOf_size (aftT l) (aftT_bytes hb)) (Nat.le_trans (aftT_len l hb) hI.len))
 have HX:=Ak hx
 have HGW:=Ak hI.lt
 clear hI hb hP hx
 have hu29:=Tryz.underlying29
 have hu90:=Tryz.underlying90
 go_enter Tryz.func25,Tryz.ntmps25
 go_wp2_with fail
 obtain ⟨w0,hw0⟩:∃ w0,w0=w.alloc (.cells #[.string ⟨#[]⟩,.string ⟨#[]⟩,.slice none 0 0,.slice none 0 0] 29 (0,0)):=⟨_,rfl⟩
 have HZ:=Ak (show w0.heap.size=w.heap.size+1 by rw [hw0];simp only [World.size_alloc])
 have HQ:=Ak (show w0.heap[w.heap.size]? = some (.cells #[.string ⟨#[]⟩,.string ⟨#[]⟩,.slice none 0 0,.slice none 0 0] 29 (0,0)) by rw [hw0];exact heap_alloc_new w _)
 have HB0:=Ak (show Below w.heap.size w w0 by rw [hw0];exact below_alloc (Below.refl _ _) _)
 rw [←hw0]
 have HI0:=Ak (HI.out.below HB0.out)
 have HP0:=Ak (show ∀ k,P k→k < w0.heap.size from fun k hk=>by have:=HP.out k hk;rw [HZ.out];omega)
 have HG0:=Ak (show g < w0.heap.size by rw [HZ.out];have:=HGW.out;omega)
 clear hw0 HI
 obtain ⟨Q,hQ⟩:∃ Q,Q=w.heap.size:=⟨_,rfl⟩
 rw [←hQ] at HQ ⊢
 have HQN:=Ak (show Q < w0.heap.size∧w.heap.size≤Q by rw [HZ.out];omega)
 clear hQ
 refine (refText_calls P w0 g l false HI0.out HBY.out).mono ?_
 rintro e w1 ⟨rfl,hI,hb,hk⟩
 obtain ⟨s,hs⟩:∃ s,s=textOf l:=⟨_,rfl⟩
 rw [←hs]
 have HS:=Ak hs
 have HI1:=Ak hI
 have HB1:=Ak hb
 have HK1:=Ak hk
 have HBY1:=Ak (aftT_bytes HBY.out)
 clear hs hI hb hk HI0
 go_wp2_with (((with_reducible refine gate_dst (N:=4) rfl ?_);refine box_event ?hg (N:=4) ?hd (cs:=#[.string (⟨#[]⟩:ByteArray),.string (⟨#[]⟩:ByteArray),.slice none 0 0,.slice none 0 0]) (t:=29) ?hr ?_;(case hd=>rfl);(case hg=>rfl);(case hr=>(go_simp;done));intro E hg w2 hbox hb;have HE:=Ak hg;have HBX:=Ak hbox;have HB2:=Ak hb;clear hg hbox hb;have hb0:=blk_cell HBX.out 0;have hb1:=blk_cell HBX.out 1;have hb2:=blk_cell HBX.out 2;have hb3:=blk_cell HBX.out 3;have hf0:=blk_frozen HBX.out 0;have hf1:=blk_frozen HBX.out 1;have hf2:=blk_frozen HBX.out 2;have hf3:=blk_frozen HBX.out 3))
 have HT3:=Ak (ref_start w0 w1 w2 P g E (aftT l) (badT l false) s HI1.out HB1.out HK1.out HG0.out HP0.out HBY1.out HE.out HBX.out HB2.out)
 clear hb0 hb1 hb2 hb3 hf0 hf1 hf2 hf3 HI1 HB1 HK1 HBX HB2 HE
 generalize (((w2.setCell ⟨E,0,none⟩ (.string s)).setCell ⟨E,1,none⟩ (.string ⟨#[]⟩)).setCell ⟨E,2,none⟩ (.slice none 0 0)).setCell ⟨E,3,none⟩ (.slice none 0 0)=w3 at HT3 ⊢
 refine (refText_calls P w3 g (aftT l) (badT l false) HT3.out.rd HT3.out.by_).mono ?_
 rintro e w4 ⟨rfl,hI,hb,hk⟩
 have HT4:=Ak (HT3.out.read hI hb hk (aftT_bytes HT3.out.by_))
 clear HT3 hI hb hk
 obtain ⟨t,ht⟩:∃ t,t=textOf (aftT l):=⟨_,rfl⟩
 rw [←ht]
 have HTT:=Ak ht
 clear ht
 have he0:=blk_cell HT4.out.hE 1
 have hfz:=blk_frozen HT4.out.hE 1
 go_upto_region 3 with (fail)
 have HT5:=Ak (HT4.out.set1 t)
 clear HT4 he0 hfz
 generalize w4.setCell ⟨E,1,none⟩ (.string t)=w5 at HT5 ⊢
 go_wp2_with fail
 refine (refNum_calls P w5 g (aftT (aftT l)) (badT (aftT l) (badT l false)) HT5.out.rd HT5.out.by_).mono ?_
 rintro e w6 ⟨rfl,hI,hb,hk⟩
 have HT6:=Ak (HT5.out.read hI hb hk (aft_bytes HT5.out.by_))
 clear HT5 hI hb hk
 obtain ⟨n,hn⟩:∃ n,n=numOf (aftT (aftT l)):=⟨_,rfl⟩
 rw [←hn]
 have HN:=Ak hn
 clear hn
 obtain ⟨l3,hl3⟩:∃ l3,l3=aft (aftT (aftT l)):=⟨_,rfl⟩
 rw [←hl3] at HT6
 have HL3:=Ak hl3
 clear hl3
 obtain ⟨b3,hb3⟩:∃ b3,b3=badOf (aftT (aftT l)) (badT (aftT l) (badT l false)):=⟨_,rfl⟩
 rw [←hb3] at HT6
 have HB3:=Ak hb3
 clear hb3
 go_upto_block 0 with fail
 go_cut [6] from 18 to 40 (fun v6 wc=>∃ (j:Nat) (v2:Value),Aside0 (Tr w0 wc P g E (takeTs j l3 b3).2.1 (takeTs j l3 b3).2.2 s t v2 (takeTs j l3 b3).1 (.slice none 0 0) [])∧Aside0 ((∀ i,i < j→(takeTs i l3 b3).2.2=false∧(i:Int) < n)∧j≤7∧¬((j:Int) < n∧j≤6∧(takeTs j l3 b3).2.2=false)))
 case first=>
  go_wp2_with fail
  go_loopg [6] 7 (fun k v6 wi=>∃ (i:Nat) (v2:Value),v6 = .int .i64 (i:Int)∧Aside0 (i+k=7)∧Aside0 (Tr w0 wi P g E (takeTs i l3 b3).2.1 (takeTs i l3 b3).2.2 s t v2 (takeTs i l3 b3).1 (.slice none 0 0) [])∧Aside0 (∀ j,j < i→(takeTs j l3 b3).2.2=false∧(j:Int) < n))
  case atStart=>exact ⟨0,_,rfl,⟨by omega⟩,⟨HT6.out⟩,⟨fun j hj=>by omega⟩⟩
  case round=>
   clear HT6
   obtain ⟨i,v2,rfl,HE,HT,HA⟩:=hrel
   have hi7:i≤7:=by have:=HE.out;omega
   obtain ⟨⟨tags,li,bi⟩,hq⟩:∃ q,takeTs i l3 b3=q:=⟨_,rfl⟩
   rw [hq] at HT
   simp only at HT
   have HQI:=Ak hq
   clear hq
   have hbad:=HT.out.rd.isBad
   by_cases c1:(i:Int) < n
   ·have d1:decide ((i:Int) < n)=true:=decide_eq_true c1
    by_cases c2:i≤6
    ·have d2:decide ((i:Int)≤6)=true:=decide_eq_true (by omega)
     cases bi with
     | false=>
      have HC1:=Ak c1
      clear c1
      have htl:tags.length≤1000:=by have:=takeTs_len l3 b3 i;rw [HQI.out] at this;simp only at this;omega
      go_upto_region 7 with fail
      refine start_ (n:=8) (S:=fun w'=>w'.cell? ⟨E,2,none⟩=some v2) (ds:=[7]) #[false,false,false,false,false,false,false,false] (by kernel_rfl) rfl rfl ((blk_cell HT.out.drew.hE 2).trans rfl) (fun hHeld=>?_);refine with_tabW D25.tab7 D25.bits7 (fun HT_ HW_=>?_)
      have HT1:=Ak HT.out.drew
      clear HT hbad
      generalize World.drew _=w1_ at HT1 hHeld ⊢
      refine pure_ (i:=0) (N:=some 34) (v:=?_) (a':=?_) #[true,false,false,false,false,false,false,false] rfl rfl (any_of HT_.out (by kernel_rfl)) (fun _ _ _ h=>h) (Or.inl ⟨by rfl,?_⟩) ?_ ?_
      rotate_left
      ·intro w'
       go_simp
       with_reducible rfl
      rotate_left
      ·simp only [Act.put,List.setIfInBounds_toArray,List.set_cons_zero,List.set_cons_succ,i64_w,i32_w]
       rfl
      refine take_ (i:=1) (N:=some 35) (v:=?_) (a':=?_) #[true,true,false,false,false,false,false,false] rfl rfl (take_ofW HT_.out HW_.out (by kernel_rfl)) (fun _ _ _ h=>h) (Or.inl ⟨by rfl,?_⟩) hHeld ?_ ?_
      rotate_left
      ·rintro w' s0
       go_simp
       with_reducible rfl
      rotate_left
      ·simp only [Act.put,List.setIfInBounds_toArray,List.set_cons_zero,List.set_cons_succ,i64_w,i32_w]
       rfl
      refine pure_ (i:=2) (N:=some 36) (v:=?_) (a':=?_) #[true,true,true,false,false,false,false,false] rfl rfl (any_of HT_.out (by kernel_rfl)) (fun _ _ _ h=>h) (Or.inl ⟨by rfl,?_⟩) ?_ ?_
      rotate_left
      ·intro w'
       go_simp
       with_reducible rfl
      rotate_left
      ·simp only [Act.put,List.setIfInBounds_toArray,List.set_cons_zero,List.set_cons_succ,i64_w,i32_w]
       rfl
      refine one_ (i:=3) (N:=some 37) #[true,true,true,true,false,false,false,false] rfl rfl (one_of HT_.out (by kernel_rfl)) (by decide) (fun K hK=>?_)
      refine goes_ Tryz.func24 (by kernel_rfl) rfl #[.pointer (some ⟨g,0,none⟩)] (by rfl) rfl rfl (by (try simp only [List.map_toArray,List.map_cons,List.map_nil]);rfl) ?_
      with_reducible refine (refText_calls P w1_ g li false HT1.out.rd HT1.out.by_).mono ?_
      rintro e w2_ ⟨rfl,hI,hb,hk⟩
      refine ⟨_,rfl,?_⟩
      have HT2:=Ak (HT1.out.read hI hb hk (aftT_bytes HT1.out.by_))
      clear HT1 hI hb hk
      refine hK.out _ _ ((blk_cell HT2.out.hE 2).trans rfl) (fun hHeld=>?_)
      clear hK K
      refine norm_ (a':=?_) ?_ ?_
      rotate_left
      ·show Act.put _ (some 37) _=_
       simp only [Act.put,List.setIfInBounds_toArray,List.set_cons_zero,List.set_cons_succ,i64_w,i32_w]
       rfl
      obtain ⟨x1,hx⟩:∃ x1,x1=textOf li:=⟨_,rfl⟩
      rw [←hx]
      have HX1:=Ak hx
      clear hx
      refine one_ (i:=4) (N:=some 38) #[true,true,true,true,true,false,false,false] rfl rfl (one_of HT_.out (by kernel_rfl)) (by decide) (fun K hK=>?_)
      refine event_step (by rfl) (v:=.slice (some ⟨w2_.heap.size,0,none⟩) 1 1) (w1:=w2_.alloc (.cells #[.string x1] 9)) ?_ ?_
      ·(go_simp;done)
      refine hK.out _ _ ((blk_cell (HT2.out.alloc _).hE 2).trans rfl) (fun hHeld=>?_)
      clear hK K
      refine norm_ (a':=?_) ?_ ?_
      rotate_left
      ·show Act.put _ (some 38) _=_
       simp only [Act.put,List.setIfInBounds_toArray,List.set_cons_zero,List.set_cons_succ,i64_w,i32_w]
       rfl
      refine one_ (i:=5) (N:=some 39) #[true,true,true,true,true,true,false,false] rfl rfl (one_of HT_.out (by kernel_rfl)) (by decide) (fun K hK=>?_)
      refine Kd.R_append_step Kd.string (w0:=w2_) w0.heap.size (by rfl) (.tmp 35) (.tmp 38) 26 9 (.string ⟨#[]⟩) 16 rfl Tryz.underlying26 info_str rfl (by decide) (by omega) v2 tags x1 [.string x1] (fun _=>True) (fun _=>False) rfl rfl rfl (fun _ hk=>hk.elim) (fun _ _=>trivial) HT2.out.r2 (Below.refl _ _) HT2.out.keep.1 (by omega) ?_
      intro v w3_ ho hb hg hat
      have HO:=Ak ho
      have HBl:=Ak hb
      have HG:=Ak hg
      clear ho hb hg hat
      refine hK.out _ _ ((blk_cell (blk_grown HT2.out.hE HG.out (Kd.R_ne HT2.out.r2 HT2.out.hE (by decide))) 2).trans rfl) (fun hHeld=>?_)
      clear hK K
      refine norm_ (a':=?_) ?_ ?_
      rotate_left
      ·show Act.put _ (some 39) _=_
       simp only [Act.put,List.setIfInBounds_toArray,List.set_cons_zero,List.set_cons_succ,i64_w,i32_w]
       rfl
      refine pure_ (i:=6) (N:=some 40) (v:=?_) (a':=?_) #[true,true,true,true,true,true,true,false] rfl rfl (any_of HT_.out (by kernel_rfl)) (fun _ _ _ h=>h) (Or.inl ⟨by rfl,?_⟩) ?_ ?_
      rotate_left
      ·intro w'
       go_simp
       with_reducible rfl
      rotate_left
      ·simp only [Act.put,List.setIfInBounds_toArray,List.set_cons_zero,List.set_cons_succ,i64_w,i32_w]
       rfl
      refine last_ (i:=7) (N:=none) #[true,true,true,true,true,true,true,true] rfl rfl (one_of HT_.out (by kernel_rfl)) (by decide) (fun K hK=>?_)
      obtain ⟨Av,cv,ev_⟩:=Kd.R_slice HO.out
      subst ev_
      have hfz:=blk_frozen (blk_grown HT2.out.hE HG.out (Kd.R_ne HT2.out.r2 HT2.out.hE (by decide))) 2
      have hce:=(blk_cell (blk_grown HT2.out.hE HG.out (Kd.R_ne HT2.out.r2 HT2.out.hE (by decide))) 2)
      refine skip_ (w1:=w3_.setCell ⟨E,2,none⟩ (.slice Av (tags++[x1]).length cv)) (by rfl) rfl ?_ ?_
      ·(go_simp;done)
      refine hK.out _ _ ?_
      clear hK K
      refine done_ (by kernel_rfl) ?_
      clear HT_ HW_ hHeld
      have HT3:=Ak (HT2.out.push2 HO.out HBl.out HG.out)
      have HQ3:=Ak (takeTs_succ HQI.out)
      clear HT2 hfz hce HO HBl HG
      generalize w3_.setCell ⟨E,2,none⟩ (.slice Av (tags++[x1]).length cv)=w4 at HT3 ⊢
      go_wp2_with fail
      go_roundg (7 - (i+1))
      case measure=>have:=HE.out;omega
      case rel=>exact ⟨i+1,.slice Av (tags++[x1]).length cv,by go_num,⟨by omega⟩,by rw [HQ3.out,←HX1.out];exact HT3,⟨fun j hj=>by
       by_cases e:j=i
       ·rw [e,HQI.out];exact ⟨rfl,HC1.out⟩
       ·exact HA.out j (by omega)⟩⟩
     | true=>
      have HC1:=Ak c1
      clear c1
      go_wp2_with fail
      go_meet
      case rel=>exact ⟨i,v2,by rw [HQI.out];exact HT,⟨HA.out,hi7,by rw [HQI.out];simp⟩⟩
    ·have d2:decide ((i:Int)≤6)=false:=decide_eq_false (by omega)
     have HC1:=Ak c1
     clear c1
     go_wp2_with fail
     go_meet
     case rel=>exact ⟨i,v2,by rw [HQI.out];exact HT,⟨HA.out,hi7,fun h=>c2 h.2.1⟩⟩
   ·have d1:decide ((i:Int) < n)=false:=decide_eq_false c1
    have HC1:=Ak c1
    clear c1
    go_wp2_with fail
    go_meet
    case rel=>exact ⟨i,v2,by rw [HQI.out];exact HT,⟨HA.out,hi7,fun h=>absurd h.1 (by have:=HC1.out;omega)⟩⟩
 case rest=>
  clear HT6
  obtain ⟨j,v2,HT,HA⟩:=hcut
  obtain ⟨⟨tags,l4,b4⟩,hq⟩:∃ q,takeTs j l3 b3=q:=⟨_,rfl⟩
  have HZ3:=Ak (show isBytes l3∧l3.length≤9223372036854775807 from by rw [HL3.out];exact ⟨aft_bytes (aftT_bytes (aftT_bytes HBY.out)),Nat.le_trans (aft_len _ (aftT_bytes (aftT_bytes HBY.out))) (Nat.le_trans (aftT_len _ (aftT_bytes HBY.out)) (Nat.le_trans (aftT_len _ HBY.out) HSL.out))⟩)
  have hqs:=takeTs_left l3 b3 HZ3.out.1 j
  rw [hq] at hqs
  have htl:=takeTs_len l3 b3 j
  rw [hq] at htl HT
  simp only at hqs htl HT
  have HZT:Aside0 (∀ x ∈ tags,x.size≤9223372036854775807):=⟨fun x hx=>Nat.le_trans (hqs.2.2 x hx) HZ3.out.2⟩
  have HZ4:Aside0 (l4.length≤9223372036854775807):=⟨Nat.le_trans hqs.2.1 HZ3.out.2⟩
  have HTL:=Ak htl
  have HQ1:=Ak hq
  clear hqs htl hq
  by_cases cn:n < 0
  ·have d1:decide (n < 0)=true:=decide_eq_true cn
   have HNO:Aside0 (noE l):=⟨_,_,takeE_n (.inl (by rw [←HN.out];exact cn))⟩
   clear cn
   have HQW:=Ak ((HT.out.keep.blk HQ.out (by have:=HGW.out;have:=HQN.out.2;omega) (by simp)))
   have HO:=Ak (OutR.of_Tr HT.out HB0.out HGW.out)
   have HBYX:=Ak HT.out.by_
   have hq0:=blk_cell HQW.out 0
   have hq1:=blk_cell HQW.out 1
   have hq2:=blk_cell HQW.out 2
   have hq3:=blk_cell HQW.out 3
   have hf0:=blk_frozen HQW.out 0
   have hf1:=blk_frozen HQW.out 1
   have hf2:=blk_frozen HQW.out 2
   have hf3:=blk_frozen HQW.out 3
   clear HT
   go_wp2
   have HQ2:=blk_put (cs':=#[.string ⟨#[]⟩,.string ⟨#[]⟩,.slice none 0 0,.slice none 0 0]) (blk_put (cs':=#[.string ⟨#[]⟩,.string ⟨#[]⟩,.slice none 0 0,.slice none 0 0]) (blk_put (cs':=#[.string ⟨#[]⟩,.string ⟨#[]⟩,.slice none 0 0,.slice none 0 0]) (blk_put (cs':=#[.string ⟨#[]⟩,.string ⟨#[]⟩,.slice none 0 0,.slice none 0 0]) HQW.out 0 (.string ⟨#[]⟩) rfl) 1 (.string ⟨#[]⟩) rfl) 2 (.slice none 0 0) rfl) 3 (.slice none 0 0) rfl
   refine bodyPost_ret (results_ct rfl _ _ Q 29 _ (0,0) _ rfl HQ2 Tryz.underlying29 rfl (by kernel_rfl)) rfl ?_
   obtain ⟨lx,bx,hno⟩:=HNO.out
   have hx:=HX.out
   rw [hno] at hx
   simp only [Prod.mk.injEq] at hx
   obtain ⟨rfl,rfl,rfl,rfl⟩:=hx
   have ho:=(((HO.out.set HGW.out HP.out HQN.out.2 0 (.string ⟨#[]⟩)).set HGW.out HP.out HQN.out.2 1 (.string ⟨#[]⟩)).set HGW.out HP.out HQN.out.2 2 (.slice none 0 0)).set HGW.out HP.out HQN.out.2 3 (.slice none 0 0)
   unfold RefPost
   exact ⟨.slice none 0 0,.slice none 0 0,_,_,rfl,Kd.R_nil _ _ _ _ _,Kd.R_nil _ _ _ _ _,ho.1,HBYX.out,fun h=>absurd h (by decide),ho.2.1,ho.2.2⟩
  ·have d1:decide (n < 0)=false:=decide_eq_false cn
   by_cases c6:6 < n
   ·have d2:decide (6 < n)=true:=decide_eq_true c6
    have HNO:Aside0 (noE l):=⟨_,_,takeE_n (.inr (by rw [←HN.out];exact c6))⟩
    clear c6 cn
    have HQW:=Ak ((HT.out.keep.blk HQ.out (by have:=HGW.out;have:=HQN.out.2;omega) (by simp)))
    have HO:=Ak (OutR.of_Tr HT.out HB0.out HGW.out)
    have HBYX:=Ak HT.out.by_
    have hq0:=blk_cell HQW.out 0
    have hq1:=blk_cell HQW.out 1
    have hq2:=blk_cell HQW.out 2
    have hq3:=blk_cell HQW.out 3
    have hf0:=blk_frozen HQW.out 0
    have hf1:=blk_frozen HQW.out 1
    have hf2:=blk_frozen HQW.out 2
    have hf3:=blk_frozen HQW.out 3
    clear HT
    go_wp2
    have HQ2:=blk_put (cs':=#[.string ⟨#[]⟩,.string ⟨#[]⟩,.slice none 0 0,.slice none 0 0]) (blk_put (cs':=#[.string ⟨#[]⟩,.string ⟨#[]⟩,.slice none 0 0,.slice none 0 0]) (blk_put (cs':=#[.string ⟨#[]⟩,.string ⟨#[]⟩,.slice none 0 0,.slice none 0 0]) (blk_put (cs':=#[.string ⟨#[]⟩,.string ⟨#[]⟩,.slice none 0 0,.slice none 0 0]) HQW.out 0 (.string ⟨#[]⟩) rfl) 1 (.string ⟨#[]⟩) rfl) 2 (.slice none 0 0) rfl) 3 (.slice none 0 0) rfl
    refine bodyPost_ret (results_ct rfl _ _ Q 29 _ (0,0) _ rfl HQ2 Tryz.underlying29 rfl (by kernel_rfl)) rfl ?_
    obtain ⟨lx,bx,hno⟩:=HNO.out
    have hx:=HX.out
    rw [hno] at hx
    simp only [Prod.mk.injEq] at hx
    obtain ⟨rfl,rfl,rfl,rfl⟩:=hx
    have ho:=(((HO.out.set HGW.out HP.out HQN.out.2 0 (.string ⟨#[]⟩)).set HGW.out HP.out HQN.out.2 1 (.string ⟨#[]⟩)).set HGW.out HP.out HQN.out.2 2 (.slice none 0 0)).set HGW.out HP.out HQN.out.2 3 (.slice none 0 0)
    unfold RefPost
    exact ⟨.slice none 0 0,.slice none 0 0,_,_,rfl,Kd.R_nil _ _ _ _ _,Kd.R_nil _ _ _ _ _,ho.1,HBYX.out,fun h=>absurd h (by decide),ho.2.1,ho.2.2⟩
   ·have d2:decide (6 < n)=false:=decide_eq_false c6
    have HN1:Aside0 (¬(numOf (aftT (aftT l)) < 0∨6 < numOf (aftT (aftT l)))):=⟨by rw [←HN.out];omega⟩
    clear c6 cn
    go_wp2_with fail
    refine (refNum_calls P wc g l4 b4 HT.out.rd HT.out.by_).mono ?_
    rintro e w6 ⟨rfl,hI,hb,hk⟩
    have HT6:=Ak (HT.out.read hI hb hk (aft_bytes HT.out.by_))
    have HY4:=Ak HT.out.by_
    clear HT hI hb hk
    obtain ⟨m,hm⟩:∃ m,m=numOf l4:=⟨_,rfl⟩
    rw [←hm]
    have HM:=Ak hm
    clear hm
    go_upto_block 2 with fail
    obtain ⟨l5,hl5⟩:∃ l5,l5=aft l4:=⟨_,rfl⟩
    rw [←hl5] at HT6
    have HL5:=Ak hl5
    clear hl5
    obtain ⟨b5,hb5⟩:∃ b5,b5=badOf l4 b4:=⟨_,rfl⟩
    rw [←hb5] at HT6
    have HB5:=Ak hb5
    clear hb5
    go_cut [8,9] from 50 to 77 (fun v8 v9 wc=>∃ (j:Nat) (v3:Value),Aside0 (Tr w0 wc P g E (takeFs j l5 b5).2.1 (takeFs j l5 b5).2.2 s t v2 tags v3 (takeFs j l5 b5).1)∧Aside0 ((∀ i,i < j→(takeFs i l5 b5).2.2=false∧(i:Int) < m)∧j≤5∧¬((j:Int) < m∧j≤4∧(takeFs j l5 b5).2.2=false)))
    case first=>
     go_wp2_with fail
     go_loopg [8,9] 5 (fun k v8 v9 wi=>∃ (i:Nat) (v3:Value),v8 = .int .i64 (i:Int)∧Aside0 (i+k=5)∧Aside0 (Tr w0 wi P g E (takeFs i l5 b5).2.1 (takeFs i l5 b5).2.2 s t v2 tags v3 (takeFs i l5 b5).1)∧Aside0 (∀ j,j < i→(takeFs j l5 b5).2.2=false∧(j:Int) < m))
     case atStart=>exact ⟨0,_,rfl,⟨by omega⟩,⟨HT6.out⟩,⟨fun j hj=>by omega⟩⟩
     case round=>
      clear HT6
      obtain ⟨i,v3,rfl,HE,HT,HA2⟩:=hrel
      have hi5:i≤5:=by have:=HE.out;omega
      obtain ⟨⟨fl,li,bi⟩,hq⟩:∃ q,takeFs i l5 b5=q:=⟨_,rfl⟩
      rw [hq] at HT
      simp only at HT
      have HQI:=Ak hq
      clear hq
      have hbad:=HT.out.rd.isBad
      by_cases c1:(i:Int) < m
      ·have d3:decide ((i:Int) < m)=true:=decide_eq_true c1
       by_cases c2:i≤4
       ·have d4:decide ((i:Int)≤4)=true:=decide_eq_true (by omega)
        cases bi with
        | false=>
         have HC1:=Ak c1
         clear c1
         have hfl:fl.length≤1000:=by have:=takeFs_len l5 b5 i;rw [HQI.out] at this;simp only at this;omega
         go_wp2_with fail
         refine (refText_calls P _ g li false HT.out.rd HT.out.by_).mono ?_
         rintro e w1 ⟨rfl,hI,hb,hk⟩
         have HT1:=Ak (HT.out.read hI hb hk (aftT_bytes HT.out.by_))
         clear HT hI hb hk hbad
         obtain ⟨x1,hx⟩:∃ x1,x1=textOf li:=⟨_,rfl⟩
         rw [←hx]
         have HX1:=Ak hx
         clear hx
         go_wp2_with (((with_reducible refine gate_dst (N:=9) rfl ?_);refine box_event ?hg (N:=9) ?hd (cs:=#[.string (⟨#[]⟩:ByteArray),.int .i64 0]) (t:=90) ?hr ?_;(case hd=>rfl);(case hg=>rfl);(case hr=>(go_simp;done));intro B hg w2 hbox hb;have HNB:=Ak (show some B≠v3.ownBlock by intro e_;have:=Kd.R_lt HT1.out.r3 B e_.symm;omega);have HT2:=Ak (HT1.out.up hb);have HBX:=Ak hbox;have HGE:=Ak (show w0.heap.size≤B by rw [hg];exact HT1.out.keep.1);clear HT1 hg hbox hb;have hb0:=blk_cell HBX.out 0;have hb1:=blk_cell HBX.out 1;have hfz0:=blk_frozen HBX.out 0;have hfz1:=blk_frozen HBX.out 1))
         have hneE:=blk_ne HBX.out HT2.out.hE (by decide)
         have HN2:=Ak (Kd.R_ne HT2.out.r2 HBX.out (by decide))
         have HT3:=Ak ((HT2.out.side HGE.out hneE HN2.out HNB.out 0 (.string x1)).side HGE.out hneE HN2.out HNB.out 1 (.int .i64 0))
         have HB3_:=Ak (blk_put (cs':=#[.string x1,.int .i64 0]) (blk_put (cs':=#[.string x1,.int .i64 0]) HBX.out 0 (.string x1) rfl) 1 (.int .i64 0) rfl)
         clear HT2 HBX hb0 hb1 hfz0 hfz1
         generalize (World.setCell _ ⟨B,0,none⟩ (.string x1)).setCell ⟨B,1,none⟩ (.int .i64 0)=w3 at HT3 HB3_ ⊢
         refine (refNum_calls P w3 g (aftT li) (badT li false) HT3.out.rd HT3.out.by_).mono ?_
         rintro e w4 ⟨rfl,hI,hb,hk⟩
         have HB4:=Ak (hk.blk HB3_.out (by have:=HT3.out.gN;have:=HGE.out;omega) (by simp))
         have HT4:=Ak (HT3.out.read hI hb hk (aft_bytes HT3.out.by_))
         clear HT3 HB3_ hI hb hk
         obtain ⟨n1,hn⟩:∃ n1,n1=numOf (aftT li):=⟨_,rfl⟩
         rw [←hn]
         have HNU:=Ak hn
         clear hn
         have HT5:=Ak (HT4.out.side HGE.out hneE HN2.out HNB.out 1 (.int .i64 n1))
         have HB5_:=Ak (blk_put (cs':=#[.string x1,.int .i64 n1]) HB4.out 1 (.int .i64 n1) rfl)
         have hb0:=blk_cell HB4.out 0
         have hb1:=blk_cell HB4.out 1
         have hfz1:=blk_frozen HB4.out 1
         go_upto_region 16 with (fail)
         clear hb0 hb1 hfz1 HT4 HB4
         generalize w4.setCell ⟨B,1,none⟩ (.int .i64 n1)=w5 at HT5 HB5_ ⊢
         have he3:=blk_cell HT5.out.hE 3
         have hc0:=blk_cell HB5_.out 0
         have hc1:=blk_cell HB5_.out 1
         obtain ⟨A3,c3,e3⟩:=Kd.R_slice HT5.out.r3
         subst e3
         go_wp2_with (((with_reducible refine gate_builtin (b:=.append) (xs:=#[.tmp 73,.tmp 75]) rfl ?_);at_builtin;refine Kd.R_append k90 (w0:=_) w0.heap.size rfl (.tmp 73) (.tmp 75) 27 90 (.agg #[.string ⟨#[]⟩,.int .i64 0]) 24 rfl Tryz.underlying27 info_field rfl (by decide) (by omega) (.slice A3 fl.length c3) fl ⟨x1,n1⟩ [.string x1,.int .i64 n1] (fun _=>True) (fun _=>False) rfl rfl (k90_mkM _ _ _ _) (fun _ hk=>hk.elim) (fun _ _=>trivial) HT5.out.r3 (Below.refl _ _) HT5.out.keep.1 (by omega) ?_;intro v w6 ho hb hg hat;have HO:=Ak ho;have HBl:=Ak hb;have HG:=Ak hg;clear ho hb hg hat;obtain ⟨Av,cv,ev_⟩:=Kd.R_slice HO.out;subst ev_;have hfz:=blk_frozen (blk_grown HT5.out.hE HG.out (Kd.R_ne HT5.out.r3 HT5.out.hE (by decide))) 3;have hce:=(blk_cell (blk_grown HT5.out.hE HG.out (Kd.R_ne HT5.out.r3 HT5.out.hE (by decide))) 3)))
         have HT7:=Ak (HT5.out.push3 HO.out HBl.out HG.out)
         have HQ3:=Ak (takeFs_succ HQI.out)
         go_roundg (5 - (i+1))
         case measure=>have:=HE.out;omega
         case rel=>exact ⟨i+1,.slice Av (fl.length+1) cv,by go_num,⟨by omega⟩,by
          have hq:=HT7.out
          rw [HQ3.out,←HX1.out,←HNU.out]
          rw [List.length_append,List.length_singleton] at hq
          exact ⟨hq⟩,⟨fun j hj=>by
          by_cases e:j=i
          ·rw [e,HQI.out];exact ⟨rfl,HC1.out⟩
          ·exact HA2.out j (by omega)⟩⟩
        | true=>
         have HC1:=Ak c1
         clear c1
         go_wp2_with fail
         go_meet
         case rel=>exact ⟨i,v3,by rw [HQI.out];exact HT,⟨HA2.out,hi5,by rw [HQI.out];simp⟩⟩
       ·have d4:decide ((i:Int)≤4)=false:=decide_eq_false (by omega)
        have HC1:=Ak c1
        clear c1
        go_wp2_with fail
        go_meet
        case rel=>exact ⟨i,v3,by rw [HQI.out];exact HT,⟨HA2.out,hi5,fun h=>c2 h.2.1⟩⟩
      ·have d3:decide ((i:Int) < m)=false:=decide_eq_false c1
       have HC1:=Ak c1
       clear c1
       go_wp2_with fail
       go_meet
       case rel=>exact ⟨i,v3,by rw [HQI.out];exact HT,⟨HA2.out,hi5,fun h=>absurd h.1 (by have:=HC1.out;omega)⟩⟩
    case rest=>
     clear HT6
     obtain ⟨j2,v3,HT,HA2⟩:=hcut
     obtain ⟨⟨fl,l6,b6⟩,hq⟩:∃ q,takeFs j2 l5 b5=q:=⟨_,rfl⟩
     have HY5:=Ak (show isBytes l5∧l5.length≤9223372036854775807 from by rw [HL5.out];exact ⟨aft_bytes HY4.out,Nat.le_trans (aft_len _ HY4.out) HZ4.out⟩)
     have hqs:=takeFs_left l5 b5 HY5.out.1 j2
     have hfl:=takeFs_len l5 b5 j2
     have HLAW:=Ak (refTake_no (j:=j) (j2:=j2) (tags:=tags) (l4:=l4) (b4:=b4) (fl:=fl) (l6:=l6) (b6:=b6) HN1.out (by rw [←HN.out,←HL3.out,←HB3.out];exact HA.out) (by rw [←HL3.out,←HB3.out];exact HQ1.out) (by rw [←HL5.out,←HB5.out,←HM.out];exact HA2.out) (by rw [←HL5.out,←HB5.out];exact hq))
     have hj2:=HA2.out.2.1
     have hj1:=HA.out.2.1
     rw [hq] at hqs hfl HT
     simp only at hqs hfl HT
     have HZF:Aside0 (∀ x ∈ fl,x.f0.size≤9223372036854775807):=⟨fun x hx=>Nat.le_trans (hqs.2.2 x hx) HY5.out.2⟩
     have HFL:=Ak (show fl.length≤5 by omega)
     have HTL2:=Ak (show tags.length≤7 by have:=HTL.out;omega)
     rw [←HM.out,←HS.out,←HTT.out] at HLAW
     clear hqs hfl hq hj2 hj1 HA HA2
     by_cases cm:m < 0
     ·have d3:decide (m < 0)=true:=decide_eq_true cm
      have HNO:=Ak (HLAW.out.1 (.inl cm))
      clear cm
      have HQW:=Ak ((HT.out.keep.blk HQ.out (by have:=HGW.out;have:=HQN.out.2;omega) (by simp)))
      have HO:=Ak (OutR.of_Tr HT.out HB0.out HGW.out)
      have HBYX:=Ak HT.out.by_
      have hq0:=blk_cell HQW.out 0
      have hq1:=blk_cell HQW.out 1
      have hq2:=blk_cell HQW.out 2
      have hq3:=blk_cell HQW.out 3
      have hf0:=blk_frozen HQW.out 0
      have hf1:=blk_frozen HQW.out 1
      have hf2:=blk_frozen HQW.out 2
      have hf3:=blk_frozen HQW.out 3
      clear HT
      go_wp2
      have HQ2:=blk_put (cs':=#[.string ⟨#[]⟩,.string ⟨#[]⟩,.slice none 0 0,.slice none 0 0]) (blk_put (cs':=#[.string ⟨#[]⟩,.string ⟨#[]⟩,.slice none 0 0,.slice none 0 0]) (blk_put (cs':=#[.string ⟨#[]⟩,.string ⟨#[]⟩,.slice none 0 0,.slice none 0 0]) (blk_put (cs':=#[.string ⟨#[]⟩,.string ⟨#[]⟩,.slice none 0 0,.slice none 0 0]) HQW.out 0 (.string ⟨#[]⟩) rfl) 1 (.string ⟨#[]⟩) rfl) 2 (.slice none 0 0) rfl) 3 (.slice none 0 0) rfl
      refine bodyPost_ret (results_ct rfl _ _ Q 29 _ (0,0) _ rfl HQ2 Tryz.underlying29 rfl (by kernel_rfl)) rfl ?_
      obtain ⟨lx,bx,hno⟩:=HNO.out
      have hx:=HX.out
      rw [hno] at hx
      simp only [Prod.mk.injEq] at hx
      obtain ⟨rfl,rfl,rfl,rfl⟩:=hx
      have ho:=(((HO.out.set HGW.out HP.out HQN.out.2 0 (.string ⟨#[]⟩)).set HGW.out HP.out HQN.out.2 1 (.string ⟨#[]⟩)).set HGW.out HP.out HQN.out.2 2 (.slice none 0 0)).set HGW.out HP.out HQN.out.2 3 (.slice none 0 0)
      unfold RefPost
      exact ⟨.slice none 0 0,.slice none 0 0,_,_,rfl,Kd.R_nil _ _ _ _ _,Kd.R_nil _ _ _ _ _,ho.1,HBYX.out,fun h=>absurd h (by decide),ho.2.1,ho.2.2⟩
     ·have d3:decide (m < 0)=false:=decide_eq_false cm
      have HCM:=Ak cm
      clear cm
      have hbad:=HT.out.rd.isBad
      cases b6 with
      | true=>
       have HNO:=Ak (HLAW.out.1 (.inr (.inl rfl)))
       have HQW:=Ak ((HT.out.keep.blk HQ.out (by have:=HGW.out;have:=HQN.out.2;omega) (by simp)))
       have HO:=Ak (OutR.of_Tr HT.out HB0.out HGW.out)
       have HBYX:=Ak HT.out.by_
       have hq0:=blk_cell HQW.out 0
       have hq1:=blk_cell HQW.out 1
       have hq2:=blk_cell HQW.out 2
       have hq3:=blk_cell HQW.out 3
       have hf0:=blk_frozen HQW.out 0
       have hf1:=blk_frozen HQW.out 1
       have hf2:=blk_frozen HQW.out 2
       have hf3:=blk_frozen HQW.out 3
       clear HT
       go_wp2
       have HQ2:=blk_put (cs':=#[.string ⟨#[]⟩,.string ⟨#[]⟩,.slice none 0 0,.slice none 0 0]) (blk_put (cs':=#[.string ⟨#[]⟩,.string ⟨#[]⟩,.slice none 0 0,.slice none 0 0]) (blk_put (cs':=#[.string ⟨#[]⟩,.string ⟨#[]⟩,.slice none 0 0,.slice none 0 0]) (blk_put (cs':=#[.string ⟨#[]⟩,.string ⟨#[]⟩,.slice none 0 0,.slice none 0 0]) HQW.out 0 (.string ⟨#[]⟩) rfl) 1 (.string ⟨#[]⟩) rfl) 2 (.slice none 0 0) rfl) 3 (.slice none 0 0) rfl
       refine bodyPost_ret (results_ct rfl _ _ Q 29 _ (0,0) _ rfl HQ2 Tryz.underlying29 rfl (by kernel_rfl)) rfl ?_
       obtain ⟨lx,bx,hno⟩:=HNO.out
       have hx:=HX.out
       rw [hno] at hx
       simp only [Prod.mk.injEq] at hx
       obtain ⟨rfl,rfl,rfl,rfl⟩:=hx
       have ho:=(((HO.out.set HGW.out HP.out HQN.out.2 0 (.string ⟨#[]⟩)).set HGW.out HP.out HQN.out.2 1 (.string ⟨#[]⟩)).set HGW.out HP.out HQN.out.2 2 (.slice none 0 0)).set HGW.out HP.out HQN.out.2 3 (.slice none 0 0)
       unfold RefPost
       exact ⟨.slice none 0 0,.slice none 0 0,_,_,rfl,Kd.R_nil _ _ _ _ _,Kd.R_nil _ _ _ _ _,ho.1,HBYX.out,fun h=>absurd h (by decide),ho.2.1,ho.2.2⟩
      | false=>
       obtain ⟨A2,c2,e2,hc2,hC2⟩:=Kd.R_reads HT.out.r2
       subst e2
       obtain ⟨A3,c3,e3,hc3,hC3⟩:=Kd.R_reads HT.out.r3
       subst e3
       have HC2:=Ak hC2
       have HC3:=Ak hC3
       have he0:=blk_cell HT.out.hE 0
       have he1:=blk_cell HT.out.hE 1
       have he2:=blk_cell HT.out.hE 2
       have he3:=blk_cell HT.out.hE 3
       clear hC2 hC3
       have hmay:q04_MayG.f s t tags fl=some (mayE s t tags fl):=if_pos ⟨fitE_iff.2 ⟨by rw [HS.out];exact HSZ.out,by rw [HTT.out];exact HSY.out,HZT.out,HZF.out,by have:=HFL.out;omega⟩,by have:=HTL2.out;omega⟩
       have HMAY:=Ak hmay
       clear hmay
       obtain ⟨mm,hmm⟩:∃ mm,mm=mayE s t tags fl:=⟨_,rfl⟩
       rw [←hmm] at HMAY
       have HMM:=Ak hmm
       clear hmm
       go_wp2_with fail
       refine (q04_MayG.calls s t A2 c2 tags A3 c3 fl mm _ HC2.out hc2 HC3.out hc3 HMAY.out).mono ?_
       rintro e w8 ⟨rfl,hb⟩
       have HT8:=Ak (HT.out.up hb)
       clear HT hb he0 he1 he2 he3 hbad HC2 HC3
       by_cases h0:mm=0
       ·have hbn:(mm != 0)=false:=bne_eq_false_iff_eq.mpr h0
        have HR2:=Ak (HLAW.out.2 HCM.out (by trivial) (by rw [←HMM.out];exact h0))
        clear h0 HLAW
        have HQW:=Ak ((HT8.out.keep.blk HQ.out (by have:=HGW.out;have:=HQN.out.2;omega) (by simp)))
        have HO:=Ak (OutR.of_Tr HT8.out HB0.out HGW.out)
        have HBYX:=Ak HT8.out.by_
        have hq0:=blk_cell HQW.out 0
        have hq1:=blk_cell HQW.out 1
        have hq2:=blk_cell HQW.out 2
        have hq3:=blk_cell HQW.out 3
        have hf0:=blk_frozen HQW.out 0
        have hf1:=blk_frozen HQW.out 1
        have hf2:=blk_frozen HQW.out 2
        have hf3:=blk_frozen HQW.out 3
        have he0:=blk_cell HT8.out.hE 0
        have he1:=blk_cell HT8.out.hE 1
        have he2:=blk_cell HT8.out.hE 2
        have he3:=blk_cell HT8.out.hE 3
        go_wp2
        have HQ2:=blk_put (cs':=#[.string s,.string t,.slice A2 tags.length c2,.slice A3 fl.length c3]) (blk_put (cs':=#[.string s,.string t,.slice A2 tags.length c2,.slice none 0 0]) (blk_put (cs':=#[.string s,.string t,.slice none 0 0,.slice none 0 0]) (blk_put (cs':=#[.string s,.string ⟨#[]⟩,.slice none 0 0,.slice none 0 0]) HQW.out 0 (.string s) rfl) 1 (.string t) rfl) 2 (.slice A2 tags.length c2) rfl) 3 (.slice A3 fl.length c3) rfl
        refine bodyPost_ret (results_ct rfl _ _ Q 29 _ (0,0) _ rfl HQ2 Tryz.underlying29 rfl (by kernel_rfl)) rfl ?_
        have hx:=HX.out
        rw [HR2.out] at hx
        simp only [Prod.mk.injEq] at hx
        obtain ⟨rfl,rfl,rfl,rfl⟩:=hx
        have ho:=(((HO.out.set HGW.out HP.out HQN.out.2 0 (.string s)).set HGW.out HP.out HQN.out.2 1 (.string t)).set HGW.out HP.out HQN.out.2 2 (.slice A2 tags.length c2)).set HGW.out HP.out HQN.out.2 3 (.slice A3 fl.length c3)
        unfold RefPost
        exact ⟨.slice A2 tags.length c2,.slice A3 fl.length c3,_,_,rfl,Kd.R_lower (R_set4 HT8.out.r2 HQW.out (by decide) _ _ _ _) HB0.out.size,Kd.R_lower (R_set4 HT8.out.r3 HQW.out (by decide) _ _ _ _) HB0.out.size,ho.1,HBYX.out,fun _=>⟨rfl,rfl⟩,ho.2.1,ho.2.2⟩
       ·have hbn:(mm != 0)=true:=bne_iff_ne.mpr h0
        have HNO:=Ak (HLAW.out.1 (.inr (.inr (by rw [←HMM.out];exact h0))))
        clear h0 HLAW
        have HQW:=Ak ((HT8.out.keep.blk HQ.out (by have:=HGW.out;have:=HQN.out.2;omega) (by simp)))
        have HO:=Ak (OutR.of_Tr HT8.out HB0.out HGW.out)
        have HBYX:=Ak HT8.out.by_
        have hq0:=blk_cell HQW.out 0
        have hq1:=blk_cell HQW.out 1
        have hq2:=blk_cell HQW.out 2
        have hq3:=blk_cell HQW.out 3
        have hf0:=blk_frozen HQW.out 0
        have hf1:=blk_frozen HQW.out 1
        have hf2:=blk_frozen HQW.out 2
        have hf3:=blk_frozen HQW.out 3
        clear HT8
        go_wp2
        have HQ2:=blk_put (cs':=#[.string ⟨#[]⟩,.string ⟨#[]⟩,.slice none 0 0,.slice none 0 0]) (blk_put (cs':=#[.string ⟨#[]⟩,.string ⟨#[]⟩,.slice none 0 0,.slice none 0 0]) (blk_put (cs':=#[.string ⟨#[]⟩,.string ⟨#[]⟩,.slice none 0 0,.slice none 0 0]) (blk_put (cs':=#[.string ⟨#[]⟩,.string ⟨#[]⟩,.slice none 0 0,.slice none 0 0]) HQW.out 0 (.string ⟨#[]⟩) rfl) 1 (.string ⟨#[]⟩) rfl) 2 (.slice none 0 0) rfl) 3 (.slice none 0 0) rfl
        refine bodyPost_ret (results_ct rfl _ _ Q 29 _ (0,0) _ rfl HQ2 Tryz.underlying29 rfl (by kernel_rfl)) rfl ?_
        obtain ⟨lx,bx,hno⟩:=HNO.out
        have hx:=HX.out
        rw [hno] at hx
        simp only [Prod.mk.injEq] at hx
        obtain ⟨rfl,rfl,rfl,rfl⟩:=hx
        have ho:=(((HO.out.set HGW.out HP.out HQN.out.2 0 (.string ⟨#[]⟩)).set HGW.out HP.out HQN.out.2 1 (.string ⟨#[]⟩)).set HGW.out HP.out HQN.out.2 2 (.slice none 0 0)).set HGW.out HP.out HQN.out.2 3 (.slice none 0 0)
        unfold RefPost
        exact ⟨.slice none 0 0,.slice none 0 0,_,_,rfl,Kd.R_nil _ _ _ _ _,Kd.R_nil _ _ _ _ _,ho.1,HBYX.out,fun h=>absurd h (by decide),ho.2.1,ho.2.2⟩
end Go.Proofs.YtocpcnmnhckcpaaGreat.Num
namespace Go.Proofs.YtocpcnmnhckcpaaGreat.Prt
open RowKit YtocpcnmnhckcpaaGreatW.PrintWords YtocpcnmnhckcpaaGreatW.PrintLast YtocpcnmnhckcpaaGreatW.PrintMore YtocpcnmnhckcpaaGreat.Num YtocpcnmnhckcpaaGreat.Nam
def refT (l:List Int) (b:Bool):List ByteArray × List Int × Bool:=if numOf l < 0∨4 < numOf l then ([],[],true) else takeTs (numOf l).toNat (aft l) (badOf l b)
def refC (l:List Int) (b:Bool):S96 × List Int × Bool:=(⟨(refT l b).1,(refT (refT l b).2.1 (refT l b).2.2).1⟩,(refT (refT l b).2.1 (refT l b).2.2).2)
def refCs:Nat→List Int→Bool→List S96 × List Int × Bool
 | 0,l,b=>([],l,b)
 | n+1,l,b=>((refCs n l b).1++[(refC (refCs n l b).2.1 (refCs n l b).2.2).1],(refC (refCs n l b).2.1 (refCs n l b).2.2).2)
def cnt (x:Int):Nat:=min x.toNat 5
def refQ (l:List Int) (b:Bool):List S96 × Int × List Int × Bool:=
 if numOf l < 0∨(refCs (cnt (numOf l)) (aft l) (badOf l b)).2.2=true∨mayQ (refCs (cnt (numOf l)) (aft l) (badOf l b)).1≠0 then ([],2,(refCs (cnt (numOf l)) (aft l) (badOf l b)).2) else ((refCs (cnt (numOf l)) (aft l) (badOf l b)).1,0,(refCs (cnt (numOf l)) (aft l) (badOf l b)).2)
theorem refT_good {l:List Int} {b:Bool} (hb:isBytes l) (h:(refT l b).2.2=false):b=false∧l=encL (refT l b).1++(refT l b).2.1:=by
 unfold refT at h ⊢
 by_cases hc:numOf l < 0∨4 < numOf l
 ·rw [if_pos hc] at h;cases h
 ·rw [if_neg hc] at h ⊢
  obtain ⟨g1,g2⟩:=takeTs_good _ _ (aft_bytes hb) _ h
  obtain ⟨g3,g4,_⟩:=numOf_good hb g1
  refine ⟨g3,?_⟩
  unfold encL
  rw [takeTs_len,show (((numOf l).toNat:Nat):Int)=numOf l by omega,List.append_assoc,←g2];exact g4
theorem refT_left {l:List Int} {b:Bool} (hb:isBytes l):isBytes (refT l b).2.1∧(refT l b).2.1.length≤l.length∧(∀ x ∈ (refT l b).1,x.size≤l.length):=by
 unfold refT
 by_cases hc:numOf l < 0∨4 < numOf l
 ·rw [if_pos hc];exact ⟨fun c hc=>by simp at hc,Nat.zero_le _,fun x hx=>by simp at hx⟩
 ·rw [if_neg hc]
  obtain ⟨g1,g2,g3⟩:=takeTs_left (aft l) (badOf l b) (aft_bytes hb) (numOf l).toNat
  have h2:=aft_len l hb
  exact ⟨g1,Nat.le_trans g2 h2,fun x hx=>Nat.le_trans (g3 x hx) h2⟩
theorem refT_enc {a:List ByteArray} (h4:a.length≤4) (ha:∀ x ∈ a,x.size≤9223372036854775807) (r:List Int):refT (encL a++r) false=(a,r,false):=by
 obtain ⟨c1,c2,c3⟩:=numOf_enc (x:=(a.length:Int)) ⟨by omega,by omega⟩ (encTs a++r) false
 have d:=takeTs_enc a ha r false a.length (Nat.le_refl _)
 rw [List.take_length,List.drop_length] at d
 unfold refT encL
 rw [List.append_assoc,c1,c2,c3,if_neg (by omega),Int.toNat_natCast,d];rfl
theorem refC_good {l:List Int} {b:Bool} (hb:isBytes l) (h:(refC l b).2.2=false):b=false∧l=encC (refC l b).1++(refC l b).2.1:=by
 unfold refC at h ⊢
 obtain ⟨k1,k2⟩:=refT_good (refT_left (b:=b) hb).1 h
 obtain ⟨j1,j2⟩:=refT_good hb k1
 refine ⟨j1,?_⟩
 unfold encC
 simp only
 rw [List.append_assoc,←k2];exact j2
theorem refC_left {l:List Int} {b:Bool} (hb:isBytes l):isBytes (refC l b).2.1∧(refC l b).2.1.length≤l.length∧(∀ s ∈ (refC l b).1.f0,s.size≤l.length)∧(∀ s ∈ (refC l b).1.f1,s.size≤l.length):=by
 obtain ⟨h1,h2,h3⟩:=refT_left (b:=b) hb
 obtain ⟨g1,g2,g3⟩:=refT_left (b:=(refT l b).2.2) h1
 exact ⟨g1,Nat.le_trans g2 h2,h3,fun s hs=>Nat.le_trans (g3 s hs) h2⟩
theorem refC_enc {x:S96} (h:OkC x) (r:List Int):refC (encC x++r) false=(x,r,false):=by
 have f:=fitC_iff.1 h.fit
 have e:encC x++r=encL x.f0++(encL x.f1++r):=by unfold encC;rw [List.append_assoc]
 unfold refC
 rw [e,refT_enc h.h0 f.1]
 simp only
 rw [refT_enc h.h1 f.2]
theorem refCs_len (l:List Int) (b:Bool):∀ n,(refCs n l b).1.length=n
 | 0=>rfl
 | n+1=>by simp only [refCs,List.length_append,List.length_singleton,refCs_len l b n]
theorem refCs_left {l:List Int} {b:Bool} (hb:isBytes l):∀ n,isBytes (refCs n l b).2.1∧(refCs n l b).2.1.length≤l.length∧(∀ x ∈ (refCs n l b).1,(∀ s ∈ x.f0,s.size≤l.length)∧(∀ s ∈ x.f1,s.size≤l.length))
 | 0=>⟨hb,Nat.le_refl _,fun x hx=>by simp [refCs] at hx⟩
 | n+1=>by
  obtain ⟨h1,h2,h3⟩:=refCs_left (b:=b) hb n
  obtain ⟨g1,g2,g3,g4⟩:=refC_left (b:=(refCs n l b).2.2) h1
  refine ⟨g1,Nat.le_trans g2 h2,fun x hx=>?_⟩
  rw [refCs] at hx
  rcases List.mem_append.1 hx with hx | hx
  ·exact h3 x hx
  ·rw [List.mem_singleton.1 hx];exact ⟨fun s hs=>Nat.le_trans (g3 s hs) h2,fun s hs=>Nat.le_trans (g4 s hs) h2⟩
theorem refCs_good {l:List Int} {b:Bool} (hb:isBytes l):∀ n,(refCs n l b).2.2=false→b=false∧l=(refCs n l b).1.flatMap encC++(refCs n l b).2.1
 | 0,h=>⟨h,rfl⟩
 | n+1,h=>by
  rw [refCs] at h ⊢
  simp only at h ⊢
  obtain ⟨g1,g2⟩:=refC_good (refCs_left (b:=b) hb n).1 h
  obtain ⟨k1,k2⟩:=refCs_good hb n g1
  refine ⟨k1,?_⟩
  rw [List.flatMap_append,List.append_assoc,List.flatMap_singleton,←g2];exact k2
theorem refCs_enc {m:List S96} (h:∀ x ∈ m,OkC x) (r:List Int):∀ i,i≤m.length→refCs i (m.flatMap encC++r) false=(m.take i,(m.drop i).flatMap encC++r,false)
 | 0,_=>by simp [refCs]
 | i+1,hi=>by
  have ih:=refCs_enc h r i (by omega)
  have hd:m.drop i=m[i] :: m.drop (i+1):=List.drop_eq_getElem_cons (by omega)
  rw [refCs,ih]
  simp only
  rw [hd,List.flatMap_cons,List.append_assoc,refC_enc (h _ (List.getElem_mem _))]
  simp only
  rw [List.take_succ_eq_append_getElem (by omega)]
theorem refQ_good {l:List Int} {b:Bool} (hb:isBytes l) {q:List S96} {l':List Int} {b':Bool} (h:refQ l b=(q,0,l',b')):b=false∧b'=false∧OkQ q∧l=encQ q++l':=by
 unfold refQ at h
 split at h
 ·simp at h
 rename_i hc
 rw [not_or,not_or] at hc
 obtain ⟨h0,h1,h2⟩:=hc
 simp only [Prod.mk.injEq] at h
 obtain ⟨rfl,-,h3⟩:=h
 have e1:=congrArg (fun z=>z.1) h3
 have e2:=congrArg (fun z=>z.2) h3
 simp only at e1 e2
 subst e1;subst e2
 have h1':(refCs (cnt (numOf l)) (aft l) (badOf l b)).2.2=false:=by simpa using h1
 have ok:=mayQ_zero.1 (by simpa using h2:mayQ (refCs (cnt (numOf l)) (aft l) (badOf l b)).1=0)
 obtain ⟨g1,g2⟩:=refCs_good (aft_bytes hb) _ h1'
 obtain ⟨g3,g4,_⟩:=numOf_good hb g1
 refine ⟨g3,h1',ok,?_⟩
 have h4:=ok.h4
 rw [refCs_len] at h4
 unfold encQ
 rw [refCs_len,show ((cnt (numOf l):Nat):Int)=numOf l by unfold cnt at h4 ⊢;omega,List.append_assoc,←g2];exact g4
theorem refQ_enc {q:List S96} (h:OkQ q) (r:List Int):refQ (encQ q++r) false=(q,0,r,false):=by
 have h4:=h.h4
 obtain ⟨c1,c2,c3⟩:=numOf_enc (x:=(q.length:Int)) ⟨by omega,by omega⟩ (q.flatMap encC++r) false
 have d:=refCs_enc h.hc r q.length (Nat.le_refl _)
 rw [List.take_length,List.drop_length] at d
 unfold refQ encQ
 rw [List.append_assoc,c1,c2,c3,show cnt (q.length:Int)=q.length by unfold cnt;omega,d]
 simp only
 rw [if_neg (by rw [mayQ_zero.2 h];simp only [ne_eq,not_true_eq_false,or_false];rintro (h | h);(· omega);· cases h)]
 rfl
theorem refQ_code (l:List Int) (b:Bool):(refQ l b).2.1=0∨(refQ l b).2.1=2∧(refQ l b).1=[]:=by
 unfold refQ
 split
 ·exact .inr ⟨rfl,rfl⟩
 ·exact .inl rfl
structure Lw (w w':World) (P:Nat→Prop) (g:Nat) (n:Nat) (q:List Int × Bool):Prop where
 rd:Rd 60 P w' g q.1 q.2
 by_:isBytes q.1
 len:q.1.length≤n
 below:Below g w w'
 keep:KeepBut w w' g none
theorem Lw.trans {w w1 w2:World} {P:Nat→Prop} {g n n1:Nat} {q q1:List Int × Bool} (h:Lw w w1 P g n q) (k:Lw w1 w2 P g n1 q1) (hn:n1≤n):Lw w w2 P g n q1:=⟨k.rd,k.by_,Nat.le_trans k.len hn,h.below.trans k.below,h.keep.trans k.keep (.inl rfl)⟩
theorem Lw.up {w w1 w2:World} {P:Nat→Prop} {g n:Nat} {q:List Int × Bool} (h:Lw w w1 P g n q) (hb:Below w1.heap.size w1 w2):Lw w w2 P g n q:=⟨h.rd.below hb,h.by_,h.len,h.below.trans (hb.mono (Nat.le_of_lt h.rd.lt)),h.keep.trans (KeepBut.of_below hb g none) (.inl rfl)⟩
theorem Lw.set {w w1:World} {P:Nat→Prop} {g n:Nat} {q:List Int × Bool} (h:Lw w w1 P g n q) (hg:g < w.heap.size) (hP:∀ k,P k→k < w.heap.size) {Q:Nat} (hQ:w.heap.size≤Q) (i:Nat) (u:Value):Lw w (w1.setCell ⟨Q,i,none⟩ u) P g n q:=
 ⟨h.rd.kept ((KeepBut.refl w1 Q none).set_ i _) (by omega) (fun hp=>by have:=hP Q hp;omega),h.by_,h.len,h.below.setCell (p:=⟨Q,i,none⟩) (by show g≤Q;omega) _,keep_far h.keep hQ _⟩
theorem Lw.grown {w w1 w2:World} {P:Nat→Prop} {g n:Nat} {q:List Int × Bool} {v:Value} (h:Lw w w1 P g n q) (hg:g < w.heap.size) (hP:∀ k,P k→k < w.heap.size) (hgr:w1.grownBy w2 v.ownBlock) (hv:∀ k,v.ownBlock=some k→w.heap.size≤k) (hb:Below g w w2):Lw w w2 P g n q:=by
 refine ⟨h.rd.grown hgr (ne_base hv hg) (fun k hk=>ne_base hv (hP k hk)),h.by_,h.len,hb,?_⟩
 refine ⟨Nat.le_trans h.keep.1 hgr.size,fun i hi hne hr=>?_⟩
 rw [←h.keep.2 i hi hne hr]
 exact hgr.block i (Nat.lt_of_lt_of_le hi h.keep.1) (fun e=>by have:=hv i e.symm;omega)
set_option maxRecDepth 100000 in
theorem refTaken_calls (P:Nat→Prop) (w:World) (g:Nat) (l:List Int) (bad:Bool) (hI:Rd 60 P w g l bad) (hb:isBytes l) (hP:∀ k,P k→k < w.heap.size) (r:List ByteArray × List Int × Bool) (hr:refT l bad=r) :
  Calls Tryz.prog 61 #[.pointer (some ⟨g,0,none⟩),.int .i64 4] w fun e w'=>∃ v,e = .returned v∧Kd.string.R 9 w' w.heap.size (fun _=>True) v r.1∧Lw w w' P g l.length r.2:=by
 obtain ⟨x,hx⟩:∃ x,numOf l=x:=⟨_,rfl⟩
 have hri:=numOf_i64 hb
 rw [hx] at hri
 obtain ⟨hr1,hr2⟩:=hri
 unfold refT at hr
 rw [hx] at hr
 have HN:=Ak (refNum_calls' x P w g l bad hI hb hx)
 have HAB:=Ak (And.intro (aft_bytes hb) (aft_len l hb))
 have HPP:=Ak hP
 have HGW:=Ak hI.lt
 have HR:=Ak hr
 have HL:=Ak (Below.refl w.heap.size w)
 clear hI hb hx hP hr
 go_enter Tryz.func61,Tryz.ntmps61
 go_wp2_with fail
 refine HN.out.mono ?_
 rintro e w1 ⟨rfl,hI1,hb1,hk1⟩
 have HL1:=Ak (Lw.mk (n:=l.length) (q:=(aft l,badOf l bad)) hI1 HAB.out.1 HAB.out.2 hb1 hk1)
 have HB:=Ak (Below.refl w1.heap.size w1)
 clear hI1 hb1 hk1 HN HL
 go_upto_region 3 with (((with_reducible refine gate_dst (N:=10) rfl ?_);refine Kd.R_lit Kd.string (w0:=w1) w1.heap.size 9 ?hg (N:=10) ?hd (xs:=[]) (inner:=[]) (ok:=fun _=>True) (okp:=fun _=>True) ?hr ?hp (fun _ hk=>hk) trivial ?hB ?hS (by simp) ?_;(case hd=>rfl);(case hg=>rfl);(case hr=>(go_simp;done));(case hp=>exact (Reps.none _ _));(case hB=>exact HB.out);(case hS=>exact (below_size HB.out));intro v2 w2 ho hb hg hat;have n0_:=Ak (hb);have n1_:=Ak (ho);clear HB;have HB:=n0_;have HO2:=n1_;clear n0_ n1_;clear ho hb hg hat))
 have n1_:=Ak (HL1.out.up HB.out)
 have n2_:=Ak (Kd.R_lower HO2.out HL1.out.keep.1)
 clear HL1 HO2 HB
 have HL2:=n1_
 have HO2:=n2_
 clear n1_ n2_
 by_cases hneg:x < 0
 ·have hd:decide (x < 0)=true:=decide_eq_true hneg
  obtain ⟨A',c',hblk,_,_,_,hPg⟩:=HL2.out.rd
  have HBK:=Ak hblk
  have HPG:=Ak hPg
  have hc0:=blk_cell hblk 0
  have hc1:=blk_cell hblk 1
  have hf0:=blk_frozen hblk 0
  have hf1:=blk_frozen hblk 1
  clear hblk hPg
  go_wp2
  go_ret
  rw [←HR.out,if_pos (.inl hneg)]
  have h2:=blk_set (blk_set HBK.out 1 (.bool true)) 0 (.slice none 0 0)
  refine ⟨_,rfl,R_set (R_set HO2.out HBK.out (by decide) 1 _) (blk_set HBK.out 1 _) (by decide) 0 _,?_⟩
  exact ⟨⟨none,0,by simpa using h2,Nat.le_refl _,Kd.C_nil _ _,(fun _ h _=>by cases h),HPG.out⟩,fun c hc=>by simp at hc,Nat.zero_le _,(HL2.out.below.setCell (p:=⟨g,1,none⟩) (Nat.le_refl g) _).setCell (p:=⟨g,0,none⟩) (Nat.le_refl g) _,(HL2.out.keep.set_ 1 _).set_ 0 _⟩
 have hd:decide (x < 0)=false:=decide_eq_false hneg
 by_cases hbig:4 < x
 ·have hd2:decide ((4:Int) < x)=true:=decide_eq_true hbig
  obtain ⟨A',c',hblk,_,_,_,hPg⟩:=HL2.out.rd
  have HBK:=Ak hblk
  have HPG:=Ak hPg
  have hc0:=blk_cell hblk 0
  have hc1:=blk_cell hblk 1
  have hf0:=blk_frozen hblk 0
  have hf1:=blk_frozen hblk 1
  clear hblk hPg
  go_wp2
  go_ret
  rw [←HR.out,if_pos (.inr hbig)]
  have h2:=blk_set (blk_set HBK.out 1 (.bool true)) 0 (.slice none 0 0)
  refine ⟨_,rfl,R_set (R_set HO2.out HBK.out (by decide) 1 _) (blk_set HBK.out 1 _) (by decide) 0 _,?_⟩
  exact ⟨⟨none,0,by simpa using h2,Nat.le_refl _,Kd.C_nil _ _,(fun _ h _=>by cases h),HPG.out⟩,fun c hc=>by simp at hc,Nat.zero_le _,(HL2.out.below.setCell (p:=⟨g,1,none⟩) (Nat.le_refl g) _).setCell (p:=⟨g,0,none⟩) (Nat.le_refl g) _,(HL2.out.keep.set_ 1 _).set_ 0 _⟩
 have hd2:decide ((4:Int) < x)=false:=decide_eq_false hbig
 obtain ⟨n,rfl⟩:=Int.eq_ofNat_of_zero_le (Int.not_lt.1 hneg)
 have HR2:=Ak ((if_neg (by omega:¬((n:Int) < 0∨4 < (n:Int)))).symm.trans HR.out)
 rw [Int.toNat_natCast] at HR2
 clear HR
 go_wp2
 go_loopg [6,7] n (fun k v6 v7 w'=>∃ i:Nat,v7 = .int .i64 (i:Int)∧Aside0 (i+k=n)∧Aside0 (Kd.string.R 9 w' w.heap.size (fun _=>True) v6 (takeTs i (aft l) (badOf l bad)).1)∧Aside0 (Lw w w' P g l.length (takeTs i (aft l) (badOf l bad)).2))
 case atStart=>exact ⟨0,rfl,⟨by omega⟩,HO2,HL2⟩
 case round=>
  clear HO2 HL2
  obtain ⟨i,rfl,HE,HO,HL⟩:=hrel
  by_cases hlt:i < n
  ·have hb1:decide ((i:Int) < (n:Int))=true:=decide_eq_true (by omega)
   have HLEN:=Ak (takeTs_len (aft l) (badOf l bad) i)
   obtain ⟨⟨tags,l1,b1⟩,hq⟩:∃ q,takeTs i (aft l) (badOf l bad)=q:=⟨_,rfl⟩
   rw [hq] at HO HL HLEN
   have HQ:=Ak (show takeTs (i+1) (aft l) (badOf l bad)=(tags++[textOf l1],aftT l1,badT l1 b1) by rw [takeTs,hq])
   have hlen:tags.length≤1000:=by have:=HLEN.out;simp only at this;omega
   obtain ⟨A6,c6,e6⟩:=Kd.R_slice HO.out
   subst e6
   have HT:=Ak (refText_calls P wr g l1 b1 HL.out.rd HL.out.by_)
   have HBY:=Ak (And.intro (aftT_bytes HL.out.by_) (aftT_len l1 HL.out.by_))
   obtain ⟨y,hy⟩:∃ y,textOf l1=y:=⟨_,rfl⟩
   rw [hy] at HQ HT
   clear hq hy HLEN
   go_wp2_with fail
   refine HT.out.mono ?_
   rintro e w2 ⟨rfl,hI,hb,hk⟩
   have HL2:=Ak (HL.out.trans (Lw.mk (n:=l1.length) (q:=(aftT l1,badT l1 b1)) hI HBY.out.1 HBY.out.2 hb hk) HL.out.len)
   have HO2:=Ak (R_off' HO.out HGW.out hk)
   clear hI hb hk HL HO HT
   go_wp2_with (((with_reducible refine gate_builtin (b:=.append) (xs:=#[.tmp 30,.tmp 33]) rfl ?_);at_builtin;refine Kd.R_append Kd.string (w0:=w2) w.heap.size rfl (.tmp 30) (.tmp 33) 26 9 (.string ⟨#[]⟩) 16 rfl Tryz.underlying26 info_str rfl (by decide) (by omega) (.slice A6 tags.length c6) tags y [.string y] (fun _=>True) (fun _=>False) rfl rfl rfl (fun _ hk=>hk.elim) (fun _ _=>trivial) HO2.out (Below.refl _ _) HL2.out.keep.1 (by omega) ?_;intro v w5 ho hb hg hat;have HO5:=Ak ho;have HL5:=Ak (HL2.out.grown HGW.out HPP.out hg (Kd.R_base HO2.out) (HL2.out.below.trans (hb.mono (Nat.le_of_lt HGW.out))));clear ho hb hg hat))
   go_roundg (n - (i+1))
   case measure=>have:=HE.out;omega
   case rel=>exact ⟨i+1,by go_num,⟨by have:=HE.out;omega⟩,⟨by rw [HQ.out];exact HO5.out⟩,⟨by rw [HQ.out];exact HL5.out⟩⟩
  ·have hb1:decide ((i:Int) < (n:Int))=false:=decide_eq_false (by omega)
   have hi:i=n:=by have:=HE.out;omega
   subst hi
   go_wp2
   go_ret
   rw [←HR2.out]
   exact ⟨_,rfl,HO.out,HL.out⟩
end Go.Proofs.YtocpcnmnhckcpaaGreat.Prt
