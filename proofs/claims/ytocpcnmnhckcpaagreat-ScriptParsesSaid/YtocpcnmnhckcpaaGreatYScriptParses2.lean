/- The common imports of the walks of this seat; no theorem. General lemmas for the walks: make with a capacity of its own. Numbers and texts as bytes: the plain functions (no program in sight). Strings and lists of bytes. Walks of package num: the functions that lay numbers down. The reference's text behind bytes: its walk. Walks of package num and of its reference: the readers. Walks of package num and of its reference: texts taken. Functions of the program, told as plain functions, with their walks: written by a program of this claim's out of the translation. Names as lists of bytes: what is a name, and what runes Go's decoder makes of its bytes; what the reference's functions come to. DERIVED: THE SHELF's CONTRACTS AT THIS DUMP, IN PLAIN WORDS (tools/lay-plain.mjs out of 'TryzShelf.lean', which tools/lay-shelf.mjs wrote): THE SAME DECLARATIONS UNDER THE SAME NAMES: 'import', 'namespace', 'open', 'def', 'theorem' AND NOTHING ELSE: no command of the shelf's: FOR A HAND-IN. Each laying: the table of numbers ('.._ren') and one theorem, a field a fact of the dump's own or the kernel's comparison; each contract: ONE APPLICATION. Whether a text is a name, or a tag: what the program's functions answer. Predicates over rows: plain laws. Rows of texts that rise; tags. The contracts of numbers and texts as bytes, in the form that the printed functions ask. Texts as bytes, one behind the other. The reference's names, in closed form. The reference's tags, in closed form. The reference's rows of texts: they rise, they are the same: in closed form. What readers take, in plain words; rows beside a reader. bytes.Equal. -/
import Derived.Test.YtocpcnmnhckcpaaGreatProg
import Derived.Below
import Derived.Deep.Draws
import Derived.Deep.AppendLies
import Derived.Maps.AppendAt
import Derived.OwnWalk
import Derived.Laws.BytesArg
import Derived.Laws.MakeOwn
import Derived.Laws.OwnMore
import Derived.Deep.OwnRows
import Derived.Tactics
import Derived.Lib.ConvBytes
import Derived.Laws.Slices
import Derived.WalkKit
import Derived.KernelRfl
import Derived.RowKit3
import Derived.Deep.LoopGhost
import Derived.Deep.QuietTactic
import Derived.BigQuiet
import Derived.WideLaws
import Derived.Deep.DeepCutAuto
import Derived.Deep.CutBlock
import Derived.Deep.RegionHeld3
import Derived.Laws.Rows
import Derived.Lib.AppendStr
import Derived.ArgAppend
import Derived.Laws.IdiomCopy
import Derived.OrdersHeld
import Derived.Laws.BitsLemmas
import Derived.RowKit
import Derived.Outline
import Derived.Laws.BitsAllLaws
import Derived.Laws.StructEq
import Derived.Laws.Cover1
import Derived.Shelf.Strings.Builder1
import Derived.Shelf.Small.Strs
import Derived.Shelf.Strings.BuilderF
import Derived.Shelf.Strings.BuilderK
import Derived.Shelf.Strings.Search1
import Derived.Shelf.Strings.Search2
import Derived.Shelf.Strings.Search3
import Derived.Shelf.Strings.Cut
import Derived.Shelf.Strings.Count
import Derived.Shelf.LaysM
import Derived.Shelf.Strings.Shaped
import Derived.Shelf.Strings.Split
import Derived.Shelf.Strings.RuneCount
import Derived.Shelf.Strings.BuilderCap
import Derived.Ground.Names2Prog
import Derived.Shelf.Slices.Clone
import Derived.Shelf.Slices.CompactS
import Derived.Shelf.Slices.Cells
import Derived.Shelf.Bytes.SlEqualAll
import Derived.Shelf.Bytes.Small
import Derived.Lib.OthersKept
import Derived.Shelf.Abstract
import Derived.Test.YtocpcnmnhckcpaaGreatYScriptParses1
set_option linter.unusedVariables false
set_option linter.unusedSimpArgs false
namespace Go.Proofs.YtocpcnmnhckcpaaGreat.Gen
open RowKit YtocpcnmnhckcpaaGreatW.PrintWords YtocpcnmnhckcpaaGreatW.PrintLast YtocpcnmnhckcpaaGreatW.PrintMore
section
variable {P : Program} {ops : Array Oper} {rest : List Oper} {o : Oper} {a : Act} {Q : Exit → Act → World → Prop} {α : Type}
theorem R_makeCap (d:Kd α) {w0 W:World} (base e:Nat) (hgd:o.guard=none) (t:TypeId) (x y:Operand) (ho:o.op = .makeSlice t x y) (n c:Int) (hx:a.eval x = .int .i64 n) (hy:a.eval y = .int .i64 c)
  (ht:P.underlying t=some (.slice e)) (z:Value) (bytes:Nat) (hinfo:(P.info? e).map (fun i=>(i.zero,i.size,i.bytes))=some (some z,d.sz,bytes)) (hz:z.cells.size=d.sz) (hs0:0 < d.sz) (hb0:0 < bytes)
  (z0:α) (hzero:∀ W' base' ok',d.M W' base' ok' z0 z.cells.toList) (h0:0≤n) (hnc:n≤c) (hl:c.toNat * bytes≤281474976710656) (HB:Below base w0 W) (hbase:base≤W.heap.size)
  (h:∀ v1 w1,d.R e w1 W.heap.size (fun _=>True) v1 (List.replicate n.toNat z0)→Below base w0 w1→W.grownBy w1 none→(∃ b,v1.ownBlock=some b∧W.heap.size≤b)→wpList P ops Q rest (a.put o.dst v1) w1):wpList P ops Q (o :: rest) a W:=by
 obtain ⟨m,rfl⟩:=Int.eq_ofNat_of_zero_le h0
 obtain ⟨k,rfl⟩:=Int.eq_ofNat_of_zero_le (Int.le_trans h0 hnc)
 simp only [Int.toNat_natCast] at hl h
 have hmk:m≤k:=by omega
 obtain ⟨i0,hi,hzz⟩:=Option.map_eq_some_iff.1 hinfo
 simp only [Prod.mk.injEq] at hzz
 obtain ⟨hz0,hz1,hz2⟩:=hzz
 have hm:k≤281474976710656:=Nat.le_trans (Nat.le_mul_of_pos_right _ hb0) hl
 have hr:=run_make (P:=P) W t e i0 z ht hi hz0 .i64 .i64 (m:Int) (k:Int) (by omega) (by omega)
  (by
   have h3:((i0.bytes * k:Nat):Int)≤281474976710656:=by rw [hz2,Nat.mul_comm];omega
   rwa [Int.natCast_mul] at h3) (by omega)
 simp only [Int.toNat_natCast] at hr
 rw [hz1] at hr
 refine Kd.event_run hgd (by simp [execOp,ho,hx,hy,hr];exact ⟨rfl,rfl⟩) (h _ _ ⟨fun _ _=>trivial,(madeCells z.cells (m * d.sz)).toList,?_,?_⟩ (HB.alloc hbase _) (World.grownBy_alloc W _ none) ⟨W.heap.size,by simp [Value.ownBlock],Nat.le_refl _⟩)
 ·rw [List.length_replicate]
  refine ⟨by simp [size_madeCells],.inr ⟨W.heap.size,k,madeCells z.cells (k * d.sz),rfl,Nat.le_refl _,heap_alloc_new W _,hmk,by simp only [maxLen];omega,size_madeCells _ _,?_⟩⟩
  have hle:m * d.sz≤k * d.sz:=Nat.mul_le_mul_right _ hmk
  apply List.ext_getElem
  ·simp only [List.length_take,Array.length_toList,size_madeCells];omega
  ·intro i h1 h2
   simp [madeCells]
 ·exact Kd.reps_made hz hs0 (hzero _ _ _) m
theorem R_append_str {w0 W:World} (base:Nat) (hgd:o.guard=none) (s x:Operand) (t u e:TypeId)
  (ho:o.op = .call { callee:=.builtin .append,args:=#[s,x],argTypes:=#[t,u] })
  (ht:P.underlying t=some (.slice e)) (hu:P.underlying u=some .string) (hinfo:(P.info? e).map (fun i=>(i.zero,i.size,i.bytes))=some (some (.int .u8 0),1,1))
  (v:Value) (xs:List Int) (y:ByteArray) (hs:a.eval s=v) (hx:a.eval x = .string y)
  (HO:(Kd.int .u8).R e W base (fun _=>True) v xs) (HB:Below base w0 W) (hbase:base≤W.heap.size) (hl:xs.length+y.size≤140737488355328)
  (h:∀ v1 w1,(Kd.int .u8).R e w1 base (fun _=>True) v1 (xs++bytesOf y)→Below base w0 w1→W.grownBy w1 v.ownBlock→wpList P ops Q rest (a.put o.dst v1) w1) :
  wpList P ops Q (o :: rest) a W:=
 print_append_str base hgd s x t u e ho ht hu hinfo v xs y hs hx (Kd.own_of_R HO) HB hbase hl (fun v1 w1 hw hb hg=>h v1 w1 (Kd.R_of_own hw (fun _ _=>trivial)) hb hg)
theorem ev_bytes {w0 W:World} (base:Nat) (hgd:o.guard=none) (src dst e:TypeId) (x:Operand) (ho:o.op = .convert src dst x) (hs:P.underlying src=some .string) (hd:P.underlying dst=some (.slice e)) (he:P.underlying e=some (.int .u8))
  (s:ByteArray) (hx:a.eval x = .string s) (hn:s.size≤9223372036854775807) (HB:Below base w0 W) (hbase:base≤W.heap.size)
  (h:∀ A c w1,(Kd.int .u8).C w1 A s.size (bytesOf s)→s.size≤c→Below base w0 w1→Below W.heap.size W w1→wpList P ops Q rest (a.put o.dst (.slice A s.size c)) w1) :
  wpList P ops Q (o :: rest) a W:=by
 refine Kd.event_run hgd (v:=.slice (some ⟨W.heap.size,0,none⟩) s.size (grownCap W s.size 0 e)) (w1:=Lib.bytesWorld W e s) ?_ (h _ _ _ (Kd.C_of_reads (d:=(0:Int)) (h1:=fun _=>rfl) (bytes_reads W e s hn)) ?_ (bytes_below HB hbase e s) (bytes_below (Below.refl _ _) (Nat.le_refl _) e s))
 ·have hr:=print_bytes (P:=P) src dst e hs hd he s W
  simp [execOp,ho,hx,hr]
 ·exact grownCap_ge W s.size 0 e
theorem ev_string {W:World} (hgd:o.guard=none) (src dst e:TypeId) (x:Operand) (ho:o.op = .convert src dst x) (hs:P.underlying src=some (.slice e)) (hd:P.underlying dst=some .string) (he:P.underlying e=some (.int .u8))
  {A:Option Addr} {n c:Nat} {xs:List Int} (hx:a.eval x = .slice A n c) (HR:(Kd.int .u8).C W A n xs)
  (h:wpList P ops Q rest (a.put o.dst (.string (strOfNums xs))) W) :
  wpList P ops Q (o :: rest) a W:=by
 refine Kd.event_run hgd (v:=.string (strOfNums xs)) (w1:=W) ?_ h
 have hr:=Kd.C_string (P:=P) (c:=c) hs he hd HR
 simp [execOp,ho,hx,hr]
theorem ev_string' {W:World} (s:ByteArray) (hgd:o.guard=none) (src dst e:TypeId) (x:Operand) (ho:o.op = .convert src dst x) (hs:P.underlying src=some (.slice e)) (hd:P.underlying dst=some .string) (he:P.underlying e=some (.int .u8))
  {A:Option Addr} {n c:Nat} {xs:List Int} (hx:a.eval x = .slice A n c) (HR:(Kd.int .u8).C W A n xs) (hS:strOfNums xs=s)
  (h:wpList P ops Q rest (a.put o.dst (.string s)) W) :
  wpList P ops Q (o :: rest) a W:=by
 subst hS;exact ev_string hgd src dst e x ho hs hd he hx HR h
end
end Go.Proofs.YtocpcnmnhckcpaaGreat.Gen
namespace Go.Proofs.YtocpcnmnhckcpaaGreat.Num
def encN (u:Nat):List Int:=if h:u < 128 then [(u:Int)] else ((u % 128+128:Nat):Int) :: encN (u / 128)
termination_by u
decreasing_by omega
def zz (x:Int):Nat:=if x < 0 then (2 * (-(x+1))+1).toNat else (2 * x).toNat
def unzz (u:Nat):Int:=if u % 2=1 then -((u / 2:Nat):Int) - 1 else ((u / 2:Nat):Int)
def enc (x:Int):List Int:=encN (zz x)
def encT (s:List Int):List Int:=enc s.length++s
def decU:Nat→List Int→Option (Nat × List Int)
 | _,[]=>none
 | i,c :: r=>if 10≤i then none else if 128≤c then (decU (i+1) r).bind fun q=>some (q.1 * 128+(c - 128).toNat,q.2) else if c=0∧0 < i∨i=9∧1 < c then none else some (c.toNat,r)
def dec (b:List Int):Option (Int × List Int):=(decU 0 b).bind fun q=>some (unzz q.1,q.2)
def decT (b:List Int):Option (List Int × List Int):=(dec b).bind fun q=>if q.1 < 0∨(q.2.length:Int) < q.1 then none else some (q.2.take q.1.toNat,q.2.drop q.1.toNat)
def isBytes (b:List Int):Prop:=∀ c ∈ b,0≤c∧c < 256
theorem encN_lt {u:Nat} (h:u < 128):encN u=[(u:Int)]:=by rw [encN,dif_pos h]
theorem encN_ge {u:Nat} (h:128≤u):encN u=((u % 128+128:Nat):Int) :: encN (u / 128):=by rw [encN,dif_neg (by omega)]
theorem encN_pos (u:Nat):1≤(encN u).length:=by
 by_cases h:u < 128
 ·rw [encN_lt h];simp
 ·rw [encN_ge (by omega)];simp
theorem encN_len (n:Nat):∀ u,u < 128 ^ (n+1)→(encN u).length≤n+1:=by
 induction n with
 | zero=>intro u hu;rw [encN_lt (by simpa using hu)];simp
 | succ n ih=>
  intro u hu
  by_cases h:u < 128
  ·rw [encN_lt h];simp
  ·rw [encN_ge (by omega)]
   have:=ih (u / 128) (by rw [Nat.div_lt_iff_lt_mul (by decide)];rw [Nat.pow_succ] at hu;exact hu)
   simp only [List.length_cons];omega
theorem encN_len10 {u:Nat} (h:u < 18446744073709551616):(encN u).length≤10:=encN_len 9 u (Nat.lt_of_lt_of_le h (by decide))
theorem encN_bytes:∀ u,isBytes (encN u):=by
 intro u
 induction u using Nat.strongRecOn with
 | ind u ih=>
  by_cases hu:u < 128
  ·rw [encN_lt hu];intro c hc;rw [List.mem_singleton.1 hc];omega
  ·rw [encN_ge (by omega)]
   intro c hc
   rcases List.mem_cons.1 hc with rfl | hc
   ·omega
   ·exact ih _ (by omega) c hc
theorem decU_enc:∀ (u i:Nat) (r:List Int),i < 10→u < 2 * 128 ^ (9 - i)→(i=0∨0 < u)→decU i (encN u++r)=some (u,r):=by
 intro u
 induction u using Nat.strongRecOn with
 | ind u ih=>
  intro i r hi hu h0
  by_cases h:u < 128
  ·rw [encN_lt h,List.singleton_append,decU,if_neg (by omega),if_neg (by omega),if_neg ?_]
   ·simp
   ·rintro (⟨h1,h2⟩ | ⟨rfl,h2⟩)
    ·omega
    ·simp at hu;omega
  ·have hi9:i≤8:=by
    rcases Nat.lt_or_ge i 9 with h1 | h1
    ·omega
    ·obtain rfl:i=9:=by omega
     simp at hu;omega
   rw [encN_ge (by omega),List.cons_append,decU,if_neg (by omega),if_pos (by omega),ih (u / 128) (by omega) (i+1) r (by omega) ?_ (.inr (by omega))]
   ·simp only [Option.bind_some,Option.some.injEq,Prod.mk.injEq,and_true];omega
   ·have e:9 - i=(9 - (i+1))+1:=by omega
    rw [e,Nat.pow_succ] at hu
    omega
theorem decU_sound:∀ (b:List Int) (i u:Nat) (r:List Int),isBytes b→decU i b=some (u,r)→b=encN u++r∧i < 10∧u < 2 * 128 ^ (9 - i)∧(i=0∨0 < u):=by
 intro b
 induction b with
 | nil=>intro i u r _ h;simp [decU] at h
 | cons c b ih=>
  intro i u r hb h
  have hc:=hb c List.mem_cons_self
  have hb':isBytes b:=fun x hx=>hb x (List.mem_cons_of_mem _ hx)
  rw [decU] at h
  by_cases h1:10≤i
  ·rw [if_pos h1] at h;simp at h
  rw [if_neg h1] at h
  by_cases h2:128≤c
  ·rw [if_pos h2] at h
   obtain ⟨⟨v,r'⟩,hq,he⟩:=Option.bind_eq_some_iff.1 h
   simp only [Option.some.injEq,Prod.mk.injEq] at he
   obtain ⟨rfl,rfl⟩:=he
   obtain ⟨g1,g2,g3,g4⟩:=ih (i+1) v r' hb' hq
   have hv:0 < v:=by omega
   have hv2:v < 2 * 128 ^ (9 - (i+1)):=g3
   have e:9 - i=(9 - (i+1))+1:=by omega
   refine ⟨?_,by omega,?_,.inr (by omega)⟩
   ·rw [encN_ge (by omega),g1]
    have h3:(v * 128+(c - 128).toNat) / 128=v:=by omega
    have h4:(((v * 128+(c - 128).toNat) % 128+128:Nat):Int)=c:=by omega
    rw [h3,h4];simp
   ·rw [e,Nat.pow_succ];omega
  ·rw [if_neg h2] at h
   by_cases h3:c=0∧0 < i∨i=9∧1 < c
   ·rw [if_pos h3] at h;simp at h
   ·rw [if_neg h3] at h
    simp only [Option.some.injEq,Prod.mk.injEq] at h
    obtain ⟨rfl,rfl⟩:=h
    refine ⟨?_,by omega,?_,by omega⟩
    ·rw [encN_lt (by omega)];simp;omega
    ·rcases Nat.lt_or_ge i 9 with h5 | h5
     ·have e:9 - i=(8 - i)+1:=by omega
      have hp:1≤128 ^ (8 - i):=Nat.pos_of_ne_zero (by simp)
      rw [e,Nat.pow_succ];omega
     ·obtain rfl:i=9:=by omega
      simp;omega
theorem zz_lt {x:Int} (h1 : -9223372036854775808≤x) (h2:x≤9223372036854775807):zz x < 18446744073709551616:=by unfold zz;split <;> omega
theorem unzz_zz (x:Int):unzz (zz x)=x:=by
 unfold unzz zz
 split <;> split <;> omega
theorem zz_unzz (u:Nat):zz (unzz u)=u:=by
 unfold unzz zz
 split <;> split <;> omega
theorem unzz_range {u:Nat} (h:u < 18446744073709551616) : -9223372036854775808≤unzz u∧unzz u≤9223372036854775807:=by unfold unzz;split <;> omega
def i64 (x:Int):Prop:=-9223372036854775808≤x∧x≤9223372036854775807
theorem enc_len {x:Int} (h:i64 x):(enc x).length≤10:=encN_len10 (zz_lt h.1 h.2)
theorem enc_pos (x:Int):1≤(enc x).length:=encN_pos _
theorem enc_bytes (x:Int):isBytes (enc x):=encN_bytes _
theorem dec_enc {x:Int} (h:i64 x) (r:List Int):dec (enc x++r)=some (x,r):=by
 unfold dec enc
 rw [decU_enc (zz x) 0 r (by omega) (Nat.lt_of_lt_of_le (zz_lt h.1 h.2) (by decide)) (.inl rfl)]
 simp [unzz_zz]
theorem dec_sound {b r:List Int} {x:Int} (hb:isBytes b) (h:dec b=some (x,r)):b=enc x++r∧i64 x:=by
 unfold dec at h
 obtain ⟨⟨u,r'⟩,hq,he⟩:=Option.bind_eq_some_iff.1 h
 simp only [Option.some.injEq,Prod.mk.injEq] at he
 obtain ⟨rfl,rfl⟩:=he
 obtain ⟨g1,_,g3,_⟩:=decU_sound b 0 u r' hb hq
 refine ⟨by unfold enc;rw [zz_unzz];exact g1,unzz_range (Nat.lt_of_lt_of_le g3 (by decide))⟩
theorem isBytes_append {a b:List Int}:isBytes (a++b)↔isBytes a∧isBytes b:=by
 unfold isBytes
 constructor
 ·exact fun h=>⟨fun c hc=>h c (List.mem_append_left _ hc),fun c hc=>h c (List.mem_append_right _ hc)⟩
 ·rintro ⟨h1,h2⟩ c hc
  rcases List.mem_append.1 hc with hc | hc
  ·exact h1 c hc
  ·exact h2 c hc
theorem decT_encT {s:List Int} (hs:s.length≤9223372036854775807) (r:List Int):decT (encT s++r)=some (s,r):=by
 unfold decT encT
 rw [List.append_assoc,dec_enc ⟨by omega,by omega⟩]
 simp only [Option.bind_some]
 rw [if_neg (by simp;omega)]
 simp
theorem decT_sound {b s r:List Int} (hb:isBytes b) (h:decT b=some (s,r)):b=encT s++r∧s.length≤9223372036854775807:=by
 unfold decT at h
 obtain ⟨⟨n,r'⟩,hq,he⟩:=Option.bind_eq_some_iff.1 h
 obtain ⟨g1,g2,g3⟩:=dec_sound hb hq
 simp only at he
 by_cases h1:n < 0∨(r'.length:Int) < n
 ·rw [if_pos h1] at he;simp at he
 ·rw [if_neg h1] at he
  simp only [Option.some.injEq,Prod.mk.injEq] at he
  obtain ⟨rfl,rfl⟩:=he
  have hl:(r'.take n.toNat).length=n.toNat:=by rw [List.length_take];omega
  refine ⟨?_,by omega⟩
  unfold encT
  rw [hl,List.append_assoc,List.take_append_drop,g1]
  congr 2;omega
theorem xor_ones (a:Nat) (h:a < 18446744073709551616):a ^^^ 18446744073709551615=18446744073709551615 - a:=by
 have h1:18446744073709551615=2 ^ 64 - 1:=by decide
 apply Nat.eq_of_testBit_eq
 intro i
 rw [Nat.testBit_xor,h1,Nat.testBit_two_pow_sub_one,show 2 ^ 64 - 1 - a=2 ^ 64 - (a+1) from by omega,Nat.testBit_two_pow_sub_succ (by simpa using h)]
 by_cases hi:i < 64
 ·simp [hi]
 ·have:a.testBit i=false:=Nat.testBit_lt_two_pow (Nat.lt_of_lt_of_le h (by
   have:=Nat.pow_le_pow_right (n:=2) (by decide) (show 64≤i by omega)
   simpa using this))
  simp [hi,this]
theorem zz_code {a:Int} (h:i64 a):bits BinOp.xor .u64 (IntKind.u64.wrap (IntKind.u64.wrap a * 2)) (IntKind.u64.wrap (a / 9223372036854775808))=(zz a:Int):=by
 obtain ⟨h1,h2⟩:=h
 unfold zz
 by_cases hn:a < 0
 ·have e1:IntKind.u64.wrap (IntKind.u64.wrap a * 2)=((2 * (a+9223372036854775808)).toNat:Int):=by rw [IntKind.wrap_u64,IntKind.wrap_u64];omega
  have e2:IntKind.u64.wrap (a / 9223372036854775808)=((18446744073709551615:Nat):Int):=by rw [IntKind.wrap_u64];omega
  rw [e1,e2,u64_xor_nat _ _ (by omega) (by omega),xor_ones _ (by omega),if_pos hn]
  omega
 ·have e1:IntKind.u64.wrap (IntKind.u64.wrap a * 2)=((2 * a).toNat:Int):=by rw [IntKind.wrap_u64,IntKind.wrap_u64];omega
  have e2:IntKind.u64.wrap (a / 9223372036854775808)=((0:Nat):Int):=by rw [IntKind.wrap_u64];omega
  rw [e1,e2,u64_xor_nat _ _ (by omega) (by omega),if_neg hn]
  simp
theorem or_128 (u:Nat):bits BinOp.or .u8 ((u:Int) % 256) 128=((u % 128+128:Nat):Int):=by
 have e:((u:Int) % 256)=((u % 256:Nat):Int):=by omega
 have e2:(128:Int)=((128:Nat):Int):=rfl
 rw [e,e2,u8_or_nat _ _ (by omega) (by decide)]
 have h:∀ n:Nat,n < 256→n ||| 128=n % 128+128:=by decide +kernel
 rw [h _ (by omega)]
 omega
def valU:List Int→Nat
 | []=>0
 | c :: r=>(c % 128).toNat+128 * valU r
theorem valU_snoc (l:List Int) (c:Int):valU (l++[c])=valU l+128 ^ l.length * (c % 128).toNat:=by
 induction l with
 | nil=>simp [valU]
 | cons d l ih=>simp only [List.cons_append,valU,ih,List.length_cons,Nat.pow_succ];rw [Nat.mul_add,Nat.add_assoc];congr 2;rw [←Nat.mul_assoc,Nat.mul_comm 128]
theorem take_snoc (l:List Int) (i:Nat) (h:i < l.length):l.take (i+1)=l.take i++[l.getD i 0]:=by
 rw [List.take_succ_eq_append_getElem h,List.getD_eq_getElem?_getD,List.getElem?_eq_getElem h];rfl
theorem valU_take (l:List Int) (i:Nat) (h:i < l.length):valU (l.take (i+1))=valU (l.take i)+128 ^ i * (l.getD i 0 % 128).toNat:=by
 rw [take_snoc l i h,valU_snoc,List.length_take,Nat.min_eq_left (by omega)]
theorem valU_lt (l:List Int):valU l < 128 ^ l.length:=by
 induction l with
 | nil=>simp [valU]
 | cons c l ih=>simp only [valU,List.length_cons,Nat.pow_succ];omega
theorem valU_take_lt (l:List Int) (i:Nat) (h:i≤l.length):valU (l.take i) < 128 ^ i:=by
 have:=valU_lt (l.take i)
 rwa [List.length_take,Nat.min_eq_left h] at this
def allMore (l:List Int) (i:Nat):Prop:=∀ j,j < i→128≤l.getD j 0
theorem allMore_zero (l:List Int):allMore l 0:=fun j hj=>by omega
theorem allMore_succ {l:List Int} {i:Nat} (h:allMore l i) (hi:128≤l.getD i 0):allMore l (i+1):=fun j hj=>by
 rcases Nat.lt_or_ge j i with h1 | h1
 ·exact h j h1
 ·obtain rfl:j=i:=by omega
  exact hi
theorem allMore_tail {c:Int} {l:List Int} {i:Nat} (h:allMore (c :: l) (i+1)):128≤c∧allMore l i:=
 ⟨h 0 (by omega),fun j hj=>by have:=h (j+1) (by omega);simpa using this⟩
theorem decU_skip:∀ (i k:Nat) (l:List Int),isBytes l→allMore l i→i≤l.length→k+i≤10 →
  decU k l=(decU (k+i) (l.drop i)).bind fun q=>some (valU (l.take i)+128 ^ i * q.1,q.2):=by
 intro i
 induction i with
 | zero=>intro k l _ _ _ _;simp [valU];cases decU k l <;> rfl
 | succ i ih=>
  intro k l hb hm hl hk
  cases l with
  | nil=>simp at hl
  | cons c l=>
   obtain ⟨h1,h2⟩:=allMore_tail hm
   have hc:=hb c List.mem_cons_self
   rw [decU,if_neg (by omega),if_pos h1,ih (k+1) l (fun x hx=>hb x (List.mem_cons_of_mem _ hx)) h2 (by simpa using hl) (by omega)]
   rw [show k+1+i=k+(i+1) by omega,List.drop_succ_cons,List.take_succ_cons]
   cases decU (k+(i+1)) (l.drop i) with
   | none=>rfl
   | some q=>
    simp only [Option.bind_some,Option.some.injEq,Prod.mk.injEq,and_true,valU]
    have h3:(c % 128).toNat=(c - 128).toNat:=by omega
    rw [h3,Nat.pow_succ,Nat.add_mul,Nat.mul_comm (valU _) 128,Nat.mul_right_comm]
    omega
theorem dec_hit {l:List Int} {i:Nat} (hb:isBytes l) (hm:allMore l i) (hi:i < l.length) (h10:i < 10) (hc:l.getD i 0 < 128) (h0:¬(l.getD i 0=0∧0 < i)) (h9:¬(i=9∧1 < l.getD i 0)) :
  dec l=some (unzz (valU (l.take (i+1))),l.drop (i+1)):=by
 have hd:l.drop i=l.getD i 0 :: l.drop (i+1):=by
  rw [List.drop_eq_getElem_cons hi,List.getD_eq_getElem?_getD,List.getElem?_eq_getElem hi];rfl
 have hr:=hb _ (List.getElem_mem hi)
 have hg:l.getD i 0=l[i]:=by rw [List.getD_eq_getElem?_getD,List.getElem?_eq_getElem hi];rfl
 unfold dec
 rw [decU_skip i 0 l hb hm (by omega) (by omega),hd,decU,if_neg (by omega),if_neg (by omega),if_neg (by omega),valU_take l i hi]
 simp only [Option.bind_some]
 have h3:(l.getD i 0).toNat=(l.getD i 0 % 128).toNat:=by omega
 rw [h3]
theorem dec_end {l:List Int} {i:Nat} (hb:isBytes l) (hm:allMore l i) (hi:i≤l.length) (h10:i≤10) (he:i=10∨i=l.length):dec l=none:=by
 unfold dec
 rw [decU_skip i 0 l hb hm hi (by omega)]
 have h:decU (0+i) (l.drop i)=none:=by
  rcases he with rfl | rfl
  ·cases l.drop 10 with
   | nil=>rfl
   | cons c r=>rw [decU,if_pos (by omega)]
  ·rw [List.drop_length];rfl
 rw [h];rfl
theorem dec_bad {l:List Int} {i:Nat} (hb:isBytes l) (hm:allMore l i) (hi:i < l.length) (h10:i < 10) (hc:l.getD i 0 < 128) (h:(l.getD i 0=0∧0 < i)∨(i=9∧1 < l.getD i 0)):dec l=none:=by
 have hd:l.drop i=l.getD i 0 :: l.drop (i+1):=by
  rw [List.drop_eq_getElem_cons hi,List.getD_eq_getElem?_getD,List.getElem?_eq_getElem hi];rfl
 unfold dec
 rw [decU_skip i 0 l hb hm (by omega) (by omega),hd,decU,if_neg (by omega),if_neg (by omega),if_pos (by omega)]
 rfl
def lenD (l:List Int):Nat:=match dec l with
 | none=>0
 | some q=>l.length - q.2.length
theorem getD_bytes {l:List Int} (hb:isBytes l) (i:Nat):0≤l.getD i 0∧l.getD i 0 < 256:=by
 rw [List.getD_eq_getElem?_getD]
 rcases Nat.lt_or_ge i l.length with h | h
 ·rw [List.getElem?_eq_getElem h];exact hb _ (List.getElem_mem h)
 ·rw [List.getElem?_eq_none h];simp
theorem lenD_hit {l:List Int} {i:Nat} (hb:isBytes l) (hm:allMore l i) (hi:i < l.length) (h10:i < 10) (hc:l.getD i 0 < 128) (h0:¬(l.getD i 0=0∧0 < i)) (h9:¬(i=9∧1 < l.getD i 0)):(lenD l:Int)=(i:Int)+1:=by
 unfold lenD;rw [dec_hit hb hm hi h10 hc h0 h9];simp only [List.length_drop];omega
theorem lenD_bad {l:List Int} {i:Nat} (hb:isBytes l) (hm:allMore l i) (hi:i < l.length) (h10:i < 10) (hc:l.getD i 0 < 128) (h:(l.getD i 0=0∧0 < i)∨(i=9∧1 < l.getD i 0)):(lenD l:Int)=0:=by
 unfold lenD;rw [dec_bad hb hm hi h10 hc h];rfl
theorem lenD_end {l:List Int} {i:Nat} (hb:isBytes l) (hm:allMore l i) (hi:i≤l.length) (h10:i≤10) (he:i=10∨i=l.length):(lenD l:Int)=0:=by
 unfold lenD;rw [dec_end hb hm hi h10 he];rfl
theorem andNot_128 {c:Int} (h0:0≤c) (h1:c < 256):bits BinOp.andNot .u8 c 128=c % 128:=by
 have e:c=(c.toNat:Int):=by omega
 rw [e,show (128:Int)=((128:Nat):Int) from rfl,u8_andNot_nat _ _ (by omega) (by decide)]
 have h:∀ n:Nat,n < 256→n &&& (255 - 128)=n % 128:=by decide +kernel
 rw [h _ (by omega)]
 omega
theorem or_digit' (u c i:Nat) (hu:u < 128 ^ i) (hp:c * 2 ^ (7 * i) < 18446744073709551616) (hi:i≤9):bits BinOp.or .u64 (u:Int) ((c * 2 ^ (7 * i):Nat):Int)=((u+128 ^ i * c:Nat):Int):=by
 have e:128 ^ i=2 ^ (7 * i):=by rw [Nat.pow_mul]
 have hu2:u < 18446744073709551616:=by
  have h1:128 ^ i≤128 ^ 9:=Nat.pow_le_pow_right (by decide) hi
  omega
 rw [u64_or_nat _ _ hu2 hp,e,Nat.or_comm,Nat.mul_comm c,←Nat.two_pow_add_eq_or_of_lt (by rw [←e];exact hu)]
 omega
theorem or_step {u i:Nat} {d:Int} (hu:u < 18446744073709551616) (h0:0≤d) (h1:d < 256) :
  ∃ u':Nat,bits BinOp.or .u64 (u:Int) (IntKind.u64.wrap (IntKind.u64.wrap (bits BinOp.andNot .u8 d 128) * 2 ^ (7 * i)))=(u':Int)∧u' < 18446744073709551616 ∧
   (u < 128 ^ i→(i≤8∨i=9∧d≤1)→u'=u+128 ^ i * (d % 128).toNat):=by
 rw [andNot_128 h0 h1]
 have e1:IntKind.u64.wrap (d % 128)=(((d % 128).toNat:Nat):Int):=by rw [IntKind.wrap_u64];omega
 rw [e1]
 obtain ⟨c,hc⟩:∃ c,c=(d % 128).toNat:=⟨_,rfl⟩
 rw [←hc]
 have e2:((c:Int) * 2 ^ (7 * i))=((c * 2 ^ (7 * i):Nat):Int):=by rw [Int.natCast_mul,Int.natCast_pow];rfl
 rw [e2]
 have e3:IntKind.u64.wrap ((c * 2 ^ (7 * i):Nat):Int)=((c * 2 ^ (7 * i) % 18446744073709551616:Nat):Int):=by rw [IntKind.wrap_u64];omega
 rw [e3]
 refine ⟨u ||| (c * 2 ^ (7 * i) % 18446744073709551616),u64_or_nat _ _ hu (Nat.mod_lt _ (by decide)),Nat.or_lt_two_pow (n:=64) hu (Nat.mod_lt _ (by decide)),fun g1 g2=>?_⟩
 have hp:c * 2 ^ (7 * i) < 18446744073709551616:=by
  rcases g2 with g2 | ⟨rfl,g2⟩
  ·have h1:2 ^ (7 * i)≤2 ^ 56:=Nat.pow_le_pow_right (by decide) (by omega)
   have h2:c * 2 ^ (7 * i)≤127 * 2 ^ 56:=Nat.mul_le_mul (by omega) h1
   omega
  ·have h3:c≤1:=by omega
   have h2:c * 2 ^ (7 * 9)≤1 * 2 ^ (7 * 9):=Nat.mul_le_mul h3 (Nat.le_refl _)
   omega
 have h4:=or_digit' u c i g1 hp (by omega)
 rw [u64_or_nat _ _ hu hp] at h4
 rw [Nat.mod_eq_of_lt hp]
 omega
theorem xor_i64_zero (n:Nat) (h:n < 9223372036854775808):bits BinOp.xor .i64 (n:Int) 0=(n:Int):=by
 show IntKind.i64.wrap ((BitVec.ofInt 64 (n:Int) ^^^ BitVec.ofInt 64 0).toNat:Int)=_
 have h1:(BitVec.ofInt 64 (n:Int)).toNat=n:=by
  rw [BitVec.ofInt_natCast,BitVec.toNat_ofNat];exact Nat.mod_eq_of_lt (by omega)
 have h2:(BitVec.ofInt 64 0).toNat=0:=by rfl
 rw [BitVec.toNat_xor,h1,h2,Nat.xor_zero,IntKind.wrap_i64]
 omega
theorem xor_i64_ones (n:Nat) (h:n < 9223372036854775808):bits BinOp.xor .i64 (n:Int) (-1) = -(n:Int) - 1:=by
 show IntKind.i64.wrap ((BitVec.ofInt 64 (n:Int) ^^^ BitVec.ofInt 64 (-1)).toNat:Int)=_
 have h1:(BitVec.ofInt 64 (n:Int)).toNat=n:=by
  rw [BitVec.ofInt_natCast,BitVec.toNat_ofNat];exact Nat.mod_eq_of_lt (by omega)
 have h2:(BitVec.ofInt 64 (-1)).toNat=18446744073709551615:=by rfl
 rw [BitVec.toNat_xor,h1,h2,xor_ones _ (by omega),IntKind.wrap_i64]
 omega
theorem unzz_code (u:Nat) (h:u < 18446744073709551616):bits BinOp.xor .i64 ((u:Int) / 2) (Go.RowKit.wrap64 (-Go.RowKit.wrap64 (bits BinOp.and .u64 (u:Int) 1)))=unzz u:=by
 have e0:bits BinOp.and .u64 (u:Int) 1=((u % 2:Nat):Int):=by
  rw [show (1:Int)=((1:Nat):Int) from rfl,u64_and_nat _ _ h (by decide),Nat.and_one_is_mod]
 have e1:(u:Int) / 2=((u / 2:Nat):Int):=by omega
 rw [e0,e1]
 unfold unzz
 rcases Nat.mod_two_eq_zero_or_one u with h0 | h0
 ·rw [h0,if_neg (by omega)]
  have e2:Go.RowKit.wrap64 (-Go.RowKit.wrap64 ((0:Nat):Int))=0:=by unfold Go.RowKit.wrap64;decide
  rw [e2,xor_i64_zero _ (by omega)]
 ·rw [h0,if_pos rfl]
  have e2:Go.RowKit.wrap64 (-Go.RowKit.wrap64 ((1:Nat):Int)) = -1:=by unfold Go.RowKit.wrap64;decide
  rw [e2,xor_i64_ones _ (by omega)]
theorem valU_encN:∀ u,valU (encN u)=u:=by
 intro u
 induction u using Nat.strongRecOn with
 | ind u ih=>
  by_cases h:u < 128
  ·rw [encN_lt h];simp only [valU];omega
  ·rw [encN_ge (by omega)];simp only [valU];rw [ih (u / 128) (by omega)];omega
theorem dec_len {l:List Int} (hb:isBytes l) (h:lenD l≠0):dec l=some (unzz (valU (l.take (lenD l))),l.drop (lenD l))∧lenD l≤l.length∧valU (l.take (lenD l)) < 18446744073709551616:=by
 unfold lenD at *
 cases hd:dec l with
 | none=>rw [hd] at h;simp at h
 | some q=>
  obtain ⟨x,r⟩:=q
  obtain ⟨h1,h2⟩:=dec_sound hb hd
  simp only
  have hl:l.length - r.length=(enc x).length:=by rw [h1,List.length_append];omega
  have ht:l.take (enc x).length=enc x:=by
   have:(enc x++r).take (enc x).length=enc x:=List.take_left
   rwa [←h1] at this
  have hdr:l.drop (enc x).length=r:=by
   have:(enc x++r).drop (enc x).length=r:=List.drop_left
   rwa [←h1] at this
  rw [hl,ht,hdr]
  refine ⟨?_,by have:=congrArg List.length h1;rw [List.length_append] at this;omega,?_⟩
  ·unfold enc;rw [valU_encN,unzz_zz]
  ·unfold enc;rw [valU_encN];exact zz_lt h2.1 h2.2
theorem dec_len0 {l:List Int} (hb:isBytes l) (h:lenD l=0):dec l=none:=by
 cases hd:dec l with
 | none=>rfl
 | some q=>
  obtain ⟨x,r⟩:=q
  obtain ⟨h1,h2⟩:=dec_sound hb hd
  unfold lenD at h
  rw [hd] at h
  have:=congrArg List.length h1
  rw [List.length_append] at this
  have:=enc_pos x
  simp only at h
  omega
theorem valU_drop_le (l:List Int) (k:Nat):valU (l.drop k)≤valU l:=by
 induction l generalizing k with
 | nil=>simp
 | cons c l ih=>
  cases k with
  | zero=>simp
  | succ k=>simp only [List.drop_succ_cons,valU];have:=ih k;omega
theorem valU_drop_step (l:List Int) (k:Nat) (h:k < l.length):valU (l.drop k)=(l.getD k 0 % 128).toNat+128 * valU (l.drop (k+1)):=by
 rw [List.drop_eq_getElem_cons h,valU,List.getD_eq_getElem?_getD,List.getElem?_eq_getElem h];rfl
end Go.Proofs.YtocpcnmnhckcpaaGreat.Num
namespace Go.Proofs.YtocpcnmnhckcpaaGreat.Num
open RowKit YtocpcnmnhckcpaaGreatW.PrintWords YtocpcnmnhckcpaaGreatW.PrintLast YtocpcnmnhckcpaaGreatW.PrintMore
theorem ret_i64 {a b:Int} (h:a=b):Ending.returned (.int .i64 a) = .returned (.int .i64 b):=by rw [h]
theorem strOfNums_toList (l:List Int):(strOfNums l).toList=l.map fun n=>UInt8.ofNat n.toNat:=ByteArray.toList_mk _
theorem bytesOf_isBytes (s:ByteArray):isBytes (bytesOf s):=by
 intro c hc
 obtain ⟨b,_,rfl⟩:=List.mem_map.1 hc
 have:=b.toNat_lt
 omega
theorem bytesOf_strOfNums {l:List Int} (h:isBytes l):bytesOf (strOfNums l)=l:=by
 unfold bytesOf
 rw [strOfNums_data,List.map_map]
 have:∀ c ∈ l,((fun b:UInt8=>(b.toNat:Int)) ∘ fun n:Int=>UInt8.ofNat n.toNat) c=c:=by
  intro c hc
  have h1:=h c hc
  simp only [Function.comp,UInt8.toNat_ofNat']
  omega
 exact (List.map_congr_left this).trans (List.map_id' _)
theorem strOfNums_bytesOf (s:ByteArray):strOfNums (bytesOf s)=s:=by
 have:(strOfNums (bytesOf s)).data.toList=s.data.toList:=by
  rw [strOfNums_data]
  unfold bytesOf
  rw [List.map_map]
  have:∀ c ∈ s.data.toList,((fun n:Int=>UInt8.ofNat n.toNat) ∘ fun b:UInt8=>(b.toNat:Int)) c=c:=by
   intro c _
   simp only [Function.comp,Int.toNat_natCast,UInt8.ofNat_toNat]
  exact (List.map_congr_left this).trans (List.map_id' _)
 exact congrArg ByteArray.mk (Array.toList_inj.1 this)
theorem toList_inj {a b:ByteArray} (h:a.toList=b.toList):a=b:=by
 rw [ByteArray.toList_eq,ByteArray.toList_eq] at h
 exact congrArg ByteArray.mk (Array.toList_inj.1 h)
theorem bytesOf_inj {a b:ByteArray} (h:bytesOf a=bytesOf b):a=b:=by rw [←strOfNums_bytesOf a,←strOfNums_bytesOf b,h]
theorem strOfNums_inj {a b:List Int} (ha:isBytes a) (hb:isBytes b) (h:strOfNums a=strOfNums b):a=b:=by rw [←bytesOf_strOfNums ha,←bytesOf_strOfNums hb,h]
theorem str_beq {a b:List Int} (ha:isBytes a) (hb:isBytes b):((strOfNums a).toList == (strOfNums b).toList)=decide (a=b):=by
 rw [Bool.eq_iff_iff,beq_iff_eq,decide_eq_true_iff]
 exact ⟨fun h=>strOfNums_inj ha hb (toList_inj h),fun h=>by rw [h]⟩
theorem str_beq' (s t:ByteArray):(s.toList == t.toList)=decide (s=t):=by
 rw [Bool.eq_iff_iff,beq_iff_eq,decide_eq_true_iff]
 exact ⟨toList_inj,fun h=>by rw [h]⟩
theorem str_append (a b:List Int):strOfNums (a++b)=strOfNums a++strOfNums b:=by
 apply bytesOf_inj
 unfold bytesOf strOfNums
 simp
theorem info_u8:(Tryz.prog.info? 5).map (fun i=>(i.zero,i.size,i.bytes))=some (some (.int .u8 0),1,1):=by kernel_rfl
theorem size_u8:(Tryz.prog.info? 5).map (·.size)=some 1:=by kernel_rfl
theorem put_calls (A0:Option Addr) (c0:Nat) (l0:List Int) (a1:Int) (w:World) (hr0:Kd.C (Kd.int .u8) w A0 l0.length l0) (hc0:l0.length≤c0) (h1 : -9223372036854775808≤a1) (h2:a1≤9223372036854775807) (hl:l0.length≤140737488350000) :
  Calls Tryz.prog 29 #[.slice A0 l0.length c0,.int .i64 a1] w fun e w'=>∃ v0_:Value,e = .returned (v0_)∧Kd.R (Kd.int .u8) 5 w' w.heap.size (fun _=>True) v0_ (l0++enc a1)∧Below w.heap.size w w':=by
 have HR0:=Ak hr0
 have HC0:=Ak hc0
 clear hr0 hc0
 have HB:=Ak (Below.refl w.heap.size w)
 go_enter Tryz.func29,Tryz.ntmps29
 go_wp2_with (first | ((with_reducible refine gate_dst (N:=12) rfl ?_);refine Gen.R_makeCap (Kd.int .u8) (w0:=w) w.heap.size 5 rfl 23 (.tmp 8) (.tmp 11) rfl (l0.length:Int) ((l0.length:Int)+10) rfl rfl Tryz.underlying23 (.int .u8 0) 1 info_u8 rfl (by decide) (by decide) 0 (fun _ _ _=>rfl) (by omega) (by omega) (by omega) HB.out (below_size HB.out) ?_;intro v1 w1 ho hb hg hat;have n0_:=Ak hb;have n1_:=Ak ho;clear HB;have HB:=n0_;have HO1:=n1_;clear n0_ n1_ ho hb hg hat) | ((with_reducible refine gate_builtin (b:=.copy) (xs:=#[.tmp 13,.tmp 14]) rfl ?_);refine Kd.R_copy (enc:=Value.int .u8) (h1:=fun _=>rfl) (0:Int) (w0:=w) w.heap.size rfl (.tmp 13) (.tmp 14) 23 23 5 rfl Tryz.underlying23 size_u8 v1 (List.replicate (l0.length:Int).toNat 0) l0 A0 l0.length c0 (fun _=>True) rfl rfl HO1.out (by repeat (exact (Kd.C_below HR0.out HB.out))) HB.out (below_size HB.out) ?_;intro w2 ho hb hg;have n0_:=Ak hb;have n1_:=Ak ho;clear HB HO1;have HB:=n0_;have HO2:=n1_;clear n0_ n1_ ho hb hg))
 have hz:=zz_lt h1 h2
 have HL:=Ak (enc_len ⟨h1,h2⟩)
 rw [zz_code ⟨h1,h2⟩]
 have HO2':Aside0 (Kd.R (Kd.int .u8) 5 w2 w.heap.size (fun _=>True) v1 l0):=⟨by
  have e:=HO2.out
  simp only [Int.toNat_natCast,List.length_replicate,Nat.min_self,List.take_length,List.drop_replicate,Nat.sub_self,List.replicate_zero,List.append_nil] at e
  exact e⟩
 clear HO2
 go_loopg [5,6] (zz a1) (fun u v5 v6 w'=>∃ x:List Int,v6 = .int .u64 (u:Int)∧Aside0 (x++encN u=l0++enc a1)∧Aside0 (u < 18446744073709551616)∧Aside0 (Kd.R (Kd.int .u8) 5 w' w.heap.size (fun _=>True) v5 x)∧Aside0 (Below w.heap.size w w'))
 case atStart=>exact ⟨l0,rfl,⟨rfl⟩,⟨hz⟩,HO2',HB⟩
 case round=>
  obtain ⟨x,rfl,HE,HU,HO,HB⟩:=hrel
  have hu:=HU.out
  have HX:Aside0 (x.length≤140737488350020):=⟨by
   have e:=congrArg List.length HE.out
   simp only [List.length_append] at e
   have:=HL.out;omega⟩
  by_cases hc:128≤gk
  ·have hd:decide ((128:Int)≤(gk:Int))=true:=decide_eq_true (by omega)
   go_wp2_with (((with_reducible refine gate_builtin (b:=.append) (xs:=#[.tmp 27,.tmp 31]) rfl ?_);at_builtin;refine Kd.R_append (Kd.int .u8) (w0:=w) w.heap.size rfl (.tmp 27) (.tmp 31) 23 5 (.int .u8 0) 1 rfl Tryz.underlying23 info_u8 rfl (by decide) (by omega) u5 x (bits BinOp.or IntKind.u8 ((gk:Int) % 256) 128) [(.int .u8 (bits BinOp.or IntKind.u8 ((gk:Int) % 256) 128))] (fun _=>True) (fun _=>False) rfl rfl ?aP (fun _ hk=>hk.elim) ?aF ?aO ?aB ?aS ?aL ?_;(case aP=>exact rfl);(case aB=>exact HB.out);(case aF=>exact (fun _ _=>trivial));(case aO=>exact HO.out);(case aS=>exact (below_size HB.out));(case aL=>have:=HX.out;omega);intro v8 w8 ho hb hg hat;have n0_:=Ak (hb);have n1_:=Ak (ho);clear HB;clear HO;have HB:=n0_;have HO8:=n1_;clear n0_ n1_;clear ho hb hg hat))
   go_roundg (gk / 128)
   case measure=>omega
   case rel=>
    refine ⟨_,rfl,⟨?_⟩,⟨by omega⟩,⟨HO8.out⟩,⟨HB.out⟩⟩
    rw [←HE.out,encN_ge hc,or_128,List.append_assoc];rfl
  ·have hd:decide ((128:Int)≤(gk:Int))=false:=decide_eq_false (by omega)
   go_wp2_with (((with_reducible refine gate_builtin (b:=.append) (xs:=#[.tmp 33,.tmp 36]) rfl ?_);at_builtin;refine Kd.R_append (Kd.int .u8) (w0:=w) w.heap.size rfl (.tmp 33) (.tmp 36) 23 5 (.int .u8 0) 1 rfl Tryz.underlying23 info_u8 rfl (by decide) (by omega) u5 x (gk:Int) [(.int .u8 (gk:Int))] (fun _=>True) (fun _=>False) rfl rfl ?aP (fun _ hk=>hk.elim) ?aF ?aO ?aB ?aS ?aL ?_;(case aP=>exact rfl);(case aB=>exact HB.out);(case aF=>exact (fun _ _=>trivial));(case aO=>exact HO.out);(case aS=>exact (below_size HB.out));(case aL=>have:=HX.out;omega);intro v8 w8 ho hb hg hat;have n0_:=Ak (hb);have n1_:=Ak (ho);clear HB;clear HO;have HB:=n0_;have HO8:=n1_;clear n0_ n1_;clear ho hb hg hat))
   go_ret
   refine ⟨_,rfl,?_,HB.out⟩
   have e:x++[(gk:Int)]=l0++enc a1:=by rw [←HE.out,encN_lt (by omega)]
   rw [←e]
   exact HO8.out
theorem putText_calls (A0:Option Addr) (c0:Nat) (l0:List Int) (s:ByteArray) (w:World) (hr0:Kd.C (Kd.int .u8) w A0 l0.length l0) (hc0:l0.length≤c0) (hl:l0.length+s.size≤140737488349000) :
  Calls Tryz.prog 31 #[.slice A0 l0.length c0,.string s] w fun e w'=>∃ v0_:Value,e = .returned (v0_)∧Kd.R (Kd.int .u8) 5 w' w.heap.size (fun _=>True) v0_ (l0++encT (bytesOf s))∧Below w.heap.size w w':=by
 have HL:Aside0 ((enc (s.size:Int)).length≤10):=⟨enc_len ⟨by omega,by omega⟩⟩
 go_enter Tryz.func31,Tryz.ntmps31
 go_wp2_with (first | (go_at_call 29;refine (put_calls A0 c0 l0 (s.size:Int) w hr0 hc0 (by omega) (by omega) (by omega)).mono ?_;rintro e w1 ⟨v1,rfl,ho,hb⟩;have HB:=Ak hb;have HO1:=Ak ho;clear ho hb) | ((with_reducible refine gate_builtin (b:=.append) (xs:=#[.tmp 8,.tmp 9]) rfl ?_);at_builtin;refine Gen.R_append_str (w0:=w) w.heap.size rfl (.tmp 8) (.tmp 9) 23 9 5 rfl Tryz.underlying23 Tryz.underlying9 info_u8 v1 (l0++enc (s.size:Int)) s rfl rfl ?aO ?aB ?aS ?aL ?_;(case aB=>exact HB.out);(case aO=>exact HO1.out);(case aS=>exact (below_size HB.out));(case aL=>have:=HL.out;simp only [List.length_append];omega);intro v2 w2 ho hb hg;have n0_:=Ak (hb);have n1_:=Ak (ho);clear HB;clear HO1;have HB:=n0_;have HO2:=n1_;clear n0_ n1_;clear ho hb hg))
 go_ret
 refine ⟨_,rfl,?_,HB.out⟩
 unfold encT
 rw [bytesOf_length,←List.append_assoc]
 exact HO2.out
theorem refPut_calls (A0:Option Addr) (c0:Nat) (l0:List Int) (a1:Int) (w:World) (hr0:Kd.C (Kd.int .u8) w A0 l0.length l0) (hc0:l0.length≤c0) (h1 : -9223372036854775808≤a1) (h2:a1≤9223372036854775807) (hl:l0.length≤140737488350000) :
  Calls Tryz.prog 36 #[.slice A0 l0.length c0,.int .i64 a1] w fun e w'=>∃ v0_:Value,e = .returned (v0_)∧Kd.R (Kd.int .u8) 5 w' w.heap.size (fun _=>True) v0_ (l0++enc a1)∧Below w.heap.size w w':=by
 have HR0:=Ak hr0
 have HC0:=Ak hc0
 clear hr0 hc0
 have HB:=Ak (Below.refl w.heap.size w)
 have hz:=zz_lt h1 h2
 have HL:=Ak (enc_len ⟨h1,h2⟩)
 go_enter Tryz.func36,Tryz.ntmps36
 go_upto_if 11 with (fail)
 go_cut [5] (fun v5 wc=>v5 = .int .u64 (zz a1:Int)∧Aside0 (Below w.heap.size w wc))
 case first=>
  have hz':(zz a1:Int)=if a1 < 0 then 2 * -(a1+1)+1 else 2 * a1:=by unfold zz;split <;> omega
  by_cases hn:a1 < 0
  ·rw [if_pos hn] at hz'
   have HZ:=Ak hz'
   clear hz'
   have hd:decide (a1 < 0)=true:=decide_eq_true hn
   go_wp2
   go_meet
   case rel=>exact ⟨by rw [HZ.out],HB⟩
  ·rw [if_neg hn] at hz'
   have HZ:=Ak hz'
   clear hz'
   have hd:decide (a1 < 0)=false:=decide_eq_false hn
   go_wp2
   go_meet
   case rel=>exact ⟨by rw [HZ.out];(congr 1;simp only [IntKind.wrap_u64];omega),HB⟩
 case rest=>
  obtain ⟨rfl,HB⟩:=hcut
  go_wp2_with (first | ((with_reducible refine gate_dst (N:=18) rfl ?_);refine Kd.R_lit (Kd.int .u8) (w0:=w) w.heap.size 5 ?hg (N:=18) ?hd (xs:=[]) (inner:=[]) (ok:=fun _=>True) (okp:=fun _=>True) ?hr ?hp (fun _ hk=>hk) trivial ?hB ?hS (by simp) ?_;(case hd=>rfl);(case hg=>rfl);(case hr=>(go_simp;done));(case hp=>exact (Reps.none _ _));(case hB=>exact HB.out);(case hS=>exact (below_size HB.out));intro v1 w1 ho hb hg hat;have n0_:=Ak (hb);have n1_:=Ak (ho);clear HB;have HB:=n0_;have HO1:=n1_;clear n0_ n1_;clear ho hb hg hat) | ((with_reducible refine gate_builtin (b:=.append) (xs:=#[.tmp 18,.tmp 19]) rfl ?_);at_builtin;refine Kd.R_append_rows (Kd.int .u8) (w0:=w) w.heap.size rfl (.tmp 18) (.tmp 19) 23 5 (.int .u8 0) 1 rfl Tryz.underlying23 info_u8 rfl (by decide) (by omega) v1 [] l0 _ _ _ (fun _=>True) (fun _=>False) rfl rfl ?aO ?aR (fun _ _ h=>h) (fun _ h=>h.elim) ?aF ?aB ?aS ?aL ?_;(case aR=>exact (by repeat (exact (Kd.C_below HR0.out HB.out))));(case aB=>exact HB.out);(case aF=>exact (fun _ _=>trivial));(case aO=>exact HO1.out);(case aS=>exact (below_size HB.out));(case aL=>simp only [List.length_nil];omega);intro v2 w2 ho hb hg hat;have n0_:=Ak (hb);have n1_:=Ak (ho);clear HB;clear HO1;have HB:=n0_;have HO2:=n1_;clear n0_ n1_;clear ho hb hg hat))
  go_loopg [5,6] (zz a1) (fun u v5 v6 w'=>∃ x:List Int,v5 = .int .u64 (u:Int)∧Aside0 (x++encN u=l0++enc a1)∧Aside0 (u < 18446744073709551616)∧Aside0 (Kd.R (Kd.int .u8) 5 w' w.heap.size (fun _=>True) v6 x)∧Aside0 (Below w.heap.size w w'))
  case atStart=>exact ⟨l0,rfl,⟨rfl⟩,⟨hz⟩,⟨by simpa using HO2.out⟩,⟨HB.out⟩⟩
  case round=>
   obtain ⟨x,rfl,HE,HU,HO,HB⟩:=hrel
   have hu:=HU.out
   have HX:Aside0 (x.length≤140737488350020):=⟨by
    have e:=congrArg List.length HE.out
    simp only [List.length_append] at e
    have:=HL.out;omega⟩
   by_cases hc:128≤gk
   ·have hd:decide ((128:Int)≤(gk:Int))=true:=decide_eq_true (by omega)
    go_wp2_with (((with_reducible refine gate_builtin (b:=.append) (xs:=#[.tmp 23,.tmp 28]) rfl ?_);at_builtin;refine Kd.R_append (Kd.int .u8) (w0:=w) w.heap.size rfl (.tmp 23) (.tmp 28) 23 5 (.int .u8 0) 1 rfl Tryz.underlying23 info_u8 rfl (by decide) (by omega) u6 x (((gk:Int) % 128)+128) [(.int .u8 (((gk:Int) % 128)+128))] (fun _=>True) (fun _=>False) rfl rfl ?aP (fun _ hk=>hk.elim) ?aF ?aO ?aB ?aS ?aL ?_;(case aP=>exact rfl);(case aB=>exact HB.out);(case aF=>exact (fun _ _=>trivial));(case aO=>exact HO.out);(case aS=>exact (below_size HB.out));(case aL=>have:=HX.out;omega);intro v8 w8 ho hb hg hat;have n0_:=Ak (hb);have n1_:=Ak (ho);clear HB;clear HO;have HB:=n0_;have HO8:=n1_;clear n0_ n1_;clear ho hb hg hat))
    go_roundg (gk / 128)
    case measure=>omega
    case rel=>
     refine ⟨_,rfl,⟨?_⟩,⟨by omega⟩,⟨HO8.out⟩,⟨HB.out⟩⟩
     rw [←HE.out,encN_ge hc,List.append_assoc];rfl
   ·have hd:decide ((128:Int)≤(gk:Int))=false:=decide_eq_false (by omega)
    go_wp2_with (((with_reducible refine gate_builtin (b:=.append) (xs:=#[.tmp 32,.tmp 35]) rfl ?_);at_builtin;refine Kd.R_append (Kd.int .u8) (w0:=w) w.heap.size rfl (.tmp 32) (.tmp 35) 23 5 (.int .u8 0) 1 rfl Tryz.underlying23 info_u8 rfl (by decide) (by omega) u6 x (gk:Int) [(.int .u8 (gk:Int))] (fun _=>True) (fun _=>False) rfl rfl ?aP (fun _ hk=>hk.elim) ?aF ?aO ?aB ?aS ?aL ?_;(case aP=>exact rfl);(case aB=>exact HB.out);(case aF=>exact (fun _ _=>trivial));(case aO=>exact HO.out);(case aS=>exact (below_size HB.out));(case aL=>have:=HX.out;omega);intro v8 w8 ho hb hg hat;have n0_:=Ak (hb);have n1_:=Ak (ho);clear HB;clear HO;have HB:=n0_;have HO8:=n1_;clear n0_ n1_;clear ho hb hg hat))
    go_ret
    refine ⟨_,rfl,?_,HB.out⟩
    have e:x++[(gk:Int)]=l0++enc a1:=by rw [←HE.out,encN_lt (by omega)]
    rw [←e]
    exact HO8.out
theorem refPutText_calls (A0:Option Addr) (c0:Nat) (l0:List Int) (s:ByteArray) (w:World) (hr0:Kd.C (Kd.int .u8) w A0 l0.length l0) (hc0:l0.length≤c0) (hl:l0.length+s.size≤140737488349000) :
  Calls Tryz.prog 37 #[.slice A0 l0.length c0,.string s] w fun e w'=>∃ v0_:Value,e = .returned (v0_)∧Kd.R (Kd.int .u8) 5 w' w.heap.size (fun _=>True) v0_ (l0++encT (bytesOf s))∧Below w.heap.size w w':=by
 have HL:Aside0 ((enc (s.size:Int)).length≤10):=⟨enc_len ⟨by omega,by omega⟩⟩
 go_enter Tryz.func37,Tryz.ntmps37
 go_wp2_with (first | (go_at_call 36;refine (refPut_calls A0 c0 l0 (s.size:Int) w hr0 hc0 (by omega) (by omega) (by omega)).mono ?_;rintro e w1 ⟨v1,rfl,ho,hb⟩;have HB:=Ak hb;have HO1:=Ak ho;clear ho hb) | ((with_reducible refine gate_dst (N:=10) rfl ?_);refine Gen.ev_bytes (w0:=w) w.heap.size rfl 9 23 5 (.tmp 9) rfl Tryz.underlying9 Tryz.underlying23 Tryz.underlying5 s rfl (by omega) HB.out (below_size HB.out) ?_;intro A c w2 hr hc hb hb2;have HR2:=Ak hr;have HC2:=Ak hc;have n1_:=Ak (Kd.R_below HO1.out hb2);clear HB HO1 hr hc hb2;have HB:=Ak hb;have HO1:=n1_;clear hb n1_) | ((with_reducible refine gate_builtin (b:=.append) (xs:=#[.tmp 8,.tmp 10]) rfl ?_);at_builtin;refine Kd.R_append_rows (Kd.int .u8) (w0:=w) w.heap.size rfl (.tmp 8) (.tmp 10) 23 5 (.int .u8 0) 1 rfl Tryz.underlying23 info_u8 rfl (by decide) (by omega) v1 (l0++enc (s.size:Int)) (bytesOf s) _ _ _ (fun _=>True) (fun _=>False) rfl rfl ?aO ?aR (fun _ _ h=>h) (fun _ h=>h.elim) ?aF ?aB ?aS ?aL ?_;(case aR=>exact HR2.out);(case aB=>exact HB.out);(case aF=>exact (fun _ _=>trivial));(case aO=>exact HO1.out);(case aS=>exact (below_size HB.out));(case aL=>have:=HL.out;simp only [List.length_append];omega);intro v3 w3 ho hb hg hat;have n0_:=Ak (hb);have n1_:=Ak (ho);clear HB;clear HO1;have HB:=n0_;have HO3:=n1_;clear n0_ n1_;clear ho hb hg hat))
 go_ret
 refine ⟨_,rfl,?_,HB.out⟩
 unfold encT
 rw [bytesOf_length,←List.append_assoc]
 exact HO3.out
attribute [local go_sem] max2_int min2_int max_two min_two
def Rd (T:Nat) (P:Nat→Prop) (W:World) (g:Nat) (l:List Int) (bad:Bool):Prop:=
 ∃ A c,W.heap[g]? = some (.cells #[.slice A l.length c,.bool bad] T (0,0))∧l.length≤c∧Kd.C (Kd.int .u8) W A l.length l∧(∀ ad,A=some ad→0 < l.length→P ad.block)∧¬P g
section
variable {T : Nat} {P : Nat → Prop} {W W1 : World} {g g' : Nat} {l : List Int} {bad : Bool}
theorem Rd.below (h:Rd T P W g l bad) (hb:Below W.heap.size W W1):Rd T P W1 g l bad:=by
 obtain ⟨A,c,h1,h2,h3,h4⟩:=h
 exact ⟨A,c,blk_below h1 hb,h2,Kd.C_below h3 hb,h4⟩
theorem Rd.kept (h:Rd T P W g l bad) (hk:KeepBut W W1 g' none) (hne:g≠g') (hP:¬P g'):Rd T P W1 g l bad:=by
 obtain ⟨A,c,h1,h2,h3,h4,h5⟩:=h
 exact ⟨A,c,hk.blk h1 hne (by simp),h2,Kd.C_keep (0:Int) h3 hk (fun ad e hn he=>hP (he ▸ h4 ad e hn)),h4,h5⟩
theorem Rd.drewN (h:Rd T P W g l bad) (m:Nat):Rd T P (W.drewN m) g l bad:=h.below (pw_below_drewN (Below.refl _ _) m)
theorem Rd.lt (h:Rd T P W g l bad):g < W.heap.size:=by obtain ⟨A,c,h1,_⟩:=h;exact blk_lt h1
theorem Rd.len (h:Rd T P W g l bad):l.length≤9223372036854775807:=by obtain ⟨A,c,_,_,h4,_⟩:=h;exact Kd.C_max h4
end
theorem cutL {P:Program} (t e:TypeId) (kl:IntKind) {i:TypeInfo} (ht:P.underlying t=some (.slice e)) (hi:P.info? e=some i) (hsz:i.size=1) (A:Option Addr) (n c m:Nat) (hm:m≤n) :
  ∃ A':Option Addr,(∀ W:World,(Instr.slice t (.slice A n c) (some (.int kl (m:Int))) none none).run P W = .ok (.slice A' (n - m) (c - m)) W) ∧
   (∀ (w:World) (xs:List Int),n≤c→(Kd.int .u8).C w A n xs→(Kd.int .u8).C w A' (n - m) (xs.drop m))∧∀ ad,A'=some ad→∃ ad0,A=some ad0∧ad.block=ad0.block:=by
 refine ⟨if c=m then A else A.map (·.add m),fun W=>?_,fun w xs hc h=>?_,fun ad he=>?_⟩
 ·have hel:P.elem t=e:=by simp [Program.elem,ht]
  have hu:P.underlying t=some (.slice (P.elem t)):=by rw [hel];exact ht
  rw [run_slice_l W t A n c hu kl (m:Int) (Int.natCast_nonneg _) (by omega),hel]
  simp [sizeOf,typeInfo,hi,hsz,sliced,Result.andThen]
 ·exact Kd.C_of_reads (d:=(0:Int)) (h1:=fun _=>rfl) (ReadsInt.drop_ (Kd.reads_of_C (enc:=Value.int .u8) (d:=(0:Int)) (h1:=fun _=>rfl) h) m hm hc)
 ·by_cases h:c=m
  ·rw [if_pos h] at he;exact ⟨ad,he,rfl⟩
  ·rw [if_neg h] at he
   obtain ⟨ad0,h1,h2⟩:=Option.map_eq_some_iff.1 he
   exact ⟨ad0,h1,by rw [←h2];unfold Addr.add;split <;> rfl⟩
theorem belowSet {g j:Nat} {w w':World} (h:Below g w w') (v:Value):Below g w (w'.setCell ⟨g,j,none⟩ v):=h.setCell (p:=⟨g,j,none⟩) (Nat.le_refl g) v
theorem fail_calls (P:Nat→Prop) (w:World) (g:Nat) (l:List Int) (bad:Bool) (hI:Rd 85 P w g l bad) :
  Calls Tryz.prog 48 #[.pointer (some ⟨g,0,none⟩)] w fun e w'=>e = .returned (.tuple #[])∧Rd 85 P w' g [] true∧Below g w w'∧KeepBut w w' g none:=by
 obtain ⟨A,c,hblk,hc,hr,hP,hg⟩:=hI
 have hc0:=blk_cell hblk 0
 have hc1:=blk_cell hblk 1
 have hf0:=blk_frozen hblk 0
 have hf1:=blk_frozen hblk 1
 have HK:=Ak hblk
 have HG:=Ak hg
 clear hblk hr hc hP hg
 go_enter Tryz.func48,Tryz.ntmps48
 go_wp2
 go_end0
 have h2:=blk_set (blk_set HK.out 0 (.slice none 0 0)) 1 (.bool true)
 exact ⟨rfl,⟨none,0,by simpa using h2,Nat.le_refl _,Kd.C_nil _ _,(fun _ h _=>by cases h),HG.out⟩,belowSet (belowSet (Below.refl g w) _) _,((KeepBut.refl w g none).set_ 0 _).set_ 1 _⟩
theorem length_calls (A0:Option Addr) (c0:Nat) (l0:List Int) (w:World) (hr0:Kd.C (Kd.int .u8) w A0 l0.length l0) (hc0:l0.length≤c0) (hb:isBytes l0) :
  Calls Tryz.prog 58 #[.slice A0 l0.length c0] w fun e w'=>e = .returned (.int .i64 (lenD l0:Int))∧Drawn0 w w':=by
 have HR0:=Ak hr0
 have HN:=Kd.C_max hr0
 clear hr0 hc0
 have HBY:=Ak hb
 clear hb
 go_enter Tryz.func58,Tryz.ntmps58
 go_wp2
 go_loopg [3] (l0.length) (fun k v3 w'=>∃ i:Nat,v3 = .int .i64 (i:Int)∧Aside0 (i+k=l0.length)∧Aside0 (i≤10)∧Aside0 (allMore l0 i)∧Drawn0 w w')
 case atStart=>exact ⟨0,rfl,⟨by omega⟩,⟨by omega⟩,⟨allMore_zero _⟩,Drawn0.refl _⟩
 case round=>
  obtain ⟨i,rfl,HE,H10,HM,⟨m1,rfl⟩⟩:=hrel
  have h10:=H10.out
  have hle:i≤l0.length:=by have:=HE.out;omega
  by_cases hlt:i < l0.length
  ·by_cases hi10:i < 10
   ·have hb1:decide ((i:Int) < (l0.length:Int))=true:=decide_eq_true (by omega)
    have hb2:decide ((i:Int) < 10)=true:=decide_eq_true (by omega)
    have hg:=getD_bytes HBY.out i
    obtain ⟨ad,rfl,hx⟩:=Kd.at_int HR0.out (i:Int) (by omega) (by omega)
    rw [Int.toNat_natCast] at hx
    obtain ⟨c,hcd⟩:∃ c,c=rd l0 (i:Int):=⟨_,rfl⟩
    have hcd':l0.getD i 0=c:=by rw [hcd];rfl
    rw [←hcd] at hx
    have HC:=Ak hcd'
    clear hcd
    rw [hcd'] at hg
    clear hcd'
    by_cases h128:128≤c
    ·have hd:decide ((128:Int)≤c)=true:=decide_eq_true h128
     go_wp2
     go_roundg (l0.length - (i+1))
     case measure=>have:=HE.out;omega
     case rel=>exact ⟨i+1,by go_num,⟨by omega⟩,⟨by omega⟩,⟨allMore_succ HM.out (by rw [HC.out];exact h128)⟩,by repeat (first | exact Drawn0.refl _ | apply Drawn0.step)⟩
    ·have hd:decide ((128:Int)≤c)=false:=decide_eq_false h128
     have hit:(c=0→i=0)→(i=9→c≤1)→(lenD l0:Int)=(i:Int)+1:=fun g1 g2=>lenD_hit HBY.out HM.out hlt hi10 (by rw [HC.out];omega) (by rw [HC.out];omega) (by rw [HC.out];omega)
     have bad:(c=0∧0 < i)∨(i=9∧1 < c)→(lenD l0:Int)=0:=fun g=>lenD_bad HBY.out HM.out hlt hi10 (by rw [HC.out];omega) (by rw [HC.out];exact g)
     have HIT:=Ak hit
     have BAD:=Ak bad
     clear hit bad
     by_cases hi0:0 < i
     ·have e1:decide ((0:Int) < (i:Int))=true:=decide_eq_true (by omega)
      by_cases hc0:c=0
      ·have e2:(c == 0)=true:=beq_iff_eq.mpr hc0
       have HR:=Ak (BAD.out (.inl ⟨hc0,hi0⟩))
       clear hc0
       go_wp2
       go_ret
       exact ⟨ret_i64 HR.out.symm,by repeat (first | exact Drawn0.refl _ | apply Drawn0.step)⟩
      ·have e2:(c == 0)=false:=beq_eq_false_iff_ne.mpr hc0
       by_cases h9:i=9
       ·have e3:((i:Int) == 9)=true:=beq_iff_eq.mpr (by omega)
        by_cases h1:1 < c
        ·have e4:decide ((1:Int) < c)=true:=decide_eq_true h1
         have HR:=Ak (BAD.out (.inr ⟨h9,h1⟩))
         clear hc0 h9
         go_wp2
         go_ret
         exact ⟨ret_i64 HR.out.symm,by repeat (first | exact Drawn0.refl _ | apply Drawn0.step)⟩
        ·have e4:decide ((1:Int) < c)=false:=decide_eq_false h1
         have HR:=Ak (HIT.out (fun h=>absurd h hc0) (fun _=>by omega))
         clear hc0 h9
         go_wp2
         go_ret
         exact ⟨ret_i64 HR.out.symm,by repeat (first | exact Drawn0.refl _ | apply Drawn0.step)⟩
       ·have e3:((i:Int) == 9)=false:=beq_eq_false_iff_ne.mpr (by omega)
        have HR:=Ak (HIT.out (fun h=>absurd h hc0) (fun h=>absurd h h9))
        clear hc0 h9
        go_wp2
        go_ret
        exact ⟨ret_i64 HR.out.symm,by repeat (first | exact Drawn0.refl _ | apply Drawn0.step)⟩
     ·have e1:decide ((0:Int) < (i:Int))=false:=decide_eq_false (by omega)
      have e3:((i:Int) == 9)=false:=beq_eq_false_iff_ne.mpr (by omega)
      have HR:=Ak (HIT.out (fun h=>by omega) (fun h=>by omega))
      go_wp2
      go_ret
      exact ⟨ret_i64 HR.out.symm,by repeat (first | exact Drawn0.refl _ | apply Drawn0.step)⟩
   ·have hb1:decide ((i:Int) < (l0.length:Int))=true:=decide_eq_true (by omega)
    have hb2:decide ((i:Int) < 10)=false:=decide_eq_false (by omega)
    have HR:=Ak (lenD_end HBY.out HM.out hle h10 (.inl (by omega)))
    go_wp2
    go_ret
    exact ⟨ret_i64 HR.out.symm,by repeat (first | exact Drawn0.refl _ | apply Drawn0.step)⟩
  ·have hb1:decide ((i:Int) < (l0.length:Int))=false:=decide_eq_false (by omega)
   have HR:=Ak (lenD_end HBY.out HM.out hle h10 (.inr (by omega)))
   go_wp2
   go_ret
   exact ⟨ret_i64 HR.out.symm,by repeat (first | exact Drawn0.refl _ | apply Drawn0.step)⟩
theorem newReader_calls (A0:Option Addr) (c0:Nat) (l0:List Int) (w:World) (hr0:Kd.C (Kd.int .u8) w A0 l0.length l0) (hc0:l0.length≤c0) :
  Calls Tryz.prog 16 #[.slice A0 l0.length c0] w fun e w'=>∃ g:Nat,e = .returned (.pointer (some ⟨g,0,none⟩))∧Rd 85 (fun k=>k < w.heap.size) w' g l0 false∧Below w.heap.size w w'∧w.heap.size≤g:=by
 have hu:=Tryz.underlying85
 have HR0:=Ak hr0
 have HC0:=Ak hc0
 clear hr0 hc0
 go_enter Tryz.func16,Tryz.ntmps16
 go_wp2_with (((with_reducible refine gate_dst (N:=5) rfl ?_);refine box_event ?hg (N:=5) ?hd (cs:=#[.slice A0 l0.length c0,.bool false]) (t:=85) ?hr ?_;(case hd=>rfl);(case hg=>rfl);(case hr=>(go_simp;done));intro g hg w2 hbox hb;have n1_:=Ak hbox;have n2_:=Ak hb;have n3_:=Ak hg;clear hg hbox hb))
 go_ret
 exact ⟨_,rfl,⟨A0,c0,n1_.out,HC0.out,Kd.C_below HR0.out n2_.out,fun ad e hn=>Kd.C_lt (e ▸ HR0.out) hn (by decide),by rw [n3_.out];exact Nat.lt_irrefl _⟩,n2_.out,by rw [n3_.out];exact Nat.le_refl _⟩
theorem bad_calls (P:Nat→Prop) (w:World) (g:Nat) (l:List Int) (bad:Bool) (hI:Rd 85 P w g l bad) :
  Calls Tryz.prog 21 #[.pointer (some ⟨g,0,none⟩)] w fun e w'=>e = .returned (.bool bad)∧w=w':=by
 obtain ⟨A,c,hblk,hc,hr,hP,hg⟩:=hI
 have hc1:w.cell? ⟨g,1,none⟩=some (.bool bad):=blk_cell hblk 1
 clear hblk hg hc hr hP
 go_enter Tryz.func21,Tryz.ntmps21
 go_wp2
 go_ret
 exact ⟨rfl,rfl⟩
def aft (l:List Int):List Int:=match dec l with | none=>[] | some q=>q.2
def numOf (l:List Int):Int:=match dec l with | none=>0 | some q=>q.1
def badOf (l:List Int) (bad:Bool):Bool:=bad || (dec l).isNone
theorem num_calls (P:Nat→Prop) (w:World) (g:Nat) (l:List Int) (bad:Bool) (hI:Rd 85 P w g l bad) (hb:isBytes l) :
  Calls Tryz.prog 17 #[.pointer (some ⟨g,0,none⟩)] w fun e w'=>e = .returned (.int .i64 (numOf l))∧Rd 85 P w' g (aft l) (badOf l bad)∧Below g w w'∧KeepBut w w' g none:=by
 have HN:=hI.len
 have HI0:=Ak hI
 obtain ⟨A,c,hblk,hc,hr,hP,hg⟩:=hI
 have hc0:w.cell? ⟨g,0,none⟩=some (.slice A l.length c):=blk_cell hblk 0
 have HK:=Ak hblk
 have HG:=Ak hg
 have HC:=Ak hc
 have HR:=Ak hr
 have HP:=Ak hP
 have HBY:=Ak hb
 clear hblk hr hg hb hc hP
 go_enter Tryz.func17,Tryz.ntmps17
 go_upto_region 2 with (fail)
 obtain ⟨m,hm1⟩:∃ m:Nat,m=min 10 l.length:=⟨min 10 l.length,rfl⟩
 have HM1:=Ak hm1
 clear hm1
 go_cut [11,12] (fun v11 v12 wc=>v11 = .int .i64 (m:Int)∧v12 = .int .i64 0∧w=wc)
 case first=>
  go_wp2
  all_goals go_meet
  case rel=>exact ⟨by have:=HM1.out;congr 1;omega,rfl,rfl⟩
  case rel=>exact ⟨by have:=HM1.out;congr 1;omega,rfl,rfl⟩
 case rest=>
 obtain ⟨rfl,rfl,rfl⟩:=hcut
 go_wp2_with fail
 go_loopg [3,12] m (fun k v3 v12 w'=>∃ i u:Nat,v12 = .int .i64 (i:Int)∧v3 = .int .u64 (u:Int)∧Aside0 (i+k=m)∧Aside0 (allMore l i)∧Aside0 (i≤9→u=valU (l.take i))∧Aside0 (u < 18446744073709551616)∧Drawn0 w w')
 case atStart=>exact ⟨0,0,rfl,rfl,⟨by omega⟩,⟨allMore_zero _⟩,⟨fun _=>rfl⟩,⟨by omega⟩,Drawn0.refl _⟩
 case round=>
  obtain ⟨i,u,rfl,rfl,HE,HM,HU,HU2,⟨m1,rfl⟩⟩:=hrel
  have hu2:=HU2.out
  have hm10:m≤10:=by have:=HM1.out;omega
  have hml:m≤l.length:=by have:=HM1.out;omega
  by_cases hlt:i < m
  ·have hg:=getD_bytes HBY.out i
   obtain ⟨ad,rfl,hx⟩:=Kd.at_int HR.out (i:Int) (by omega) (by omega)
   rw [Int.toNat_natCast] at hx
   obtain ⟨d,hd0⟩:∃ d,d=rd l (i:Int):=⟨_,rfl⟩
   have hd1:l.getD i 0=d:=by rw [hd0];rfl
   rw [←hd0] at hx
   have HD:=Ak hd1
   clear hd0
   rw [hd1] at hg
   clear hd1
   have hb1:decide ((i:Int) < (m:Int))=true:=decide_eq_true (by omega)
   obtain ⟨u',hor,hu',hst⟩:=or_step (u:=u) (i:=i) hu2 hg.1 hg.2
   have HST:=Ak hst
   have hvl:=valU_take_lt l i (by omega)
   have HVL:=Ak hvl
   clear hst hvl
   by_cases h128:128≤d
   ·have hd:decide ((128:Int)≤d)=true:=decide_eq_true h128
    go_wp2_with fail
    go_roundg (m - (i+1))
    case measure=>have:=HE.out;omega
    case rel=>
     refine ⟨i+1,u',by go_num,rfl,⟨by omega⟩,⟨allMore_succ HM.out (by rw [HD.out];exact h128)⟩,⟨fun h=>?_⟩,⟨hu'⟩,by repeat (first | exact Drawn0.refl _ | apply Drawn0.step)⟩
     rw [valU_take l i (by omega),HD.out,←HU.out (by omega)]
     exact HST.out (by rw [HU.out (by omega)];exact HVL.out) (.inl (by omega))
   ·have hd:decide ((128:Int)≤d)=false:=decide_eq_false h128
    have hd':d < 128:=by omega
    have hf0:w.frozen? ⟨g,0,none⟩=false:=blk_frozen HK.out 0
    obtain ⟨i0,hi0⟩:∃ i0,Tryz.prog.info? 5=some i0∧i0.size=1:=by obtain ⟨i0,h1,h2⟩:=Option.map_eq_some_iff.1 size_u8;exact ⟨i0,h1,h2⟩
    obtain ⟨A',hcut,hA',hAb⟩:=cutL (P:=Tryz.prog) 23 5 .i64 Tryz.underlying23 hi0.1 hi0.2 (some ad) l.length c (i+1) (by omega)
    have hcut1:∀ W:World,(Instr.slice 23 (.slice (some ad) l.length c) (some (.int .i64 ((i:Int)+1))) none none).run Tryz.prog W = .ok (.slice A' (l.length - (i+1)) (c - (i+1))) W:=hcut
    have HA:=Ak (hA' w l HC.out HR.out)
    have HAB:=Ak hAb
    have hz:=unzz_code u' hu'
    clear hcut hA' hi0 hAb
    by_cases hz:d=0
    ·have e1:(d == 0)=true:=beq_iff_eq.mpr hz
     by_cases hi0:0 < i
     ·have e2:decide ((0:Int) < (i:Int))=true:=decide_eq_true (by omega)
      have hn:dec l=none:=dec_bad HBY.out HM.out (by omega) (by omega) (by rw [HD.out];exact hd') (.inl (by rw [HD.out];exact ⟨hz,hi0⟩))
      have HN1:=Ak hn
      clear hn hz
      go_wp2_with ((go_at_call 48;refine (fail_calls P _ g l bad (Rd.drewN HI0.out m1)).mono ?_;rintro e w2 ⟨rfl,hI2,hb2,hk2⟩;have n1_:=Ak hI2;have n2_:=Ak hb2;have n3_:=Ak hk2;clear hI2 hb2 hk2))
      go_ret
      refine ⟨ret_i64 (by unfold numOf;rw [HN1.out]),by unfold aft badOf;rw [HN1.out];simpa using n1_.out,(pw_below_drewN (Below.refl g w) m1).trans n2_.out,n3_.out⟩
     ·have e2:decide ((0:Int) < (i:Int))=false:=decide_eq_false (by omega)
      have e3:((i:Int) == 9)=false:=beq_eq_false_iff_ne.mpr (by omega)
      have hy:dec l=some (unzz (valU (l.take (i+1))),l.drop (i+1)):=dec_hit HBY.out HM.out (by omega) (by omega) (by rw [HD.out];exact hd') (by omega) (by omega)
      have hy2:u'=valU (l.take (i+1)):=by
       rw [valU_take l i (by omega),HD.out,←HU.out (by omega)]
       exact HST.out (by rw [HU.out (by omega)];exact HVL.out) (by omega)
      have HY:=Ak hy
      have HY2:=Ak hy2
      clear hy hy2 hz
      go_wp2
      go_ret
      refine ⟨ret_i64 (by unfold numOf;rw [HY.out,HY2.out]),?_,belowSet (pw_below_drewN (Below.refl g w) m1) _,(KeepBut.refl w g none).set_ 0 _⟩
      have hs:=blk_set (blk_drewN HK.out m1) 0 (.slice A' (l.length - (i+1)) (c - (i+1)))
      unfold aft badOf;rw [HY.out]
      have hbl:∀ ad,A'=some ad→0 < (l.drop (i+1)).length→P ad.block:=fun ad e hn=>by
       obtain ⟨ad0,h1,h2⟩:=HAB.out ad e
       rw [h2];exact HP.out ad0 h1 (by rw [List.length_drop] at hn;omega)
      exact ⟨A',c - (i+1),by simpa using hs,by simp only [List.length_drop];have:=HC.out;omega,Kd.C_keep (0:Int) (by simp only [List.length_drop];exact HA.out) ((KeepBut.refl w g none).set_ 0 _) (fun ad e hn he=>HG.out (he ▸ hbl ad e hn)),hbl,HG.out⟩
    ·have e1:(d == 0)=false:=beq_eq_false_iff_ne.mpr hz
     by_cases h9:i=9
     ·have e3:((i:Int) == 9)=true:=beq_iff_eq.mpr (by omega)
      by_cases h1:1 < d
      ·have e4:decide ((1:Int) < d)=true:=decide_eq_true h1
       have hn:dec l=none:=dec_bad HBY.out HM.out (by omega) (by omega) (by rw [HD.out];exact hd') (.inr (by rw [HD.out];exact ⟨h9,h1⟩))
       have HN1:=Ak hn
       clear hn hz
       try clear h9
       go_wp2_with ((go_at_call 48;refine (fail_calls P _ g l bad (Rd.drewN HI0.out m1)).mono ?_;rintro e w2 ⟨rfl,hI2,hb2,hk2⟩;have n1_:=Ak hI2;have n2_:=Ak hb2;have n3_:=Ak hk2;clear hI2 hb2 hk2))
       go_ret
       refine ⟨ret_i64 (by unfold numOf;rw [HN1.out]),by unfold aft badOf;rw [HN1.out];simpa using n1_.out,(pw_below_drewN (Below.refl g w) m1).trans n2_.out,n3_.out⟩
      ·have e4:decide ((1:Int) < d)=false:=decide_eq_false h1
       have hy:dec l=some (unzz (valU (l.take (i+1))),l.drop (i+1)):=dec_hit HBY.out HM.out (by omega) (by omega) (by rw [HD.out];exact hd') (by rw [HD.out];omega) (by rw [HD.out];omega)
       have hy2:u'=valU (l.take (i+1)):=by
        rw [valU_take l i (by omega),HD.out,←HU.out (by omega)]
        exact HST.out (by rw [HU.out (by omega)];exact HVL.out) (by omega)
       have HY:=Ak hy
       have HY2:=Ak hy2
       clear hy hy2 hz
       try clear h9
       go_wp2
       go_ret
       refine ⟨ret_i64 (by unfold numOf;rw [HY.out,HY2.out]),?_,belowSet (pw_below_drewN (Below.refl g w) m1) _,(KeepBut.refl w g none).set_ 0 _⟩
       have hs:=blk_set (blk_drewN HK.out m1) 0 (.slice A' (l.length - (i+1)) (c - (i+1)))
       unfold aft badOf;rw [HY.out]
       have hbl:∀ ad,A'=some ad→0 < (l.drop (i+1)).length→P ad.block:=fun ad e hn=>by
        obtain ⟨ad0,h1,h2⟩:=HAB.out ad e
        rw [h2];exact HP.out ad0 h1 (by rw [List.length_drop] at hn;omega)
       exact ⟨A',c - (i+1),by simpa using hs,by simp only [List.length_drop];have:=HC.out;omega,Kd.C_keep (0:Int) (by simp only [List.length_drop];exact HA.out) ((KeepBut.refl w g none).set_ 0 _) (fun ad e hn he=>HG.out (he ▸ hbl ad e hn)),hbl,HG.out⟩
     ·have e3:((i:Int) == 9)=false:=beq_eq_false_iff_ne.mpr (by omega)
      have hy:dec l=some (unzz (valU (l.take (i+1))),l.drop (i+1)):=dec_hit HBY.out HM.out (by omega) (by omega) (by rw [HD.out];exact hd') (by rw [HD.out];omega) (by omega)
      have hy2:u'=valU (l.take (i+1)):=by
       rw [valU_take l i (by omega),HD.out,←HU.out (by omega)]
       exact HST.out (by rw [HU.out (by omega)];exact HVL.out) (by omega)
      have HY:=Ak hy
      have HY2:=Ak hy2
      clear hy hy2 hz
      try clear h9
      go_wp2
      go_ret
      refine ⟨ret_i64 (by unfold numOf;rw [HY.out,HY2.out]),?_,belowSet (pw_below_drewN (Below.refl g w) m1) _,(KeepBut.refl w g none).set_ 0 _⟩
      have hs:=blk_set (blk_drewN HK.out m1) 0 (.slice A' (l.length - (i+1)) (c - (i+1)))
      unfold aft badOf;rw [HY.out]
      have hbl:∀ ad,A'=some ad→0 < (l.drop (i+1)).length→P ad.block:=fun ad e hn=>by
       obtain ⟨ad0,h1,h2⟩:=HAB.out ad e
       rw [h2];exact HP.out ad0 h1 (by rw [List.length_drop] at hn;omega)
      exact ⟨A',c - (i+1),by simpa using hs,by simp only [List.length_drop];have:=HC.out;omega,Kd.C_keep (0:Int) (by simp only [List.length_drop];exact HA.out) ((KeepBut.refl w g none).set_ 0 _) (fun ad e hn he=>HG.out (he ▸ hbl ad e hn)),hbl,HG.out⟩
  ·have hb1:decide ((i:Int) < (m:Int))=false:=decide_eq_false (by omega)
   have hn:dec l=none:=dec_end HBY.out HM.out (by have:=HE.out;omega) (by have:=HE.out;omega) (by have:=HM1.out;have:=HE.out;omega)
   have HN1:=Ak hn
   clear hn
   go_wp2_with ((go_at_call 48;refine (fail_calls P _ g l bad (Rd.drewN HI0.out m1)).mono ?_;rintro e w2 ⟨rfl,hI2,hb2,hk2⟩;have n1_:=Ak hI2;have n2_:=Ak hb2;have n3_:=Ak hk2;clear hI2 hb2 hk2))
   go_ret
   refine ⟨ret_i64 (by unfold numOf;rw [HN1.out]),by unfold aft badOf;rw [HN1.out];simpa using n1_.out,(pw_below_drewN (Below.refl g w) m1).trans n2_.out,n3_.out⟩
end Go.Proofs.YtocpcnmnhckcpaaGreat.Num
namespace Go.Proofs.YtocpcnmnhckcpaaGreat.Num
open RowKit YtocpcnmnhckcpaaGreatW.PrintWords YtocpcnmnhckcpaaGreatW.PrintLast YtocpcnmnhckcpaaGreatW.PrintMore
attribute [local go_sem] max2_int min2_int max_two min_two
def textOf (l:List Int):ByteArray:=match decT l with | none=>ByteArray.empty | some q=>strOfNums q.1
def aftT (l:List Int):List Int:=match decT l with | none=>[] | some q=>q.2
def badT (l:List Int) (bad:Bool):Bool:=bad || (decT l).isNone
theorem aft_bytes {l:List Int} (h:isBytes l):isBytes (aft l):=by
 unfold aft
 cases hd:dec l with
 | none=>intro c hc;simp at hc
 | some q=>have:=(dec_sound h hd).1;rw [this] at h;exact (isBytes_append.1 h).2
theorem numOf_i64 {l:List Int} (h:isBytes l):i64 (numOf l):=by
 unfold numOf
 cases hd:dec l with
 | none=>exact ⟨by simp,by simp⟩
 | some q=>exact (dec_sound h hd).2
theorem num_calls' (x:Int) (P:Nat→Prop) (w:World) (g:Nat) (l:List Int) (bad:Bool) (hI:Rd 85 P w g l bad) (hb:isBytes l) (hx:numOf l=x) :
  Calls Tryz.prog 17 #[.pointer (some ⟨g,0,none⟩)] w fun e w'=>e = .returned (.int .i64 x)∧Rd 85 P w' g (aft l) (badOf l bad)∧Below g w w'∧KeepBut w w' g none:=by
 subst hx;exact num_calls P w g l bad hI hb
theorem keep_step {w w1 w2:World} {g:Nat} (h:KeepBut w w1 g none) (k:KeepBut w1 w2 g none):KeepBut w w2 g none:=h.trans k (.inl rfl)
theorem decT_num {l:List Int} {n:Nat} (h:numOf l=(n:Int)) (hn:n≤(aft l).length) (hs:(dec l).isSome=true):decT l=some ((aft l).take n,(aft l).drop n):=by
 unfold numOf aft at *
 unfold decT
 cases hd:dec l with
 | none=>rw [hd] at hs;simp at hs
 | some q=>
  rw [hd] at h hn
  simp only at h hn
  simp only [Option.bind_some]
  rw [if_neg (by omega),h];simp
theorem decT_none0 {l:List Int} (h:(dec l).isSome=false):decT l=none:=by
 unfold decT
 cases hd:dec l with
 | none=>rfl
 | some q=>rw [hd] at h;simp at h
theorem decT_none1 {l:List Int} (h:numOf l < 0∨((aft l).length:Int) < numOf l):decT l=none:=by
 unfold numOf aft at *
 unfold decT
 cases hd:dec l with
 | none=>rfl
 | some q=>rw [hd] at h;simp only at h;simp only [Option.bind_some];rw [if_pos h]
theorem num_none {l:List Int} (h:(dec l).isSome=false):numOf l=0∧aft l=[]∧∀ b,badOf l b=true:=by
 unfold numOf aft badOf
 cases hd:dec l with
 | none=>exact ⟨rfl,rfl,fun b=>by simp⟩
 | some q=>rw [hd] at h;simp at h
theorem bad_some {l:List Int} (h:(dec l).isSome=true) (b:Bool):badOf l b=b:=by
 unfold badOf
 cases hd:dec l with
 | none=>rw [hd] at h;simp at h
 | some q=>simp
theorem textEnd {l:List Int} (n:Nat) (h:numOf l=(n:Int)) (hn:n≤(aft l).length) (bad:Bool) :
  textOf l=strOfNums ((aft l).take n)∧aftT l=(aft l).drop n∧badT l bad=badOf l bad:=by
 cases hs:(dec l).isSome with
 | true=>
  have hd:=decT_num h hn hs
  unfold textOf aftT badT
  rw [hd,bad_some hs]
  exact ⟨rfl,rfl,by simp⟩
 | false=>
  have hd:=decT_none0 hs
  obtain ⟨h1,h2,h3⟩:=num_none hs
  unfold textOf aftT badT
  rw [hd,h2,h3]
  exact ⟨by simp [strOfNums];rfl,by simp,by simp⟩
theorem textNone {l:List Int} (h:numOf l < 0∨((aft l).length:Int) < numOf l) (bad:Bool):textOf l=ByteArray.empty∧aftT l=[]∧badT l bad=true:=by
 unfold textOf aftT badT
 rw [decT_none1 h]
 exact ⟨rfl,rfl,by simp⟩
theorem take_C {w:World} {A:Option Addr} {l:List Int} {n:Nat} (h:(Kd.int .u8).C w A l.length l) (hn:n≤l.length):(Kd.int .u8).C w A n (l.take n):=by
 have h2:=Kd.C_take h hn
 rwa [List.length_take,Nat.min_eq_left hn] at h2
theorem info_size:∃ i0,Tryz.prog.info? 5=some i0∧i0.size=1:=by obtain ⟨i0,h1,h2⟩:=Option.map_eq_some_iff.1 size_u8;exact ⟨i0,h1,h2⟩
set_option maxRecDepth 100000 in
theorem text_calls (P:Nat→Prop) (w:World) (g:Nat) (l:List Int) (bad:Bool) (hI:Rd 85 P w g l bad) (hb:isBytes l) :
  Calls Tryz.prog 18 #[.pointer (some ⟨g,0,none⟩)] w fun e w'=>e = .returned (.string (textOf l))∧Rd 85 P w' g (aftT l) (badT l bad)∧Below g w w'∧KeepBut w w' g none:=by
 have hn64:=numOf_i64 hb
 obtain ⟨x,hx⟩:∃ x,numOf l=x:=⟨_,rfl⟩
 rw [hx] at hn64
 obtain ⟨hx1,hx2⟩:=hn64
 have HX:=Ak hx
 by_cases hneg:x < 0
 ·have e1:decide (x < 0)=true:=decide_eq_true hneg
  obtain ⟨t1,t2,t3⟩:=textNone (l:=l) (.inl (by omega)) bad
  rw [t1,t2,t3]
  go_enter Tryz.func18,Tryz.ntmps18
  go_wp2_with (first | (go_at_call 17;refine (num_calls' x P w g l bad hI hb hx).mono ?_;rintro e w1 ⟨rfl,hI2,hb2,hk2⟩;have HI2:=Ak hI2;obtain ⟨A,c,hblk,hc,hr,hP,hg⟩:=hI2;have hc0:w1.cell? ⟨g,0,none⟩=some (.slice A (aft l).length c):=blk_cell hblk 0;have hf0:w1.frozen? ⟨g,0,none⟩=false:=blk_frozen hblk 0;have HBK:=Ak hblk;have HG:=Ak hg;have HC:=Ak hc;have HR:=Ak hr;have HP:=Ak hP;have HB:=Ak hb2;have HK:=Ak hk2;clear hblk hg hc hr hb2 hk2 hP) | (go_at_call 48;refine (fail_calls P _ g (aft l) (badOf l bad) HI2.out).mono ?_;rintro e w2 ⟨rfl,hI3,hb2,hk2⟩;have n1_:=Ak hI3;have n2_:=Ak (HB.out.trans hb2);have n3_:=Ak (keep_step HK.out hk2);clear hI3 hb2 hk2))
  go_ret
  exact ⟨rfl,n1_.out,n2_.out,n3_.out⟩
 ·have e1:decide (x < 0)=false:=decide_eq_false hneg
  by_cases hbig:((aft l).length:Int) < x
  ·have e2:decide (((aft l).length:Int) < x)=true:=decide_eq_true hbig
   obtain ⟨t1,t2,t3⟩:=textNone (l:=l) (.inr (by omega)) bad
   rw [t1,t2,t3]
   go_enter Tryz.func18,Tryz.ntmps18
   go_wp2_with (first | (go_at_call 17;refine (num_calls' x P w g l bad hI hb hx).mono ?_;rintro e w1 ⟨rfl,hI2,hb2,hk2⟩;have HI2:=Ak hI2;obtain ⟨A,c,hblk,hc,hr,hP,hg⟩:=hI2;have hc0:w1.cell? ⟨g,0,none⟩=some (.slice A (aft l).length c):=blk_cell hblk 0;have hf0:w1.frozen? ⟨g,0,none⟩=false:=blk_frozen hblk 0;have HBK:=Ak hblk;have HG:=Ak hg;have HC:=Ak hc;have HR:=Ak hr;have HP:=Ak hP;have HB:=Ak hb2;have HK:=Ak hk2;clear hblk hg hc hr hb2 hk2 hP) | (go_at_call 48;refine (fail_calls P _ g (aft l) (badOf l bad) HI2.out).mono ?_;rintro e w2 ⟨rfl,hI3,hb2,hk2⟩;have n1_:=Ak hI3;have n2_:=Ak (HB.out.trans hb2);have n3_:=Ak (keep_step HK.out hk2);clear hI3 hb2 hk2))
   go_ret
   exact ⟨rfl,n1_.out,n2_.out,n3_.out⟩
  ·have e2:decide (((aft l).length:Int) < x)=false:=decide_eq_false hbig
   obtain ⟨n,rfl⟩:=Int.eq_ofNat_of_zero_le (show 0≤x by omega)
   obtain ⟨t1,t2,t3⟩:=textEnd (l:=l) n hx (by omega) bad
   rw [t1,t2,t3]
   have hna:n≤(aft l).length:=by omega
   go_enter Tryz.func18,Tryz.ntmps18
   go_wp2_with ((go_at_call 17;refine (num_calls' (n:Int) P w g l bad hI hb hx).mono ?_;rintro e w1 ⟨rfl,hI2,hb2,hk2⟩;have HI2:=Ak hI2;obtain ⟨A,c,hblk,hc,hr,hP,hg⟩:=hI2;have hc0:w1.cell? ⟨g,0,none⟩=some (.slice A (aft l).length c):=blk_cell hblk 0;have hf0:w1.frozen? ⟨g,0,none⟩=false:=blk_frozen hblk 0;have HBK:=Ak hblk;have HG:=Ak hg;have HC:=Ak hc;have HR:=Ak hr;have HP:=Ak hP;have HB:=Ak hb2;have HK:=Ak hk2;clear hblk hg hc hr hb2 hk2 hP;have hnc:n≤c:=(by have:=HC.out;omega);have hcv:=Kd.C_string (P:=Tryz.prog) (c:=c) Tryz.underlying23 Tryz.underlying5 Tryz.underlying9 (take_C HR.out hna);obtain ⟨i0,hi0,hi1⟩:=info_size;obtain ⟨A',hcut,hA',hAb⟩:=cutL (P:=Tryz.prog) 23 5 .i64 Tryz.underlying23 hi0 hi1 A (aft l).length c n hna;have HA:=Ak (hA' w1 (aft l) HC.out HR.out);have HAB:=Ak hAb;clear hA' hi0 hi1 hAb))
   go_ret
   have hs:=blk_set HBK.out 0 (.slice A' ((aft l).length - n) (c - n))
   have hbl:∀ ad,A'=some ad→0 < ((aft l).drop n).length→P ad.block:=fun ad e hn=>by
    obtain ⟨ad0,h1,h2⟩:=HAB.out ad e
    rw [h2];exact HP.out ad0 h1 (by rw [List.length_drop] at hn;omega)
   refine ⟨rfl,⟨A',c - n,by simpa using hs,by simp only [List.length_drop];(have:=HC.out;omega),Kd.C_keep (0:Int) (by simp only [List.length_drop];exact HA.out) ((KeepBut.refl w1 g none).set_ 0 _) (fun ad e hn he=>HG.out (he ▸ hbl ad e hn)),hbl,HG.out⟩,belowSet HB.out _,HK.out.set_ 0 _⟩
theorem refFail_calls (P:Nat→Prop) (w:World) (g:Nat) (l:List Int) (bad:Bool) (hI:Rd 60 P w g l bad) :
  Calls Tryz.prog 59 #[.pointer (some ⟨g,0,none⟩)] w fun e w'=>e = .returned (.tuple #[])∧Rd 60 P w' g [] true∧Below g w w'∧KeepBut w w' g none:=by
 obtain ⟨A,c,hblk,hc,hr,hP,hg⟩:=hI
 have hc0:=blk_cell hblk 0
 have hc1:=blk_cell hblk 1
 have hf0:=blk_frozen hblk 0
 have hf1:=blk_frozen hblk 1
 have HK:=Ak hblk
 have HG:=Ak hg
 clear hblk hr hc hP hg
 go_enter Tryz.func59,Tryz.ntmps59
 go_wp2
 go_end0
 have h2:=blk_set (blk_set HK.out 1 (.bool true)) 0 (.slice none 0 0)
 exact ⟨rfl,⟨none,0,by simpa using h2,Nat.le_refl _,Kd.C_nil _ _,(fun _ h _=>by cases h),HG.out⟩,belowSet (belowSet (Below.refl g w) _) _,((KeepBut.refl w g none).set_ 1 _).set_ 0 _⟩
theorem refNum_calls (P:Nat→Prop) (w:World) (g:Nat) (l:List Int) (bad:Bool) (hI:Rd 60 P w g l bad) (hb:isBytes l) :
  Calls Tryz.prog 23 #[.pointer (some ⟨g,0,none⟩)] w fun e w'=>e = .returned (.int .i64 (numOf l))∧Rd 60 P w' g (aft l) (badOf l bad)∧Below g w w'∧KeepBut w w' g none:=by
 have HI0:=Ak hI
 obtain ⟨A,c,hblk,hc,hr,hP,hg⟩:=hI
 have hc0:w.cell? ⟨g,0,none⟩=some (.slice A l.length c):=blk_cell hblk 0
 have hf0:w.frozen? ⟨g,0,none⟩=false:=blk_frozen hblk 0
 have HBK:=Ak hblk
 have HG:=Ak hg
 have HC:=Ak hc
 have HR:=Ak hr
 have HP:=Ak hP
 have HBY:=Ak hb
 clear hblk hr hg hb hc hP
 obtain ⟨n,hn⟩:∃ n,n=lenD l:=⟨_,rfl⟩
 by_cases h0:n=0
 ·have hd:=dec_len0 HBY.out (hn ▸ h0)
  have HD:=Ak hd
  have HN:=Ak (show (lenD l:Int)=0 by omega)
  have e0:((0:Int) == 0)=true:=rfl
  clear hd h0 hn
  go_enter Tryz.func23,Tryz.ntmps23
  go_wp2_with (first | (go_at_call 58;refine (length_calls A c l w HR.out HC.out HBY.out).mono ?_;rw [HN.out];rintro e w1 ⟨rfl,⟨m1,rfl⟩⟩) | (go_at_call 59;refine (refFail_calls P _ g l bad (Rd.drewN HI0.out m1)).mono ?_;rintro e w2 ⟨rfl,hI2,hb2,hk2⟩;have n1_:=Ak hI2;have n2_:=Ak hb2;have n3_:=Ak hk2;clear hI2 hb2 hk2))
  go_ret
  exact ⟨ret_i64 (by unfold numOf;rw [HD.out]),by unfold aft badOf;rw [HD.out];simpa using n1_.out,(pw_below_drewN (Below.refl g w) m1).trans n2_.out,n3_.out⟩
 ·obtain ⟨d1,d2,d3⟩:=dec_len HBY.out (hn ▸ h0)
  rw [←hn] at d1 d2 d3
  have HD:=Ak d1
  have HN:=Ak (show (lenD l:Int)=(n:Int) by rw [hn])
  have HV:=Ak d3
  have e0:((n:Int) == 0)=false:=beq_eq_false_iff_ne.mpr (by omega)
  have hnc:n≤c:=by have:=HC.out;omega
  have hml:=Kd.C_max HR.out
  clear d1 d3 hn
  obtain ⟨i0,hi0,hi1⟩:=info_size
  obtain ⟨A',hcut,hA',hAb⟩:=cutL (P:=Tryz.prog) 23 5 .i64 Tryz.underlying23 hi0 hi1 A l.length c n d2
  have HA:=Ak (hA' w l HC.out HR.out)
  have hbl:∀ ad,A'=some ad→0 < (l.drop n).length→P ad.block:=fun ad e hn=>by
   obtain ⟨ad0,h1,h2⟩:=hAb ad e
   rw [h2];exact HP.out ad0 h1 (by rw [List.length_drop] at hn;omega)
  have HBL:=Ak hbl
  clear hA' hi0 hi1 hAb hbl
  go_enter Tryz.func23,Tryz.ntmps23
  go_wp2_with ((go_at_call 58;refine (length_calls A c l w HR.out HC.out HBY.out).mono ?_;rw [HN.out];rintro e w1 ⟨rfl,⟨m1,rfl⟩⟩))
  go_loopg [4,5] n (fun k v4 v5 w'=>∃ u:Nat,v4 = .int .u64 (u:Int)∧v5 = .int .i64 ((k:Int) - 1)∧Aside0 (u=valU ((l.take n).drop k))∧Aside0 (k≤n)∧Drawn0 w w')
  case atStart=>exact ⟨0,rfl,rfl,⟨by rw [List.drop_eq_nil_of_le (by rw [List.length_take];omega)];rfl⟩,⟨Nat.le_refl _⟩,⟨_,rfl⟩⟩
  case round=>
   obtain ⟨u,rfl,rfl,HU,HK,⟨m2,rfl⟩⟩:=hrel
   cases gk with
   | zero=>
    have e1:decide ((0:Int)≤((0:Nat):Int) - 1)=false:=by decide
    have hun:u=valU (l.take n):=by have:=HU.out;simpa using this
    have hu:u < 18446744073709551616:=by rw [hun];exact HV.out
    have HUN:=Ak (show numOf l=unzz u by unfold numOf;rw [HD.out,hun])
    clear hun
    by_cases hodd:u % 2=1
    ·have e2:((u:Int) % 2 == 1)=true:=beq_iff_eq.mpr (by omega)
     go_wp2
     go_ret
     refine ⟨ret_i64 (by rw [HUN.out];unfold unzz;rw [if_pos hodd];omega),?_,belowSet (pw_below_drewN (Below.refl g w) _) _,(KeepBut.refl w g none).set_ 0 _⟩
     have hs:=blk_set (blk_drewN HBK.out m2) 0 (.slice A' (l.length - n) (c - n))
     unfold aft badOf;rw [HD.out]
     exact ⟨A',c - n,by simpa using hs,by simp only [List.length_drop];(have:=HC.out;omega),Kd.C_keep (0:Int) (by simp only [List.length_drop];exact HA.out) ((KeepBut.refl w g none).set_ 0 _) (fun ad e hn he=>HG.out (he ▸ HBL.out ad e hn)),HBL.out,HG.out⟩
    ·have e2:((u:Int) % 2 == 1)=false:=beq_eq_false_iff_ne.mpr (by omega)
     go_wp2
     go_ret
     refine ⟨ret_i64 (by rw [HUN.out];unfold unzz;rw [if_neg hodd];omega),?_,belowSet (pw_below_drewN (Below.refl g w) _) _,(KeepBut.refl w g none).set_ 0 _⟩
     have hs:=blk_set (blk_drewN HBK.out m2) 0 (.slice A' (l.length - n) (c - n))
     unfold aft badOf;rw [HD.out]
     exact ⟨A',c - n,by simpa using hs,by simp only [List.length_drop];(have:=HC.out;omega),Kd.C_keep (0:Int) (by simp only [List.length_drop];exact HA.out) ((KeepBut.refl w g none).set_ 0 _) (fun ad e hn he=>HG.out (he ▸ HBL.out ad e hn)),HBL.out,HG.out⟩
   | succ k=>
    have hk:=HK.out
    have e5:((k+1:Nat):Int) - 1=(k:Int):=by omega
    rw [e5]
    clear e5
    have e1:decide ((0:Int)≤(k:Int))=true:=decide_eq_true (by omega)
    have hg:=getD_bytes HBY.out k
    obtain ⟨ad,rfl,hx⟩:=Kd.at_int HR.out (k:Int) (by omega) (by omega)
    rw [Int.toNat_natCast] at hx
    obtain ⟨d,hd0⟩:∃ d:Nat,(d:Int)=rd l (k:Int):=⟨(rd l (k:Int)).toNat,by have:rd l (k:Int)=l.getD k 0:=rfl;omega⟩
    have hd1:l.getD k 0=(d:Int):=by rw [hd0];rfl
    rw [←hd0] at hx
    rw [hd1] at hg
    have hst:valU ((l.take n).drop k)=d % 128+128 * u:=by
     rw [valU_drop_step _ k (by rw [List.length_take];omega),HU.out]
     congr 1
     rw [show (l.take n).getD k 0=l.getD k 0 by rw [List.getD_eq_getElem?_getD,List.getElem?_take,if_pos (by omega),List.getD_eq_getElem?_getD],hd1];omega
    have hle:=Nat.le_trans (Nat.le_of_eq hst.symm) (valU_drop_le (l.take n) k)
    have hv:=HV.out
    have hfit:d % 128+128 * u < 18446744073709551616:=Nat.lt_of_le_of_lt hle hv
    have HST:=Ak hst
    have hkl:k < l.length:=by omega
    clear hd0 hd1 hst hle hv
    go_wp2
    go_roundg k
    case measure=>omega
    case rel=>exact ⟨u * 128+d % 128,by go_num,rfl,⟨by rw [HST.out];omega⟩,⟨by omega⟩,⟨m2,rfl⟩⟩
theorem refNum_calls' (x:Int) (P:Nat→Prop) (w:World) (g:Nat) (l:List Int) (bad:Bool) (hI:Rd 60 P w g l bad) (hb:isBytes l) (hx:numOf l=x) :
  Calls Tryz.prog 23 #[.pointer (some ⟨g,0,none⟩)] w fun e w'=>e = .returned (.int .i64 x)∧Rd 60 P w' g (aft l) (badOf l bad)∧Below g w w'∧KeepBut w w' g none:=by
 subst hx;exact refNum_calls P w g l bad hI hb
set_option maxRecDepth 100000 in
theorem refText_calls (P:Nat→Prop) (w:World) (g:Nat) (l:List Int) (bad:Bool) (hI:Rd 60 P w g l bad) (hb:isBytes l) :
  Calls Tryz.prog 24 #[.pointer (some ⟨g,0,none⟩)] w fun e w'=>e = .returned (.string (textOf l))∧Rd 60 P w' g (aftT l) (badT l bad)∧Below g w w'∧KeepBut w w' g none:=by
 have hn64:=numOf_i64 hb
 obtain ⟨x,hx⟩:∃ x,numOf l=x:=⟨_,rfl⟩
 rw [hx] at hn64
 obtain ⟨hx1,hx2⟩:=hn64
 have HX:=Ak hx
 by_cases hneg:x < 0
 ·have e1:decide (x < 0)=true:=decide_eq_true hneg
  obtain ⟨t1,t2,t3⟩:=textNone (l:=l) (.inl (by omega)) bad
  rw [t1,t2,t3]
  go_enter Tryz.func24,Tryz.ntmps24
  go_wp2_with (first | (go_at_call 23;refine (refNum_calls' x P w g l bad hI hb hx).mono ?_;rintro e w1 ⟨rfl,hI2,hb2,hk2⟩;have HI2:=Ak hI2;obtain ⟨A,c,hblk,hc,hr,hP,hg⟩:=hI2;have hc0:w1.cell? ⟨g,0,none⟩=some (.slice A (aft l).length c):=blk_cell hblk 0;have hf0:w1.frozen? ⟨g,0,none⟩=false:=blk_frozen hblk 0;have HBK:=Ak hblk;have HG:=Ak hg;have HC:=Ak hc;have HR:=Ak hr;have HP:=Ak hP;have HB:=Ak hb2;have HK:=Ak hk2;clear hblk hg hc hr hb2 hk2 hP) | (go_at_call 59;refine (refFail_calls P _ g (aft l) (badOf l bad) HI2.out).mono ?_;rintro e w2 ⟨rfl,hI3,hb2,hk2⟩;have n1_:=Ak hI3;have n2_:=Ak (HB.out.trans hb2);have n3_:=Ak (keep_step HK.out hk2);clear hI3 hb2 hk2))
  go_ret
  exact ⟨rfl,n1_.out,n2_.out,n3_.out⟩
 ·have e1:decide (x < 0)=false:=decide_eq_false hneg
  by_cases hbig:((aft l).length:Int) < x
  ·have e2:decide (((aft l).length:Int) < x)=true:=decide_eq_true hbig
   obtain ⟨t1,t2,t3⟩:=textNone (l:=l) (.inr (by omega)) bad
   rw [t1,t2,t3]
   go_enter Tryz.func24,Tryz.ntmps24
   go_wp2_with (first | (go_at_call 23;refine (refNum_calls' x P w g l bad hI hb hx).mono ?_;rintro e w1 ⟨rfl,hI2,hb2,hk2⟩;have HI2:=Ak hI2;obtain ⟨A,c,hblk,hc,hr,hP,hg⟩:=hI2;have hc0:w1.cell? ⟨g,0,none⟩=some (.slice A (aft l).length c):=blk_cell hblk 0;have hf0:w1.frozen? ⟨g,0,none⟩=false:=blk_frozen hblk 0;have HBK:=Ak hblk;have HG:=Ak hg;have HC:=Ak hc;have HR:=Ak hr;have HP:=Ak hP;have HB:=Ak hb2;have HK:=Ak hk2;clear hblk hg hc hr hb2 hk2 hP) | (go_at_call 59;refine (refFail_calls P _ g (aft l) (badOf l bad) HI2.out).mono ?_;rintro e w2 ⟨rfl,hI3,hb2,hk2⟩;have n1_:=Ak hI3;have n2_:=Ak (HB.out.trans hb2);have n3_:=Ak (keep_step HK.out hk2);clear hI3 hb2 hk2))
   go_ret
   exact ⟨rfl,n1_.out,n2_.out,n3_.out⟩
  ·have e2:decide (((aft l).length:Int) < x)=false:=decide_eq_false hbig
   obtain ⟨n,rfl⟩:=Int.eq_ofNat_of_zero_le (show 0≤x by omega)
   obtain ⟨t1,t2,t3⟩:=textEnd (l:=l) n hx (by omega) bad
   rw [t1,t2,t3]
   have hna:n≤(aft l).length:=by omega
   go_enter Tryz.func24,Tryz.ntmps24
   go_wp2_with ((go_at_call 23;refine (refNum_calls' (n:Int) P w g l bad hI hb hx).mono ?_;rintro e w1 ⟨rfl,hI2,hb2,hk2⟩;have HI2:=Ak hI2;obtain ⟨A,c,hblk,hc,hr,hP,hg⟩:=hI2;have hc0:w1.cell? ⟨g,0,none⟩=some (.slice A (aft l).length c):=blk_cell hblk 0;have hf0:w1.frozen? ⟨g,0,none⟩=false:=blk_frozen hblk 0;have HBK:=Ak hblk;have HG:=Ak hg;have HC:=Ak hc;have HR:=Ak hr;have HP:=Ak hP;have HB:=Ak hb2;have HK:=Ak hk2;clear hblk hg hc hr hb2 hk2 hP;have hnc:n≤c:=(by have:=HC.out;omega);have hcv:=Kd.C_string (P:=Tryz.prog) (c:=c) Tryz.underlying23 Tryz.underlying5 Tryz.underlying9 (take_C HR.out hna);obtain ⟨i0,hi0,hi1⟩:=info_size;obtain ⟨A',hcut,hA',hAb⟩:=cutL (P:=Tryz.prog) 23 5 .i64 Tryz.underlying23 hi0 hi1 A (aft l).length c n hna;have HA:=Ak (hA' w1 (aft l) HC.out HR.out);have HAB:=Ak hAb;clear hA' hi0 hi1 hAb))
   go_ret
   have hs:=blk_set HBK.out 0 (.slice A' ((aft l).length - n) (c - n))
   have hbl:∀ ad,A'=some ad→0 < ((aft l).drop n).length→P ad.block:=fun ad e hn=>by
    obtain ⟨ad0,h1,h2⟩:=HAB.out ad e
    rw [h2];exact HP.out ad0 h1 (by rw [List.length_drop] at hn;omega)
   refine ⟨rfl,⟨A',c - n,by simpa using hs,by simp only [List.length_drop];(have:=HC.out;omega),Kd.C_keep (0:Int) (by simp only [List.length_drop];exact HA.out) ((KeepBut.refl w1 g none).set_ 0 _) (fun ad e hn he=>HG.out (he ▸ hbl ad e hn)),hbl,HG.out⟩,belowSet HB.out _,HK.out.set_ 0 _⟩
end Go.Proofs.YtocpcnmnhckcpaaGreat.Num
namespace Go.Proofs.YtocpcnmnhckcpaaGreat.Prt
open RowKit YtocpcnmnhckcpaaGreatW.PrintWords YtocpcnmnhckcpaaGreatW.PrintLast YtocpcnmnhckcpaaGreatW.PrintMore
attribute [local go_sem] max2_int min2_int max_two min_two max_three min_three max_four min_four
theorem info5:(Tryz.prog.info? 5).map (fun i=>(i.zero,i.size,i.bytes))=some (some (.int .u8 0),1,1):=by kernel_rfl
theorem info9:(Tryz.prog.info? 9).map (fun i=>(i.zero,i.size,i.bytes))=some (some (.string ⟨#[]⟩),1,16):=by kernel_rfl
structure S90 where
 f0:ByteArray
 f1:Int
def z90:S90:=⟨(⟨#[]⟩:ByteArray),(0:Int)⟩
def k90:Kd S90:=Kd.iso (Kd.pair Kd.string (Kd.int .i64)) (fun x:S90=>(x.f0,x.f1))
theorem k90_open {w:World} {x:S90} {cs:List Value} (h:k90.K w x cs):cs=[.string x.f0,.int .i64 x.f1]:=by
 obtain ⟨_,_,rfl,rfl,rfl⟩:=h
 exact rfl
theorem k90_mkM (w:World) (base:Nat) (ok:Nat→Prop) (x:S90)  : k90.M w base ok x [.string x.f0,.int .i64 x.f1]:=⟨[.string x.f0],[.int .i64 x.f1],rfl,rfl,rfl⟩
def rd_T90 (xs:List S90) (i:Int):S90:=xs.getD i.toNat z90
theorem at_T90 {w:World} {A:Option Addr} {n:Nat} {xs:List S90} (h:Kd.C k90 w A n xs) (i:Int) (h0:0≤i) (h1:i < n):∃ ad ,A=some ad∧w.cell? (ad.add (i.toNat * 2))=some (.string (rd_T90 xs i).f0)∧w.cell? ⟨(ad.add (i.toNat * 2)).block,(ad.add (i.toNat * 2)).off+1,none⟩=some (.int .i64 (rd_T90 xs i).f1):=by
 obtain ⟨ad,c,e,_,hK,hc0⟩:=Kd.C_get h z90 i h0 h1
 have hc:∀ j u,c[j]? = some u→w.cell? (ad.add (i.toNat * 2+j))=some u:=hc0
 obtain rfl:=k90_open hK
 exact ⟨ad,e,hc 0 _ rfl,by rw [←add_field _ _ 1 (by omega)];exact hc 1 _ rfl⟩
structure S29 where
 f0:ByteArray
 f1:ByteArray
 f2:(List ByteArray)
 f3:(List S90)
def z29:S29:=⟨(⟨#[]⟩:ByteArray),(⟨#[]⟩:ByteArray),([]:List ByteArray),([]:List S90)⟩
def k29:Kd S29:=Kd.iso (Kd.pair Kd.string (Kd.pair Kd.string (Kd.pair (Kd.slice 9 Kd.string) (Kd.slice 90 k90)))) (fun x:S29=>(x.f0,x.f1,x.f2,x.f3))
theorem k29_open {w:World} {x:S29} {cs:List Value} (h:k29.K w x cs):∃ A2 c2 A3 c3,cs=[.string x.f0,.string x.f1,.slice A2 x.f2.length c2,.slice A3 x.f3.length c3]∧x.f2.length≤c2∧Kd.string.C w A2 x.f2.length x.f2∧x.f3.length≤c3∧k90.C w A3 x.f3.length x.f3:=by
 obtain ⟨_,_,rfl,rfl,⟨_,_,rfl,rfl,⟨_,_,rfl,⟨A2,c2,rfl,l2,g2⟩,⟨A3,c3,rfl,l3,g3⟩⟩⟩⟩:=h
 exact ⟨A2,c2,A3,c3,rfl,l2,g2,l3,g3⟩
theorem k29_mk (w:World) (x:S29) {A2:Option Addr} {c2:Nat} (l2:x.f2.length≤c2) (g2:Kd.string.C w A2 x.f2.length x.f2) {A3:Option Addr} {c3:Nat} (l3:x.f3.length≤c3) (g3:k90.C w A3 x.f3.length x.f3):k29.K w x [.string x.f0,.string x.f1,.slice A2 x.f2.length c2,.slice A3 x.f3.length c3]:=⟨[.string x.f0],[.string x.f1,.slice A2 x.f2.length c2,.slice A3 x.f3.length c3],rfl,rfl,⟨[.string x.f1],[.slice A2 x.f2.length c2,.slice A3 x.f3.length c3],rfl,rfl,⟨[.slice A2 x.f2.length c2],[.slice A3 x.f3.length c3],rfl,⟨A2,c2,rfl,l2,g2⟩,⟨A3,c3,rfl,l3,g3⟩⟩⟩⟩
theorem k29_mkM (w:World) (base:Nat) (ok:Nat→Prop) (x:S29) {v2:Value} (g2:Kd.string.R 9 w base ok v2 x.f2) {v3:Value} (g3:k90.R 90 w base ok v3 x.f3):k29.M w base ok x [.string x.f0,.string x.f1,v2,v3]:=⟨[.string x.f0],[.string x.f1,v2,v3],rfl,rfl,⟨[.string x.f1],[v2,v3],rfl,rfl,⟨[v2],[v3],rfl,⟨v2,rfl,g2⟩,⟨v3,rfl,g3⟩⟩⟩⟩
structure S96 where
 f0:(List ByteArray)
 f1:(List ByteArray)
def z96:S96:=⟨([]:List ByteArray),([]:List ByteArray)⟩
def k96:Kd S96:=Kd.iso (Kd.pair (Kd.slice 9 Kd.string) (Kd.slice 9 Kd.string)) (fun x:S96=>(x.f0,x.f1))
theorem k96_open {w:World} {x:S96} {cs:List Value} (h:k96.K w x cs):∃ A0 c0 A1 c1,cs=[.slice A0 x.f0.length c0,.slice A1 x.f1.length c1]∧x.f0.length≤c0∧Kd.string.C w A0 x.f0.length x.f0∧x.f1.length≤c1∧Kd.string.C w A1 x.f1.length x.f1:=by
 obtain ⟨_,_,rfl,⟨A0,c0,rfl,l0,g0⟩,⟨A1,c1,rfl,l1,g1⟩⟩:=h
 exact ⟨A0,c0,A1,c1,rfl,l0,g0,l1,g1⟩
theorem k96_mkM (w:World) (base:Nat) (ok:Nat→Prop) (x:S96) {v0:Value} (g0:Kd.string.R 9 w base ok v0 x.f0) {v1:Value} (g1:Kd.string.R 9 w base ok v1 x.f1):k96.M w base ok x [v0,v1]:=⟨[v0],[v1],rfl,⟨v0,rfl,g0⟩,⟨v1,rfl,g1⟩⟩
def rd_T96 (xs:List S96) (i:Int):S96:=xs.getD i.toNat z96
theorem at_T96 {w:World} {A:Option Addr} {n:Nat} {xs:List S96} (h:Kd.C k96 w A n xs) (i:Int) (h0:0≤i) (h1:i < n):∃ ad A0 c0 A1 c1,A=some ad∧w.cell? (ad.add (i.toNat * 2))=some (.slice A0 (rd_T96 xs i).f0.length c0)∧w.cell? ⟨(ad.add (i.toNat * 2)).block,(ad.add (i.toNat * 2)).off+1,none⟩=some (.slice A1 (rd_T96 xs i).f1.length c1)∧(rd_T96 xs i).f0.length≤c0∧Kd.string.C w A0 (rd_T96 xs i).f0.length (rd_T96 xs i).f0∧(rd_T96 xs i).f1.length≤c1∧Kd.string.C w A1 (rd_T96 xs i).f1.length (rd_T96 xs i).f1:=by
 obtain ⟨ad,c,e,_,hK,hc0⟩:=Kd.C_get h z96 i h0 h1
 have hc:∀ j u,c[j]? = some u→w.cell? (ad.add (i.toNat * 2+j))=some u:=hc0
 obtain ⟨A0,c0,A1,c1,rfl,l0,g0,l1,g1⟩:=k96_open hK
 exact ⟨ad,A0,c0,A1,c1,e,hc 0 _ rfl,by rw [←add_field _ _ 1 (by omega)];exact hc 1 _ rfl,l0,g0,l1,g1⟩
structure S32 where
 f0:(List S96)
def z32:S32:=⟨([]:List S96)⟩
def k32:Kd S32:=Kd.iso (Kd.slice 96 k96) (fun x:S32=>x.f0)
theorem k32_open {w:World} {x:S32} {cs:List Value} (h:k32.K w x cs):∃ A0 c0,cs=[.slice A0 x.f0.length c0]∧x.f0.length≤c0∧k96.C w A0 x.f0.length x.f0:=by
 obtain ⟨A0,c0,rfl,l0,g0⟩:=h
 exact ⟨A0,c0,rfl,l0,g0⟩
theorem k32_mk (w:World) (x:S32) {A0:Option Addr} {c0:Nat} (l0:x.f0.length≤c0) (g0:k96.C w A0 x.f0.length x.f0):k32.K w x [.slice A0 x.f0.length c0]:=⟨A0,c0,rfl,l0,g0⟩
theorem k32_mkM (w:World) (base:Nat) (ok:Nat→Prop) (x:S32) {v0:Value} (g0:k96.R 96 w base ok v0 x.f0):k32.M w base ok x [v0]:=⟨v0,rfl,g0⟩
structure S34 where
 f0:Int
 f1:Int
 f2:Int
 f3:Int
 f4:ByteArray
 f5:S29
 f6:S32
def z34:S34:=⟨(0:Int),(0:Int),(0:Int),(0:Int),(⟨#[]⟩:ByteArray),z29,z32⟩
def k34:Kd S34:=Kd.iso (Kd.pair (Kd.int .i64) (Kd.pair (Kd.int .i64) (Kd.pair (Kd.int .i64) (Kd.pair (Kd.int .i64) (Kd.pair Kd.string (Kd.pair k29 k32)))))) (fun x:S34=>(x.f0,x.f1,x.f2,x.f3,x.f4,x.f5,x.f6))
theorem k34_open {w:World} {x:S34} {cs:List Value} (h:k34.K w x cs):∃ A7 c7 A8 c8 A9 c9,cs=[.int .i64 x.f0,.int .i64 x.f1,.int .i64 x.f2,.int .i64 x.f3,.string x.f4,.string x.f5.f0,.string x.f5.f1,.slice A7 x.f5.f2.length c7,.slice A8 x.f5.f3.length c8,.slice A9 x.f6.f0.length c9]∧x.f5.f2.length≤c7∧Kd.string.C w A7 x.f5.f2.length x.f5.f2∧x.f5.f3.length≤c8∧k90.C w A8 x.f5.f3.length x.f5.f3∧x.f6.f0.length≤c9∧k96.C w A9 x.f6.f0.length x.f6.f0:=by
 obtain ⟨_,_,rfl,rfl,⟨_,_,rfl,rfl,⟨_,_,rfl,rfl,⟨_,_,rfl,rfl,⟨_,_,rfl,rfl,⟨_,_,rfl,s5,s9⟩⟩⟩⟩⟩⟩:=h
 obtain ⟨A7,c7,A8,c8,rfl,l7,g7,l8,g8⟩:=k29_open s5
 obtain ⟨A9,c9,rfl,l9,g9⟩:=k32_open s9
 exact ⟨A7,c7,A8,c8,A9,c9,rfl,l7,g7,l8,g8,l9,g9⟩
theorem k34_mk (w:World) (x:S34) {A7:Option Addr} {c7:Nat} (l7:x.f5.f2.length≤c7) (g7:Kd.string.C w A7 x.f5.f2.length x.f5.f2) {A8:Option Addr} {c8:Nat} (l8:x.f5.f3.length≤c8) (g8:k90.C w A8 x.f5.f3.length x.f5.f3) {A9:Option Addr} {c9:Nat} (l9:x.f6.f0.length≤c9) (g9:k96.C w A9 x.f6.f0.length x.f6.f0):k34.K w x [.int .i64 x.f0,.int .i64 x.f1,.int .i64 x.f2,.int .i64 x.f3,.string x.f4,.string x.f5.f0,.string x.f5.f1,.slice A7 x.f5.f2.length c7,.slice A8 x.f5.f3.length c8,.slice A9 x.f6.f0.length c9]:=⟨[.int .i64 x.f0],[.int .i64 x.f1,.int .i64 x.f2,.int .i64 x.f3,.string x.f4,.string x.f5.f0,.string x.f5.f1,.slice A7 x.f5.f2.length c7,.slice A8 x.f5.f3.length c8,.slice A9 x.f6.f0.length c9],rfl,rfl,⟨[.int .i64 x.f1],[.int .i64 x.f2,.int .i64 x.f3,.string x.f4,.string x.f5.f0,.string x.f5.f1,.slice A7 x.f5.f2.length c7,.slice A8 x.f5.f3.length c8,.slice A9 x.f6.f0.length c9],rfl,rfl,⟨[.int .i64 x.f2],[.int .i64 x.f3,.string x.f4,.string x.f5.f0,.string x.f5.f1,.slice A7 x.f5.f2.length c7,.slice A8 x.f5.f3.length c8,.slice A9 x.f6.f0.length c9],rfl,rfl,⟨[.int .i64 x.f3],[.string x.f4,.string x.f5.f0,.string x.f5.f1,.slice A7 x.f5.f2.length c7,.slice A8 x.f5.f3.length c8,.slice A9 x.f6.f0.length c9],rfl,rfl,⟨[.string x.f4],[.string x.f5.f0,.string x.f5.f1,.slice A7 x.f5.f2.length c7,.slice A8 x.f5.f3.length c8,.slice A9 x.f6.f0.length c9],rfl,rfl,⟨[.string x.f5.f0,.string x.f5.f1,.slice A7 x.f5.f2.length c7,.slice A8 x.f5.f3.length c8],[.slice A9 x.f6.f0.length c9],rfl,(k29_mk w x.f5 l7 g7 l8 g8),(k32_mk w x.f6 l9 g9)⟩⟩⟩⟩⟩⟩
theorem k34_mkM (w:World) (base:Nat) (ok:Nat→Prop) (x:S34) {v7:Value} (g7:Kd.string.R 9 w base ok v7 x.f5.f2) {v8:Value} (g8:k90.R 90 w base ok v8 x.f5.f3) {v9:Value} (g9:k96.R 96 w base ok v9 x.f6.f0):k34.M w base ok x [.int .i64 x.f0,.int .i64 x.f1,.int .i64 x.f2,.int .i64 x.f3,.string x.f4,.string x.f5.f0,.string x.f5.f1,v7,v8,v9]:=⟨[.int .i64 x.f0],[.int .i64 x.f1,.int .i64 x.f2,.int .i64 x.f3,.string x.f4,.string x.f5.f0,.string x.f5.f1,v7,v8,v9],rfl,rfl,⟨[.int .i64 x.f1],[.int .i64 x.f2,.int .i64 x.f3,.string x.f4,.string x.f5.f0,.string x.f5.f1,v7,v8,v9],rfl,rfl,⟨[.int .i64 x.f2],[.int .i64 x.f3,.string x.f4,.string x.f5.f0,.string x.f5.f1,v7,v8,v9],rfl,rfl,⟨[.int .i64 x.f3],[.string x.f4,.string x.f5.f0,.string x.f5.f1,v7,v8,v9],rfl,rfl,⟨[.string x.f4],[.string x.f5.f0,.string x.f5.f1,v7,v8,v9],rfl,rfl,⟨[.string x.f5.f0,.string x.f5.f1,v7,v8],[v9],rfl,(k29_mkM w base ok x.f5 g7 g8),(k32_mkM w base ok x.f6 g9)⟩⟩⟩⟩⟩⟩
def rd_T34 (xs:List S34) (i:Int):S34:=xs.getD i.toNat z34
theorem at_T34 {w:World} {A:Option Addr} {n:Nat} {xs:List S34} (h:Kd.C k34 w A n xs) (i:Int) (h0:0≤i) (h1:i < n):∃ ad A7 c7 A8 c8 A9 c9,A=some ad∧w.cell? (ad.add (i.toNat * 10))=some (.int .i64 (rd_T34 xs i).f0)∧w.cell? ⟨(ad.add (i.toNat * 10)).block,(ad.add (i.toNat * 10)).off+1,none⟩=some (.int .i64 (rd_T34 xs i).f1)∧w.cell? ⟨(ad.add (i.toNat * 10)).block,(ad.add (i.toNat * 10)).off+2,none⟩=some (.int .i64 (rd_T34 xs i).f2)∧w.cell? ⟨(ad.add (i.toNat * 10)).block,(ad.add (i.toNat * 10)).off+3,none⟩=some (.int .i64 (rd_T34 xs i).f3)∧w.cell? ⟨(ad.add (i.toNat * 10)).block,(ad.add (i.toNat * 10)).off+4,none⟩=some (.string (rd_T34 xs i).f4)∧w.cell? ⟨(ad.add (i.toNat * 10)).block,(ad.add (i.toNat * 10)).off+5,none⟩=some (.string (rd_T34 xs i).f5.f0)∧w.cell? ⟨(ad.add (i.toNat * 10)).block,(ad.add (i.toNat * 10)).off+6,none⟩=some (.string (rd_T34 xs i).f5.f1)∧w.cell? ⟨(ad.add (i.toNat * 10)).block,(ad.add (i.toNat * 10)).off+7,none⟩=some (.slice A7 (rd_T34 xs i).f5.f2.length c7)∧w.cell? ⟨(ad.add (i.toNat * 10)).block,(ad.add (i.toNat * 10)).off+8,none⟩=some (.slice A8 (rd_T34 xs i).f5.f3.length c8)∧w.cell? ⟨(ad.add (i.toNat * 10)).block,(ad.add (i.toNat * 10)).off+9,none⟩=some (.slice A9 (rd_T34 xs i).f6.f0.length c9)∧(rd_T34 xs i).f5.f2.length≤c7∧Kd.string.C w A7 (rd_T34 xs i).f5.f2.length (rd_T34 xs i).f5.f2∧(rd_T34 xs i).f5.f3.length≤c8∧k90.C w A8 (rd_T34 xs i).f5.f3.length (rd_T34 xs i).f5.f3∧(rd_T34 xs i).f6.f0.length≤c9∧k96.C w A9 (rd_T34 xs i).f6.f0.length (rd_T34 xs i).f6.f0:=by
 obtain ⟨ad,c,e,_,hK,hc0⟩:=Kd.C_get h z34 i h0 h1
 have hc:∀ j u,c[j]? = some u→w.cell? (ad.add (i.toNat * 10+j))=some u:=hc0
 obtain ⟨A7,c7,A8,c8,A9,c9,rfl,l7,g7,l8,g8,l9,g9⟩:=k34_open hK
 exact ⟨ad,A7,c7,A8,c8,A9,c9,e,hc 0 _ rfl,by rw [←add_field _ _ 1 (by omega)];exact hc 1 _ rfl,by rw [←add_field _ _ 2 (by omega)];exact hc 2 _ rfl,by rw [←add_field _ _ 3 (by omega)];exact hc 3 _ rfl,by rw [←add_field _ _ 4 (by omega)];exact hc 4 _ rfl,by rw [←add_field _ _ 5 (by omega)];exact hc 5 _ rfl,by rw [←add_field _ _ 6 (by omega)];exact hc 6 _ rfl,by rw [←add_field _ _ 7 (by omega)];exact hc 7 _ rfl,by rw [←add_field _ _ 8 (by omega)];exact hc 8 _ rfl,by rw [←add_field _ _ 9 (by omega)];exact hc 9 _ rfl,l7,g7,l8,g8,l9,g9⟩
end Go.Proofs.YtocpcnmnhckcpaaGreat.Prt
namespace Go.Proofs.YtocpcnmnhckcpaaGreat.Prt
open RowKit YtocpcnmnhckcpaaGreatW.PrintWords YtocpcnmnhckcpaaGreatW.PrintLast YtocpcnmnhckcpaaGreatW.PrintMore
attribute [local go_sem] max2_int min2_int max_two min_two max_three min_three max_four min_four
def q03_plain.f (a0:Int):Option (Bool):=if a0 ≥ 97 then (if a0≤122 then (some true) else (if a0 ≥ 48 then (if a0≤57 then (some true) else (if a0=45 then (some true) else (some (a0 == 95)))) else (if a0=45 then (some true) else (some (a0 == 95))))) else (if a0 ≥ 48 then (if a0≤57 then (some true) else (if a0=45 then (some true) else (some (a0 == 95)))) else (if a0=45 then (some true) else (some (a0 == 95))))
set_option maxHeartbeats 8000000 in
set_option maxRecDepth 100000 in
theorem q03_plain.calls (a0:Int) (r:Bool) (w:World) (h:q03_plain.f a0=some r) :
  Calls Tryz.prog 117 #[.int .u8 a0] w fun e w'=>e = .returned (.bool r)∧Drawn0 w w':=by
 have H:(if a0 ≥ 97 then (if a0≤122 then (some true) else (if a0 ≥ 48 then (if a0≤57 then (some true) else (if a0=45 then (some true) else (some (a0 == 95)))) else (if a0=45 then (some true) else (some (a0 == 95))))) else (if a0 ≥ 48 then (if a0≤57 then (some true) else (if a0=45 then (some true) else (some (a0 == 95)))) else (if a0=45 then (some true) else (some (a0 == 95)))))=some r:=h
 clear h
 by_cases c2:a0 ≥ 97
 ·rw [if_pos c2] at H
  have c2b0:decide (97≤a0)=true:=decide_eq_true c2
  clear c2
  by_cases c3:a0≤122
  ·rw [if_pos c3] at H
   have c3b0:decide (a0≤122)=true:=decide_eq_true c3
   clear c3
   obtain rfl:=Option.some.inj H
   go_enter Tryz.func117,Tryz.ntmps117
   go_wp2
   go_ret
   exact ⟨by rfl,by repeat (exact Drawn0.refl _)⟩
  ·rw [if_neg c3] at H
   have c3b0:decide (a0≤122)=false:=decide_eq_false c3
   clear c3
   by_cases c4:a0 ≥ 48
   ·rw [if_pos c4] at H
    have c4b0:decide (48≤a0)=true:=decide_eq_true c4
    clear c4
    by_cases c5:a0≤57
    ·rw [if_pos c5] at H
     have c5b0:decide (a0≤57)=true:=decide_eq_true c5
     clear c5
     obtain rfl:=Option.some.inj H
     go_enter Tryz.func117,Tryz.ntmps117
     go_wp2
     go_ret
     exact ⟨by rfl,by repeat (exact Drawn0.refl _)⟩
    ·rw [if_neg c5] at H
     have c5b0:decide (a0≤57)=false:=decide_eq_false c5
     clear c5
     by_cases c6:a0=45
     ·rw [if_pos c6] at H
      have c6b0:(a0 == 45)=true:=beq_iff_eq.mpr c6
      have c6b1:(a0 != 45)=false:=bne_eq_false_iff_eq.mpr c6
      clear c6
      obtain rfl:=Option.some.inj H
      go_enter Tryz.func117,Tryz.ntmps117
      go_wp2
      go_ret
      exact ⟨by rfl,by repeat (exact Drawn0.refl _)⟩
     ·rw [if_neg c6] at H
      have c6b0:(a0 == 45)=false:=beq_eq_false_iff_ne.mpr c6
      have c6b1:(a0 != 45)=true:=bne_iff_ne.mpr c6
      obtain rfl:=Option.some.inj H
      go_enter Tryz.func117,Tryz.ntmps117
      go_wp2
      go_ret
      exact ⟨by rfl,by repeat (exact Drawn0.refl _)⟩
   ·rw [if_neg c4] at H
    have c4b0:decide (48≤a0)=false:=decide_eq_false c4
    clear c4
    by_cases c7:a0=45
    ·rw [if_pos c7] at H
     have c7b0:(a0 == 45)=true:=beq_iff_eq.mpr c7
     have c7b1:(a0 != 45)=false:=bne_eq_false_iff_eq.mpr c7
     clear c7
     obtain rfl:=Option.some.inj H
     go_enter Tryz.func117,Tryz.ntmps117
     go_wp2
     go_ret
     exact ⟨by rfl,by repeat (exact Drawn0.refl _)⟩
    ·rw [if_neg c7] at H
     have c7b0:(a0 == 45)=false:=beq_eq_false_iff_ne.mpr c7
     have c7b1:(a0 != 45)=true:=bne_iff_ne.mpr c7
     obtain rfl:=Option.some.inj H
     go_enter Tryz.func117,Tryz.ntmps117
     go_wp2
     go_ret
     exact ⟨by rfl,by repeat (exact Drawn0.refl _)⟩
 ·rw [if_neg c2] at H
  have c2b0:decide (97≤a0)=false:=decide_eq_false c2
  clear c2
  by_cases c8:a0 ≥ 48
  ·rw [if_pos c8] at H
   have c8b0:decide (48≤a0)=true:=decide_eq_true c8
   clear c8
   by_cases c9:a0≤57
   ·rw [if_pos c9] at H
    have c9b0:decide (a0≤57)=true:=decide_eq_true c9
    clear c9
    obtain rfl:=Option.some.inj H
    go_enter Tryz.func117,Tryz.ntmps117
    go_wp2
    go_ret
    exact ⟨by rfl,by repeat (exact Drawn0.refl _)⟩
   ·rw [if_neg c9] at H
    have c9b0:decide (a0≤57)=false:=decide_eq_false c9
    clear c9
    by_cases c10:a0=45
    ·rw [if_pos c10] at H
     have c10b0:(a0 == 45)=true:=beq_iff_eq.mpr c10
     have c10b1:(a0 != 45)=false:=bne_eq_false_iff_eq.mpr c10
     clear c10
     obtain rfl:=Option.some.inj H
     go_enter Tryz.func117,Tryz.ntmps117
     go_wp2
     go_ret
     exact ⟨by rfl,by repeat (exact Drawn0.refl _)⟩
    ·rw [if_neg c10] at H
     have c10b0:(a0 == 45)=false:=beq_eq_false_iff_ne.mpr c10
     have c10b1:(a0 != 45)=true:=bne_iff_ne.mpr c10
     obtain rfl:=Option.some.inj H
     go_enter Tryz.func117,Tryz.ntmps117
     go_wp2
     go_ret
     exact ⟨by rfl,by repeat (exact Drawn0.refl _)⟩
  ·rw [if_neg c8] at H
   have c8b0:decide (48≤a0)=false:=decide_eq_false c8
   clear c8
   by_cases c11:a0=45
   ·rw [if_pos c11] at H
    have c11b0:(a0 == 45)=true:=beq_iff_eq.mpr c11
    have c11b1:(a0 != 45)=false:=bne_eq_false_iff_eq.mpr c11
    clear c11
    obtain rfl:=Option.some.inj H
    go_enter Tryz.func117,Tryz.ntmps117
    go_wp2
    go_ret
    exact ⟨by rfl,by repeat (exact Drawn0.refl _)⟩
   ·rw [if_neg c11] at H
    have c11b0:(a0 == 45)=false:=beq_eq_false_iff_ne.mpr c11
    have c11b1:(a0 != 45)=true:=bne_iff_ne.mpr c11
    obtain rfl:=Option.some.inj H
    go_enter Tryz.func117,Tryz.ntmps117
    go_wp2
    go_ret
    exact ⟨by rfl,by repeat (exact Drawn0.refl _)⟩
end Go.Proofs.YtocpcnmnhckcpaaGreat.Prt
namespace Go.Proofs.YtocpcnmnhckcpaaGreat.Prt
open RowKit YtocpcnmnhckcpaaGreatW.PrintWords YtocpcnmnhckcpaaGreatW.PrintLast YtocpcnmnhckcpaaGreatW.PrintMore
attribute [local go_sem] max2_int min2_int max_two min_two max_three min_three max_four min_four
def q03_letters.f  : Option (List ByteArray):=some (([(⟨#[195,169]⟩:ByteArray),(⟨#[195,184]⟩:ByteArray),(⟨#[195,159]⟩:ByteArray),(⟨#[206,187]⟩:ByteArray)]:List ByteArray))
set_option maxHeartbeats 8000000 in
set_option maxRecDepth 100000 in
theorem q03_letters.calls  (r:List ByteArray) (w:World) (h:q03_letters.f  = some r) :
  Calls Tryz.prog 118 #[] w fun e w'=>∃ v0_:Value,e = .returned (v0_)∧Kd.R Kd.string 9 w' w.heap.size (fun _=>True) v0_ r∧Below w.heap.size w w':=by
 have HB:=Ak (Below.refl w.heap.size w)
 have H:(some (([(⟨#[195,169]⟩:ByteArray),(⟨#[195,184]⟩:ByteArray),(⟨#[195,159]⟩:ByteArray),(⟨#[206,187]⟩:ByteArray)]:List ByteArray)))=some r:=h
 clear h
 obtain ⟨y186,hy186⟩:∃ y_:List ByteArray,y_=(([(⟨#[195,169]⟩:ByteArray),(⟨#[195,184]⟩:ByteArray),(⟨#[195,159]⟩:ByteArray),(⟨#[206,187]⟩:ByteArray)]:List ByteArray)):=⟨_,rfl⟩
 replace H:(some y186)=some r:=by (rw [hy186];with_reducible exact H)
 have Ny186:=Ak hy186
 clear hy186
 obtain rfl:=Option.some.inj H
 go_enter Tryz.func118,Tryz.ntmps118
 go_wp2_with (((with_reducible refine gate_dst (N:=1) rfl ?_);refine Kd.R_lit Kd.string _ 9 ?hg (N:=1) ?hd (xs:=([(⟨#[195,169]⟩:ByteArray),(⟨#[195,184]⟩:ByteArray),(⟨#[195,159]⟩:ByteArray),(⟨#[206,187]⟩:ByteArray)]:List ByteArray)) (inner:=[.string (⟨#[195,169]⟩:ByteArray),.string (⟨#[195,184]⟩:ByteArray),.string (⟨#[195,159]⟩:ByteArray),.string (⟨#[206,187]⟩:ByteArray)]) (ok:=fun _=>True) (okp:=fun _=>True) ?hr ?hp (fun _ hk=>hk) trivial (Below.refl _ _) (Nat.le_refl _) (by simp) ?_;(case hd=>rfl);(case hg=>rfl);(case hr=>(go_simp;done));(case hp=>exact (Reps.one (show Kd.M Kd.string _ _ _ (⟨#[195,169]⟩:ByteArray) [.string (⟨#[195,169]⟩:ByteArray)] from rfl) (Reps.one (show Kd.M Kd.string _ _ _ (⟨#[195,184]⟩:ByteArray) [.string (⟨#[195,184]⟩:ByteArray)] from rfl) (Reps.one (show Kd.M Kd.string _ _ _ (⟨#[195,159]⟩:ByteArray) [.string (⟨#[195,159]⟩:ByteArray)] from rfl) (Reps.one (show Kd.M Kd.string _ _ _ (⟨#[206,187]⟩:ByteArray) [.string (⟨#[206,187]⟩:ByteArray)] from rfl) (Reps.none _ _))))));intro v187 w1 ho2 hb hg_ hnew_;clear hg_ hnew_;(rw [←Ny186.out] at ho2);have n0_:=Ak (Kd.R_lower ho2 (below_size HB.out));have n1_:=Ak (below_step HB.out hb);clear HB;have HO188:=n0_;have HB:=n1_;clear n0_ n1_;clear hb ho2))
 go_ret
 exact ⟨_,by rfl,by exact HO188.out,by with_reducible exact HB.out⟩
end Go.Proofs.YtocpcnmnhckcpaaGreat.Prt
namespace Go.Proofs.YtocpcnmnhckcpaaGreat.Prt
open RowKit YtocpcnmnhckcpaaGreatW.PrintWords YtocpcnmnhckcpaaGreatW.PrintLast YtocpcnmnhckcpaaGreatW.PrintMore
attribute [local go_sem] max2_int min2_int max_two min_two max_three min_three max_four min_four
def q03_begins.f (a0:ByteArray) (a1:Int) (a2:ByteArray):Option (Bool):=if (wrap64 ((a0.size:Int) - a1)) ≥ (a2.size:Int) then (if 0≤a1 then (if a1≤(wrap64 (a1+(a2.size:Int))) then (if (wrap64 (a1+(a2.size:Int)))≤(a0.size:Int) then (some ((a0.extract (a1:Int).toNat ((wrap64 (a1+(a2.size:Int))):Int).toNat).toList == a2.toList)) else (none)) else (none)) else (none)) else (some false)
set_option maxHeartbeats 8000000 in
set_option maxRecDepth 100000 in
theorem q03_begins.calls (a0:ByteArray) (a1:Int) (a2:ByteArray) (r:Bool) (w:World) (h:q03_begins.f a0 a1 a2=some r) :
  Calls Tryz.prog 119 #[.string a0,.int .i64 a1,.string a2] w fun e w'=>e = .returned (.bool r)∧Drawn0 w w':=by
 have H:(if (wrap64 ((a0.size:Int) - a1)) ≥ (a2.size:Int) then (if 0≤a1 then (if a1≤(wrap64 (a1+(a2.size:Int))) then (if (wrap64 (a1+(a2.size:Int)))≤(a0.size:Int) then (some ((a0.extract (a1:Int).toNat ((wrap64 (a1+(a2.size:Int))):Int).toNat).toList == a2.toList)) else (none)) else (none)) else (none)) else (some false))=some r:=h
 clear h
 by_cases c4:(wrap64 ((a0.size:Int) - a1)) ≥ (a2.size:Int)
 ·rw [if_pos c4] at H
  have c4b0:decide ((a2.size:Int)≤(wrap64 ((a0.size:Int) - a1)))=true:=decide_eq_true c4
  clear c4
  by_cases c5:0≤a1
  ·rw [if_pos c5] at H
   have c5b0:=eq_true c5
   have c5b1:decide (0≤a1)=true:=decide_eq_true c5
   clear c5
   by_cases c6:a1≤(wrap64 (a1+(a2.size:Int)))
   ·rw [if_pos c6] at H
    have c6b0:=eq_true c6
    have c6b1:decide (a1≤(wrap64 (a1+(a2.size:Int))))=true:=decide_eq_true c6
    by_cases c7:(wrap64 (a1+(a2.size:Int)))≤(a0.size:Int)
    ·rw [if_pos c7] at H
     have c7b0:=eq_true c7
     have c7b1:decide ((wrap64 (a1+(a2.size:Int)))≤(a0.size:Int))=true:=decide_eq_true c7
     obtain rfl:=Option.some.inj H
     go_enter Tryz.func119,Tryz.ntmps119
     go_wp2
     go_ret
     exact ⟨by rfl,by repeat (exact Drawn0.refl _)⟩
    ·rw [if_neg c7] at H
     exact absurd H (by simp)
   ·rw [if_neg c6] at H
    exact absurd H (by simp)
  ·rw [if_neg c5] at H
   exact absurd H (by simp)
 ·rw [if_neg c4] at H
  have c4b0:decide ((a2.size:Int)≤(wrap64 ((a0.size:Int) - a1)))=false:=decide_eq_false c4
  clear c4
  obtain rfl:=Option.some.inj H
  go_enter Tryz.func119,Tryz.ntmps119
  go_wp2
  go_ret
  exact ⟨by rfl,by repeat (exact Drawn0.refl _)⟩
end Go.Proofs.YtocpcnmnhckcpaaGreat.Prt
namespace Go.Proofs.YtocpcnmnhckcpaaGreat.Prt
open RowKit YtocpcnmnhckcpaaGreatW.PrintWords YtocpcnmnhckcpaaGreatW.PrintLast YtocpcnmnhckcpaaGreatW.PrintMore
attribute [local go_sem] max2_int min2_int max_two min_two max_three min_three max_four min_four
def q03_letter.l0:Nat→ByteArray→Int→List ByteArray→Int→Option (Int)
 | 0,_,_,_,_=>none
 | k+1,x0,x1,x5,x6=>if x6 < (x5.length:Int) then (if 0≤x6 then ((q03_begins.f x0 x1 (rdOf ByteArray.empty x5 x6)).bind fun t194=>(if t194=true then (some 2) else (q03_letter.l0 k x0 x1 x5 (wrap64 (x6+1))))) else (none)) else (some 0)
def q03_letter.f (k:Nat) (a0:ByteArray) (a1:Int):Option (Int):=if 0≤a1 then (if a1 < (a0.size:Int) then ((q03_plain.f (bt a0 a1)).bind fun t189=>(if t189=true then (some 1) else ((q03_letters.f).bind fun t190=>(q03_letter.l0 k a0 a1 t190 0)))) else (none)) else (none)
set_option maxHeartbeats 8000000 in
set_option maxRecDepth 100000 in
theorem q03_letter.calls (k:Nat) (a0:ByteArray) (a1:Int) (r:Int) (w:World) (h:q03_letter.f k a0 a1=some r) :
  Calls Tryz.prog 110 #[.string a0,.int .i64 a1] w fun e w'=>e = .returned (.int .i64 r)∧Below w.heap.size w w':=by
 have HB:=Ak (Below.refl w.heap.size w)
 have H:(if 0≤a1 then (if a1 < (a0.size:Int) then ((q03_plain.f (bt a0 a1)).bind fun t189=>(if t189=true then (some 1) else ((q03_letters.f).bind fun t190=>(q03_letter.l0 k a0 a1 t190 0)))) else (none)) else (none))=some r:=h
 clear h
 by_cases c3:0≤a1
 ·rw [if_pos c3] at H
  have c3b0:decide (0≤a1)=true:=decide_eq_true c3
  clear c3
  by_cases c4:a1 < (a0.size:Int)
  ·rw [if_pos c4] at H
   have c4b0:decide (a1 < (a0.size:Int))=true:=decide_eq_true c4
   clear c4
   replace H:=Option.bind_eq_some_iff.mp H
   obtain ⟨t189,A60,H⟩:=H
   replace H:(if t189=true then (some 1) else ((q03_letters.f).bind fun t190=>(q03_letter.l0 k a0 a1 t190 0)))=some r:=H
   have A6:=Ak A60
   clear A60
   by_cases c7:t189=true
   ·subst c7
    have H1:(some 1)=some r:=by rw [if_pos rfl] at H;exact H
    clear H
    have H:=H1
    clear H1
    obtain rfl:=Option.some.inj H
    have p5:0≤(a1:Int):=of_decide_eq_true (by (with_reducible assumption))
    have q5:a1 < (a0.size:Int):=of_decide_eq_true (by (with_reducible assumption))
    have hx5:=bt_at a0 a1
    replace p5:=eq_true p5
    replace q5:=eq_true q5
    go_enter Tryz.func110,Tryz.ntmps110
    go_wp2_with (((with_reducible refine gate_callee (f:=117) rfl ?_);refine goesL_ (some 11) rfl rfl Tryz.func117 (by kernel_rfl) rfl #[.int .u8 (bt a0 a1)] rfl (by (try simp only [List.map_toArray,List.map_cons,List.map_nil]);rfl) ?_;(with_reducible refine (q03_plain.calls (bt a0 a1) true _ A6.out).mono ?_);rintro e w' ⟨rfl,⟨nd,rfl⟩⟩;refine ⟨_,rfl,?_⟩))
    go_ret
    exact ⟨by rfl,by repeat (with_reducible first | exact HB.out | apply pw_below_drewN)⟩
   ·replace c7:=Bool.eq_false_iff.mpr c7
    subst c7
    have H1:((q03_letters.f).bind fun t190=>(q03_letter.l0 k a0 a1 t190 0))=some r:=by rw [if_neg (show ¬(false=true) by decide)] at H;exact H
    clear H
    have H:=H1
    clear H1
    replace H:=Option.bind_eq_some_iff.mp H
    obtain ⟨t190,A80,H⟩:=H
    replace H:(q03_letter.l0 k a0 a1 t190 0)=some r:=H
    have A8:=Ak A80
    clear A80
    have H':=Ak H
    clear H
    have p5:0≤(a1:Int):=of_decide_eq_true (by (with_reducible assumption))
    have q5:a1 < (a0.size:Int):=of_decide_eq_true (by (with_reducible assumption))
    have hx5:=bt_at a0 a1
    replace p5:=eq_true p5
    replace q5:=eq_true q5
    go_enter Tryz.func110,Tryz.ntmps110
    go_wp2_with (first | ((with_reducible refine gate_callee (f:=117) rfl ?_);refine goesL_ (some 11) rfl rfl Tryz.func117 (by kernel_rfl) rfl #[.int .u8 (bt a0 a1)] rfl (by (try simp only [List.map_toArray,List.map_cons,List.map_nil]);rfl) ?_;(with_reducible refine (q03_plain.calls (bt a0 a1) false _ A6.out).mono ?_);rintro e w' ⟨rfl,⟨nd,rfl⟩⟩;refine ⟨_,rfl,?_⟩) | ((with_reducible refine gate_callee (f:=118) rfl ?_);refine goesL_ (some 12) rfl rfl Tryz.func118 (by kernel_rfl) rfl #[] rfl (by (try simp only [List.map_toArray,List.map_cons,List.map_nil]);done) ?_;(with_reducible refine (q03_letters.calls  t190 _ A8.out).mono ?_);rintro e w9 ⟨v191,rfl,ho0,hb⟩;refine ⟨_,rfl,?_⟩;have n0_:=Ak (Kd.R_lower ho0 (below_size (by repeat (with_reducible first | exact HB.out | apply pw_below_drewN))));have n1_:=Ak (below_step (by repeat (with_reducible first | exact HB.out | apply pw_below_drewN)) hb);clear HB;have HO192:=n0_;have HB:=n1_;clear n0_ n1_;(try clear hb);(try clear ho0)))
    go_loopg [6] k (fun kq v6 w'=>∃ (x6_1:Int),v6 = .int .i64 x6_1∧Aside0 (q03_letter.l0 kq a0 a1 t190 x6_1=some r)∧Aside0 (kq≤k)∧Aside0 (Kd.R Kd.string 9 w' w.heap.size (fun _=>True) v191 t190)∧Aside0 (Below w.heap.size w w'))
    case atStart=>exact ⟨(0),(by rfl),H',⟨Nat.le_refl _⟩,⟨by exact HO192.out⟩,⟨by with_reducible exact HB.out⟩⟩
    case round=>
     clear H'
     try clear c3b0
     try clear c4b0
     try clear p5
     try clear q5
     try clear hx5
     obtain ⟨x6_1,rfl,HA,HK1,HO_5,HB⟩:=hrel
     cases gk with
     | zero=>exact absurd HA.out (by simp [q03_letter.l0])
     | succ k1=>
      have H:=HA.out
      clear HA
      simp only [q03_letter.l0] at H
      by_cases c10:x6_1 < (t190.length:Int)
      ·rw [if_pos c10] at H
       have c10b0:decide (x6_1 < (t190.length:Int))=true:=decide_eq_true c10
       clear c10
       by_cases c11:0≤x6_1
       ·rw [if_pos c11] at H
        have c11b0:decide (0≤x6_1)=true:=decide_eq_true c11
        clear c11
        replace H:=Option.bind_eq_some_iff.mp H
        obtain ⟨t194,A120,H⟩:=H
        replace H:(if t194=true then (some 2) else (q03_letter.l0 k1 a0 a1 t190 (wrap64 (x6_1+1))))=some r:=H
        have A12:=Ak A120
        clear A120
        by_cases c13:t194=true
        ·subst c13
         have H1:(some 2)=some r:=by rw [if_pos rfl] at H;exact H
         clear H
         have H:=H1
         clear H1
         obtain rfl:=Option.some.inj H
         obtain ⟨Ao14,co14,eo14⟩:=Kd.R_slice HO_5.out
         subst eo14
         have p193:0≤(x6_1:Int):=of_decide_eq_true (by (with_reducible assumption))
         have q193:x6_1 < (t190.length:Int):=of_decide_eq_true (by (with_reducible assumption))
         obtain ⟨ad193,e193,hx193_0⟩:=Kd.at_string (Kd.R_reads' HO_5.out).2.2 x6_1 p193 q193
         cases e193
         replace p193:=eq_true p193
         replace q193:=eq_true q193
         go_wp2_with (((with_reducible refine gate_callee (f:=119) rfl ?_);refine goesL_ (some 25) rfl rfl Tryz.func119 (by kernel_rfl) rfl #[.string a0,.int .i64 a1,.string (rdOf ByteArray.empty t190 x6_1)] rfl (by (try simp only [List.map_toArray,List.map_cons,List.map_nil]);rfl) ?_;(with_reducible refine (q03_begins.calls a0 a1 (rdOf ByteArray.empty t190 x6_1) true _ A12.out).mono ?_);rintro e w' ⟨rfl,⟨nd,rfl⟩⟩;refine ⟨_,rfl,?_⟩))
         go_ret
         exact ⟨by rfl,by repeat (with_reducible first | exact HB.out | apply pw_below_drewN)⟩
        ·replace c13:=Bool.eq_false_iff.mpr c13
         subst c13
         have H1:(q03_letter.l0 k1 a0 a1 t190 (wrap64 (x6_1+1)))=some r:=by rw [if_neg (show ¬(false=true) by decide)] at H;exact H
         clear H
         have H:=H1
         clear H1
         have H':=Ak H
         clear H
         obtain ⟨Ao15,co15,eo15⟩:=Kd.R_slice HO_5.out
         subst eo15
         have p193:0≤(x6_1:Int):=of_decide_eq_true (by (with_reducible assumption))
         have q193:x6_1 < (t190.length:Int):=of_decide_eq_true (by (with_reducible assumption))
         obtain ⟨ad193,e193,hx193_0⟩:=Kd.at_string (Kd.R_reads' HO_5.out).2.2 x6_1 p193 q193
         cases e193
         replace p193:=eq_true p193
         replace q193:=eq_true q193
         go_wp2_with (((with_reducible refine gate_callee (f:=119) rfl ?_);refine goesL_ (some 25) rfl rfl Tryz.func119 (by kernel_rfl) rfl #[.string a0,.int .i64 a1,.string (rdOf ByteArray.empty t190 x6_1)] rfl (by (try simp only [List.map_toArray,List.map_cons,List.map_nil]);rfl) ?_;(with_reducible refine (q03_begins.calls a0 a1 (rdOf ByteArray.empty t190 x6_1) false _ A12.out).mono ?_);rintro e w' ⟨rfl,⟨nd,rfl⟩⟩;refine ⟨_,rfl,?_⟩))
         go_roundg k1
         case measure=>have:=HK1.out;omega
         case rel=>exact ⟨(wrap64 (x6_1+1)),(by rfl),H',⟨by have:=HK1.out;omega⟩,⟨by (with_reducible repeat (apply Kd.R_drewN));exact HO_5.out⟩,⟨by repeat (with_reducible first | exact HB.out | apply pw_below_drewN)⟩⟩
       ·rw [if_neg c11] at H
        exact absurd H (by simp)
      ·rw [if_neg c10] at H
       have c10b0:decide (x6_1 < (t190.length:Int))=false:=decide_eq_false c10
       clear c10
       obtain rfl:=Option.some.inj H
       obtain ⟨Ao16,co16,eo16⟩:=Kd.R_slice HO_5.out
       subst eo16
       go_wp2
       go_ret
       exact ⟨by rfl,by with_reducible exact HB.out⟩
  ·rw [if_neg c4] at H
   exact absurd H (by simp)
 ·rw [if_neg c3] at H
  exact absurd H (by simp)
end Go.Proofs.YtocpcnmnhckcpaaGreat.Prt
namespace Go.Proofs.YtocpcnmnhckcpaaGreat.Prt
open RowKit YtocpcnmnhckcpaaGreatW.PrintWords YtocpcnmnhckcpaaGreatW.PrintLast YtocpcnmnhckcpaaGreatW.PrintMore
attribute [local go_sem] max2_int min2_int max_two min_two max_three min_three max_four min_four
mutual
def q03_May.j0:Nat→ByteArray→Bool→Option (Bool)
 | 0,_,_=>none
 | k+1,x0,x27=>if x27=true then (some false) else (q03_May.l0 k x0 0)
def q03_May.l0:Nat→ByteArray→Int→Option (Bool)
 | 0,_,_=>none
 | k+1,x0,x3=>if x3 < (x0.size:Int) then ((q03_letter.f k x0 x3).bind fun t195=>(if t195=0 then (some false) else (q03_May.l0 k x0 (wrap64 (x3+t195))))) else (some true)
end
def q03_May.f (k:Nat) (a0:ByteArray):Option (Bool):=if (a0.size:Int) < 1 then (q03_May.j0 k a0 true) else (if (a0.size:Int) > 24 then (q03_May.j0 k a0 true) else (if 0 < (a0.size:Int) then (if (bt a0 0) ≥ 48 then (if (bt a0 0)≤57 then (q03_May.j0 k a0 true) else (q03_May.j0 k a0 ((bt a0 0) == 45))) else (q03_May.j0 k a0 ((bt a0 0) == 45))) else (none)))
set_option maxHeartbeats 8000000 in
set_option maxRecDepth 100000 in
theorem q03_May.calls (k:Nat) (a0:ByteArray) (r:Bool) (w:World) (h:q03_May.f k a0=some r) :
  Calls Tryz.prog 90 #[.string a0] w fun e w'=>e = .returned (.bool r)∧Below w.heap.size w w':=by
 have HB:=Ak (Below.refl w.heap.size w)
 have H:(if (a0.size:Int) < 1 then (q03_May.j0 k a0 true) else (if (a0.size:Int) > 24 then (q03_May.j0 k a0 true) else (if 0 < (a0.size:Int) then (if (bt a0 0) ≥ 48 then (if (bt a0 0)≤57 then (q03_May.j0 k a0 true) else (q03_May.j0 k a0 ((bt a0 0) == 45))) else (q03_May.j0 k a0 ((bt a0 0) == 45))) else (none))))=some r:=h
 clear h
 have HC2:=Ak H
 clear H
 go_enter Tryz.func90,Tryz.ntmps90
 go_upto_region 1 with (fail)
 go_cut [27] (fun v27 wc=>∃ (kq:Nat) (x27_1:Bool),v27 = .bool x27_1∧Aside0 (q03_May.j0 kq a0 x27_1=some r)∧Aside0 (kq≤k)∧Aside0 (Below w.heap.size w wc))
 case first=>
  have H:=HC2.out
  clear HC2
  by_cases c3:(a0.size:Int) < 1
  ·rw [if_pos c3] at H
   have c3b0:decide ((a0.size:Int) < 1)=true:=decide_eq_true c3
   have c3b1:decide (a0.size < 1)=true:=decide_eq_true (by omega)
   clear c3
   have H':=Ak H
   clear H
   go_wp2
   go_meet
   case rel=>exact ⟨_,(true),(by rfl),H',⟨by omega⟩,⟨by with_reducible exact HB.out⟩⟩
  ·rw [if_neg c3] at H
   have c3b0:decide ((a0.size:Int) < 1)=false:=decide_eq_false c3
   have c3b1:decide (a0.size < 1)=false:=decide_eq_false (by omega)
   clear c3
   by_cases c4:(a0.size:Int) > 24
   ·rw [if_pos c4] at H
    have c4b0:decide (24 < (a0.size:Int))=true:=decide_eq_true c4
    have c4b1:decide (24 < a0.size)=true:=decide_eq_true (by omega)
    clear c4
    have H':=Ak H
    clear H
    go_wp2
    go_meet
    case rel=>exact ⟨_,(true),(by rfl),H',⟨by omega⟩,⟨by with_reducible exact HB.out⟩⟩
   ·rw [if_neg c4] at H
    have c4b0:decide (24 < (a0.size:Int))=false:=decide_eq_false c4
    have c4b1:decide (24 < a0.size)=false:=decide_eq_false (by omega)
    clear c4
    by_cases c5:0 < (a0.size:Int)
    ·rw [if_pos c5] at H
     have c5b0:decide (0 < (a0.size:Int))=true:=decide_eq_true c5
     have c5b1:decide (0 < a0.size)=true:=decide_eq_true (by omega)
     clear c5
     by_cases c7:(bt a0 0) ≥ 48
     ·rw [if_pos c7] at H
      have c7b0:decide (48≤(bt a0 0))=true:=decide_eq_true c7
      clear c7
      by_cases c9:(bt a0 0)≤57
      ·rw [if_pos c9] at H
       have c9b0:decide ((bt a0 0)≤57)=true:=decide_eq_true c9
       clear c9
       have H':=Ak H
       clear H
       have p6:0≤(0:Int):=(by omega)
       have q6:0 < a0.size:=(by have:(0:Int) < (a0.size:Int):=of_decide_eq_true (by (with_reducible assumption));omega)
       have hx6:∀ h:0 < a0.size,((a0[0]'h).toNat:Int)=bt a0 0:=bt_at a0 0
       clear p6
       have qi6:(0 < (a0.size:Int))=True:=eq_true (of_decide_eq_true (by (with_reducible assumption)))
       replace q6:=eq_true q6
       have p8:0≤(0:Int):=(by omega)
       have q8:0 < a0.size:=(by have:(0:Int) < (a0.size:Int):=of_decide_eq_true (by (with_reducible assumption));omega)
       have hx8:∀ h:0 < a0.size,((a0[0]'h).toNat:Int)=bt a0 0:=bt_at a0 0
       clear p8
       have qi8:(0 < (a0.size:Int))=True:=eq_true (of_decide_eq_true (by (with_reducible assumption)))
       replace q8:=eq_true q8
       go_wp2
       go_meet
       case rel=>exact ⟨_,(true),(by rfl),H',⟨by omega⟩,⟨by with_reducible exact HB.out⟩⟩
      ·rw [if_neg c9] at H
       have c9b0:decide ((bt a0 0)≤57)=false:=decide_eq_false c9
       clear c9
       have H':=Ak H
       clear H
       have p6:0≤(0:Int):=(by omega)
       have q6:0 < a0.size:=(by have:(0:Int) < (a0.size:Int):=of_decide_eq_true (by (with_reducible assumption));omega)
       have hx6:∀ h:0 < a0.size,((a0[0]'h).toNat:Int)=bt a0 0:=bt_at a0 0
       clear p6
       have qi6:(0 < (a0.size:Int))=True:=eq_true (of_decide_eq_true (by (with_reducible assumption)))
       replace q6:=eq_true q6
       have p8:0≤(0:Int):=(by omega)
       have q8:0 < a0.size:=(by have:(0:Int) < (a0.size:Int):=of_decide_eq_true (by (with_reducible assumption));omega)
       have hx8:∀ h:0 < a0.size,((a0[0]'h).toNat:Int)=bt a0 0:=bt_at a0 0
       clear p8
       have qi8:(0 < (a0.size:Int))=True:=eq_true (of_decide_eq_true (by (with_reducible assumption)))
       replace q8:=eq_true q8
       have p10:0≤(0:Int):=(by omega)
       have q10:0 < a0.size:=(by have:(0:Int) < (a0.size:Int):=of_decide_eq_true (by (with_reducible assumption));omega)
       have hx10:∀ h:0 < a0.size,((a0[0]'h).toNat:Int)=bt a0 0:=bt_at a0 0
       clear p10
       have qi10:(0 < (a0.size:Int))=True:=eq_true (of_decide_eq_true (by (with_reducible assumption)))
       replace q10:=eq_true q10
       go_wp2
       go_meet
       case rel=>exact ⟨_,(((bt a0 0) == 45)),(by rfl),H',⟨by omega⟩,⟨by with_reducible exact HB.out⟩⟩
     ·rw [if_neg c7] at H
      have c7b0:decide (48≤(bt a0 0))=false:=decide_eq_false c7
      clear c7
      have H':=Ak H
      clear H
      have p6:0≤(0:Int):=(by omega)
      have q6:0 < a0.size:=(by have:(0:Int) < (a0.size:Int):=of_decide_eq_true (by (with_reducible assumption));omega)
      have hx6:∀ h:0 < a0.size,((a0[0]'h).toNat:Int)=bt a0 0:=bt_at a0 0
      clear p6
      have qi6:(0 < (a0.size:Int))=True:=eq_true (of_decide_eq_true (by (with_reducible assumption)))
      replace q6:=eq_true q6
      have p11:0≤(0:Int):=(by omega)
      have q11:0 < a0.size:=(by have:(0:Int) < (a0.size:Int):=of_decide_eq_true (by (with_reducible assumption));omega)
      have hx11:∀ h:0 < a0.size,((a0[0]'h).toNat:Int)=bt a0 0:=bt_at a0 0
      clear p11
      have qi11:(0 < (a0.size:Int))=True:=eq_true (of_decide_eq_true (by (with_reducible assumption)))
      replace q11:=eq_true q11
      go_wp2
      go_meet
      case rel=>exact ⟨_,(((bt a0 0) == 45)),(by rfl),H',⟨by omega⟩,⟨by with_reducible exact HB.out⟩⟩
    ·rw [if_neg c5] at H
     exact absurd H (by simp)
 case rest=>
  clear HC2
  obtain ⟨kq,x27_1,rfl,HA,HJ1,HB⟩:=hcut
  cases kq with
  | zero=>exact absurd HA.out (by simp [q03_May.j0])
  | succ kj1=>
   have H:=HA.out
   clear HA
   simp only [q03_May.j0] at H
   by_cases c12:x27_1=true
   ·subst c12
    have H1:(some false)=some r:=by rw [if_pos rfl] at H;exact H
    clear H
    have H:=H1
    clear H1
    obtain rfl:=Option.some.inj H
    go_wp2
    go_ret
    exact ⟨by rfl,by with_reducible exact HB.out⟩
   ·replace c12:=Bool.eq_false_iff.mpr c12
    subst c12
    have H1:(q03_May.l0 kj1 a0 0)=some r:=by rw [if_neg (show ¬(false=true) by decide)] at H;exact H
    clear H
    have H:=H1
    clear H1
    have H':=Ak H
    clear H
    go_wp2
    go_loopg [3] kj1 (fun kq v3 w'=>∃ (x3_2:Int),v3 = .int .i64 x3_2∧Aside0 (q03_May.l0 kq a0 x3_2=some r)∧Aside0 (kq≤kj1)∧Aside0 (Below w.heap.size w w'))
    case atStart=>exact ⟨(0),(by rfl),H',⟨Nat.le_refl _⟩,⟨by with_reducible exact HB.out⟩⟩
    case round=>
     clear H'
     obtain ⟨x3_2,rfl,HA,HK2,HB⟩:=hrel
     cases gk with
     | zero=>exact absurd HA.out (by simp [q03_May.l0])
     | succ k2=>
      have H:=HA.out
      clear HA
      simp only [q03_May.l0] at H
      by_cases c13:x3_2 < (a0.size:Int)
      ·rw [if_pos c13] at H
       have c13b0:decide (x3_2 < (a0.size:Int))=true:=decide_eq_true c13
       clear c13
       replace H:=Option.bind_eq_some_iff.mp H
       obtain ⟨t195,A140,H⟩:=H
       replace H:(if t195=0 then (some false) else (q03_May.l0 k2 a0 (wrap64 (x3_2+t195))))=some r:=H
       have A14:=Ak A140
       clear A140
       by_cases c15:t195=0
       ·rw [if_pos c15] at H
        have c15b0:(t195 == 0)=true:=beq_iff_eq.mpr c15
        have c15b1:(t195 != 0)=false:=bne_eq_false_iff_eq.mpr c15
        clear c15
        obtain rfl:=Option.some.inj H
        go_wp2_with (((with_reducible refine gate_callee (f:=110) rfl ?_);refine goesL_ (some 34) rfl rfl Tryz.func110 (by kernel_rfl) rfl #[.string a0,.int .i64 x3_2] rfl (by (try simp only [List.map_toArray,List.map_cons,List.map_nil]);rfl) ?_;(with_reducible refine (q03_letter.calls k2 a0 x3_2 t195 _ A14.out).mono ?_);rintro e w16 ⟨rfl,hb⟩;refine ⟨_,rfl,?_⟩;replace HB:=Ak (below_step HB.out hb);(try clear hb)))
        go_ret
        exact ⟨by rfl,by with_reducible exact HB.out⟩
       ·rw [if_neg c15] at H
        have c15b0:(t195 == 0)=false:=beq_eq_false_iff_ne.mpr c15
        have c15b1:(t195 != 0)=true:=bne_iff_ne.mpr c15
        have H':=Ak H
        clear H
        go_wp2_with (((with_reducible refine gate_callee (f:=110) rfl ?_);refine goesL_ (some 34) rfl rfl Tryz.func110 (by kernel_rfl) rfl #[.string a0,.int .i64 x3_2] rfl (by (try simp only [List.map_toArray,List.map_cons,List.map_nil]);rfl) ?_;(with_reducible refine (q03_letter.calls k2 a0 x3_2 t195 _ A14.out).mono ?_);rintro e w17 ⟨rfl,hb⟩;refine ⟨_,rfl,?_⟩;replace HB:=Ak (below_step HB.out hb);(try clear hb)))
        go_roundg k2
        case measure=>have:=HJ1.out;have:=HK2.out;omega
        case rel=>exact ⟨(wrap64 (x3_2+t195)),(by rfl),H',⟨by have:=HJ1.out;have:=HK2.out;omega⟩,⟨by with_reducible exact HB.out⟩⟩
      ·rw [if_neg c13] at H
       have c13b0:decide (x3_2 < (a0.size:Int))=false:=decide_eq_false c13
       clear c13
       obtain rfl:=Option.some.inj H
       go_wp2
       go_ret
       exact ⟨by rfl,by with_reducible exact HB.out⟩
end Go.Proofs.YtocpcnmnhckcpaaGreat.Prt
namespace Go.Proofs.YtocpcnmnhckcpaaGreat.Nam
open RowKit YtocpcnmnhckcpaaGreatW.PrintWords YtocpcnmnhckcpaaGreatW.PrintLast YtocpcnmnhckcpaaGreatW.PrintMore YtocpcnmnhckcpaaGreat.Num YtocpcnmnhckcpaaGreat.Prt
def plainC (c:Int):Bool:=decide (97≤c∧c≤122) || decide (48≤c∧c≤57) || decide (c=45) || decide (c=95)
def two (c d:Int):Bool:=decide (c=195∧(d=169∨d=184∨d=159)) || decide (c=206∧d=187)
def big (c d:Int):List Int:=if c=195∧d=137 then [195,169] else if c=195∧d=152 then [195,184] else if c=206∧d=155 then [206,187] else []
def letD:List Int→Nat
 | []=>0
 | [c]=>if plainC c then 1 else 0
 | c :: d :: _=>if plainC c then 1 else if two c d then 2 else 0
def bigD:List Int→List Int
 | c :: d :: _=>big c d
 | _=>[]
theorem bytes_extract (s:ByteArray) (i j:Nat):bytesOf (s.extract i j)=((bytesOf s).drop i).take (j - i):=by
 unfold bytesOf
 rw [ByteArray.data_extract,Array.toList_extract,List.extract_eq_take_drop,List.map_take,List.map_drop]
theorem ext_beq (s t:ByteArray) (i j:Nat):((s.extract i j).toList == t.toList)=decide (((bytesOf s).drop i).take (j - i)=bytesOf t):=by
 rw [str_beq',←bytes_extract]
 exact decide_eq_decide.mpr ⟨fun h=>by rw [h],fun h=>bytesOf_inj h⟩
theorem bytes_length (s:ByteArray):(bytesOf s).length=s.size:=by unfold bytesOf;rw [List.length_map,Array.length_toList];rfl
theorem bt_getD (s:ByteArray) (i:Nat) (h:i < s.size):bt s (i:Int)=(bytesOf s).getD i 0:=by
 unfold bt
 rw [Int.toNat_natCast,dif_pos h]
 unfold bytesOf
 rw [List.getD_eq_getElem?_getD,List.getElem?_map,List.getElem?_eq_getElem (by rw [Array.length_toList];exact h)]
 simp
 rfl
theorem wrap_small {n:Int} (h0 : -9223372036854775808≤n) (h1:n≤9223372036854775807):wrap64 n=n:=by unfold wrap64;omega
theorem begins2 (s t:ByteArray) (i:Nat) (hs:s.size≤9223372036854775800) (hi:i≤s.size) (ht:t.size=2):q03_begins.f s (i:Int) t=some (decide (((bytesOf s).drop i).take 2=bytesOf t)):=by
 unfold q03_begins.f
 rw [wrap_small (n:=(s.size:Int) - i) (by omega) (by omega),wrap_small (n:=(i:Int)+(t.size:Int)) (by omega) (by omega),ht]
 by_cases h:(s.size:Int) - i ≥ 2
 ·have e1:((i:Int)+((2:Nat):Int)).toNat=i+2:=by omega
  rw [if_pos (by exact_mod_cast h),if_pos (by omega),if_pos (by omega),if_pos (by omega),ext_beq,e1,Int.toNat_natCast,Nat.add_sub_cancel_left]
 ·rw [if_neg (by exact_mod_cast h)]
  congr 1
  symm
  refine decide_eq_false (fun e=>?_)
  have h1:=congrArg List.length e
  rw [List.length_take,List.length_drop,bytes_length,bytes_length,ht] at h1
  omega
theorem plain_val (c:Int):q03_plain.f c=some (plainC c):=by
 unfold q03_plain.f plainC
 repeat' split
 all_goals (congr 1;rw [Bool.eq_iff_iff];simp;try omega)
theorem take2 (l:List Int) (a b:Int):decide (l.take 2=[a,b])=(match l with | c :: d :: _=>decide (c=a∧d=b) | _=>false):=by
 match l with
 | []=>simp
 | [c]=>simp
 | c :: d :: r=>simp
theorem bytes_of2 (a b:UInt8):bytesOf ⟨#[a,b]⟩=[(a.toNat:Int),(b.toNat:Int)]:=rfl
theorem drop_cons (l:List Int) (i:Nat) (h:i < l.length):l.drop i=l.getD i 0 :: l.drop (i+1):=by
 rw [List.drop_eq_getElem_cons h,List.getD_eq_getElem?_getD,List.getElem?_eq_getElem h];rfl
theorem letter_val (k:Nat) (s:ByteArray) (i:Nat) (hs:s.size≤9223372036854775800) (hi:i < s.size):q03_letter.f (k+5) s (i:Int)=some ((letD ((bytesOf s).drop i):Nat):Int):=by
 have hl:i < (bytesOf s).length:=by rw [bytes_length];exact hi
 unfold q03_letter.f
 rw [if_pos (by omega),if_pos (by omega),bt_getD s i hi,plain_val,drop_cons _ i hl]
 simp only [Option.bind_some]
 generalize hc:(bytesOf s).getD i 0=c
 by_cases hp:plainC c=true
 ·rw [if_pos hp]
  cases hr:(bytesOf s).drop (i+1) with
  | nil=>simp [letD,hp]
  | cons d r=>simp [letD,hp]
 ·rw [if_neg hp]
  have b1:∀ a b:UInt8,q03_begins.f s (i:Int) ⟨#[a,b]⟩=some (match c :: (bytesOf s).drop (i+1) with | c :: d :: _=>decide (c=(a.toNat:Int)∧d=(b.toNat:Int)) | _=>false):=by
   intro a b
   rw [begins2 s ⟨#[a,b]⟩ i hs (by omega) rfl,bytes_of2,take2,drop_cons _ i hl,hc]
  have h0:wrap64 ((0:Int)+1)=1:=wrap_small (by decide) (by decide)
  have h1:wrap64 ((1:Int)+1)=2:=wrap_small (by decide) (by decide)
  have h2:wrap64 ((2:Int)+1)=3:=wrap_small (by decide) (by decide)
  have h3:wrap64 ((3:Int)+1)=4:=wrap_small (by decide) (by decide)
  have r0:rdOf ByteArray.empty [(⟨#[195,169]⟩:ByteArray),⟨#[195,184]⟩,⟨#[195,159]⟩,⟨#[206,187]⟩] 0=⟨#[195,169]⟩:=rfl
  have r1:rdOf ByteArray.empty [(⟨#[195,169]⟩:ByteArray),⟨#[195,184]⟩,⟨#[195,159]⟩,⟨#[206,187]⟩] 1=⟨#[195,184]⟩:=rfl
  have r2:rdOf ByteArray.empty [(⟨#[195,169]⟩:ByteArray),⟨#[195,184]⟩,⟨#[195,159]⟩,⟨#[206,187]⟩] 2=⟨#[195,159]⟩:=rfl
  have r3:rdOf ByteArray.empty [(⟨#[195,169]⟩:ByteArray),⟨#[195,184]⟩,⟨#[195,159]⟩,⟨#[206,187]⟩] 3=⟨#[206,187]⟩:=rfl
  simp only [q03_letters.f,Option.bind_some,q03_letter.l0,List.length_cons,List.length_nil,h0,h1,h2,h3,r0,r1,r2,r3,b1]
  cases hr:(bytesOf s).drop (i+1) with
  | nil=>simp [letD,hp]
  | cons d r=>
   simp only [letD,if_neg hp,two]
   by_cases c1:c=195
   ·subst c1
    by_cases d1:d=169
    ·subst d1;simp
    ·by_cases d2:d=184
     ·subst d2;simp
     ·by_cases d3:d=159
      ·subst d3;simp
      ·simp [d1,d2,d3]
   ·by_cases c2:c=206
    ·subst c2
     by_cases d1:d=187
     ·subst d1;simp
     ·simp [d1]
    ·simp [c1,c2]
theorem letD_le (l:List Int):letD l≤l.length∧letD l≤2:=by
 match l with
 | []=>simp [letD]
 | [c]=>simp only [letD,List.length_cons,List.length_nil];split <;> omega
 | c :: d :: r=>simp only [letD,List.length_cons];(repeat' split) <;> omega
def lettersOnly (l:List Int):Bool:=if h:letD l=0 then l.isEmpty else lettersOnly (l.drop (letD l))
termination_by l.length
decreasing_by
 have:=letD_le l
 rw [List.length_drop];omega
theorem lettersOnly_nil:lettersOnly []=true:=by rw [lettersOnly];rfl
theorem lettersOnly_bad {l:List Int} (h:letD l=0) (hl:l≠[]):lettersOnly l=false:=by rw [lettersOnly,dif_pos h];cases l with | nil=>exact absurd rfl hl | cons c r=>rfl
theorem lettersOnly_step {l:List Int} (h:letD l≠0):lettersOnly l=lettersOnly (l.drop (letD l)):=by rw [lettersOnly,dif_neg h]
def notFirst (c:Int):Bool:=decide (48≤c∧c≤57) || decide (c=45)
def mayL (l:List Int):Bool:=decide (1≤l.length∧l.length≤24) && !notFirst (l.getD 0 0) && lettersOnly l
def stepL (l:List Int):List Int × Nat:=
 let c:=l.getD 0 0
 if 0 < letD l then (l.take (letD l),letD l)
 else if 65≤c∧c≤90 then ([c+32],1)
 else if c=32∨c=46∨c=47 then ([45],1)
 else if bigD l≠[] then (bigD l,2)
 else ([],1)
theorem bigD_len (l:List Int):bigD l=[]∨((bigD l).length=2∧2≤l.length):=by
 match l with
 | []=>exact .inl rfl
 | [c]=>exact .inl rfl
 | c :: d :: r=>simp only [bigD,big,List.length_cons];(repeat' split) <;> simp
theorem stepL_len {l:List Int} (hl:l≠[]):1≤(stepL l).2∧(stepL l).2≤l.length∧(stepL l).1.length≤(stepL l).2:=by
 have h1:=letD_le l
 have h2:=bigD_len l
 have h3:1≤l.length:=List.length_pos_iff.2 hl
 simp only [stepL]
 repeat' split
 ·rw [List.length_take];omega
 ·simp;omega
 ·simp;omega
 ·rcases h2 with h | ⟨h,h'⟩
  ·contradiction
  ·exact ⟨Nat.le_succ 1,h',Nat.le_of_eq h⟩
 ·simp;omega
def foldL (l:List Int):List Int:=if h:l=[] then [] else (stepL l).1++foldL (l.drop (stepL l).2)
termination_by l.length
decreasing_by
 have:=stepL_len h
 rw [List.length_drop];omega
theorem foldL_step {l:List Int} (h:l≠[]):foldL l=(stepL l).1++foldL (l.drop (stepL l).2):=by rw [foldL,dif_neg h]
theorem letters_val (s:ByteArray) (hs:s.size≤9223372036854775000):∀ (n i k:Nat),s.size≤i+n→i≤s.size→q03_May.l0 (k+6+n) s (i:Int)=some (lettersOnly ((bytesOf s).drop i)):=by
 intro n
 induction n with
 | zero=>
  intro i k h1 h2
  have e:(bytesOf s).drop i=[]:=List.drop_eq_nil_of_le (by rw [bytes_length];omega)
  rw [e,lettersOnly_nil]
  show q03_May.l0 ((k+5)+1) s (i:Int)=_
  rw [q03_May.l0,if_neg (by omega)]
 | succ n ih=>
  intro i k h1 h2
  by_cases hi:i < s.size
  ·have hne:(bytesOf s).drop i≠[]:=fun e=>by have:=congrArg List.length e;rw [List.length_drop,bytes_length] at this;simp at this;omega
   have hle:=letD_le ((bytesOf s).drop i)
   rw [List.length_drop,bytes_length] at hle
   rw [show k+6+(n+1)=(k+1+n+5)+1 by omega]
   rw [q03_May.l0,if_pos (by omega),letter_val _ s i (by omega) hi,Option.bind_some]
   generalize hn:letD ((bytesOf s).drop i)=m at *
   by_cases h0:m=0
   ·subst h0
    rw [if_pos (show ((0:Nat):Int)=0 from rfl),lettersOnly_bad hn hne]
   ·rw [if_neg (by omega),wrap_small (by omega) (by omega),lettersOnly_step (by omega),hn,List.drop_drop,←Int.natCast_add,show k+1+n+5=k+6+n by omega]
    exact ih (i+m) k (by omega) (by omega)
  ·have e:(bytesOf s).drop i=[]:=List.drop_eq_nil_of_le (by rw [bytes_length];omega)
   rw [e,lettersOnly_nil]
   rw [show k+6+(n+1)=(k+1+n+5)+1 by omega]
   rw [q03_May.l0,if_neg (by omega)]
theorem may_val (s:ByteArray) (hs:s.size≤9223372036854775000):q03_May.f (s.size+8) s=some (mayL (bytesOf s)):=by
 have hj:∀ b,q03_May.j0 (s.size+8) s b=some (!b && lettersOnly (bytesOf s)):=by
  intro b
  rw [show s.size+8=(1+6+s.size)+1 by omega]
  rw [q03_May.j0]
  cases b
  ·rw [if_neg (by decide)]
   have:=letters_val s hs s.size 0 1 (by omega) (by omega)
   rw [List.drop_zero] at this
   simpa using this
  ·rfl
 unfold q03_May.f mayL
 simp only [hj]
 rw [bytes_length]
 by_cases h1:(s.size:Int) < 1
 ·rw [if_pos h1]
  simp;omega
 ·rw [if_neg h1]
  by_cases h2:(s.size:Int) > 24
  ·rw [if_pos h2]
   simp;omega
  ·rw [if_neg h2,if_pos (by omega)]
   have e:=bt_getD s 0 (by omega)
   have e2:((0:Nat):Int)=0:=rfl
   rw [e2] at e
   rw [e]
   have e3:decide (1≤s.size∧s.size≤24)=true:=decide_eq_true (by omega)
   rw [e3]
   generalize (bytesOf s).getD 0 0=c
   unfold notFirst
   repeat' split
   all_goals (congr 1;rw [Bool.eq_iff_iff];simp;try omega)
theorem strOfNums_size' (l:List Int):(strOfNums l).size=l.length:=by unfold strOfNums;show (List.toArray _).size=_;simp
def encR (r:Int):List Int:=if r≤127 then [r] else [192+r / 64,128+r % 64]
theorem dec_sum (s:ByteArray) (i:Nat) (hi:i < s.size) :
  ((s.get! i).toNat < 128∧(Utf8.decode s i).1=(s.get! i).toNat∧(Utf8.decode s i).2=1) ∨
  (128≤(s.get! i).toNat∧i+1 < s.size∧(s.get! i).toNat / 32=6∧(s.get! (i+1)).toNat / 64=2∧(Utf8.decode s i).1=((s.get! i).toNat % 32) * 64+(s.get! (i+1)).toNat % 64∧128≤((s.get! i).toNat % 32) * 64+(s.get! (i+1)).toNat % 64∧(Utf8.decode s i).2=2) ∨
  (128≤(s.get! i).toNat∧((Utf8.decode s i).1=65533∨2048≤(Utf8.decode s i).1)∧1≤(Utf8.decode s i).2∧i+(Utf8.decode s i).2≤s.size∧(∀ k,1≤k→k < (Utf8.decode s i).2→(s.get! (i+k)).toNat / 64=2)∧¬(i+1 < s.size∧(s.get! i).toNat / 32=6∧(s.get! (i+1)).toNat / 64=2∧128≤((s.get! i).toNat % 32) * 64+(s.get! (i+1)).toNat % 64)):=by
 obtain ⟨f,hf⟩:∃ f:Nat→Nat,∀ k,(s.get! (i+k)).toNat=f k:=⟨fun k=>(s.get! (i+k)).toNat,fun _=>rfl⟩
 have h00:(s.get! i).toNat=f 0:=hf 0
 unfold Utf8.decode
 simp only [hf,h00]
 clear h00 hf
 generalize f 0=b0
 by_cases h0:b0 < 128
 ·rw [if_pos h0];exact .inl ⟨h0,rfl,rfl⟩
 ·rw [if_neg h0]
  right
  by_cases h1:(b0 / 32 == 6 && (decide (i+1 < s.size) && f 1 / 64 == 2))=true
  ·rw [if_pos h1]
   simp only [Bool.and_eq_true,beq_iff_eq,decide_eq_true_eq] at h1
   by_cases h2:b0 % 32 * 64+f 1 % 64 ≥ 128
   ·rw [if_pos h2];exact .inl ⟨by omega,h1.2.1,h1.1,h1.2.2,rfl,h2,rfl⟩
   ·rw [if_neg h2];exact .inr ⟨by omega,.inl rfl,Nat.le_refl _,by simp only;omega,fun k hk hk2=>by simp only at hk2;omega,fun h=>by omega⟩
  ·rw [if_neg h1]
   simp only [Bool.and_eq_true,beq_iff_eq,decide_eq_true_eq] at h1
   right
   have hno:¬(i+1 < s.size∧b0 / 32=6∧f 1 / 64=2∧128≤b0 % 32 * 64+f 1 % 64):=fun h=>h1 ⟨h.2.1,h.1,h.2.2.1⟩
   have bad:128≤b0∧((65533:Nat)=65533∨2048≤(65533:Nat))∧1≤1∧i+1≤s.size∧(∀ k,1≤k→k < 1→f k / 64=2)∧¬(i+1 < s.size∧b0 / 32=6∧f 1 / 64=2∧128≤b0 % 32 * 64+f 1 % 64):=
    ⟨by omega,.inl rfl,Nat.le_refl _,by omega,fun k hk hk2=>by omega,hno⟩
   by_cases h3:(b0 / 16 == 14 && (decide (i+1 < s.size) && f 1 / 64 == 2) && (decide (i+2 < s.size) && f 2 / 64 == 2))=true
   ·rw [if_pos h3]
    simp only [Bool.and_eq_true,beq_iff_eq,decide_eq_true_eq] at h3
    split
    ·rename_i h4
     simp only [Bool.and_eq_true,decide_eq_true_eq] at h4
     exact ⟨by omega,.inr h4.1,Nat.succ_le_succ (Nat.zero_le _),by simp only;omega,fun k hk hk2=>by
      simp only at hk2
      rcases (show k=1∨k=2 by omega) with rfl | rfl
      ·exact h3.1.2.2
      ·exact h3.2.2,hno⟩
    ·exact bad
   ·rw [if_neg h3]
    by_cases h5:(b0 / 8 == 30 && (decide (i+1 < s.size) && f 1 / 64 == 2) && (decide (i+2 < s.size) && f 2 / 64 == 2) && (decide (i+3 < s.size) && f 3 / 64 == 2))=true
    ·rw [if_pos h5]
     simp only [Bool.and_eq_true,beq_iff_eq,decide_eq_true_eq] at h5
     split
     ·rename_i h4
      simp only [Bool.and_eq_true,decide_eq_true_eq] at h4
      exact ⟨by omega,.inr (by omega),Nat.succ_le_succ (Nat.zero_le _),by simp only;omega,fun k hk hk2=>by
       simp only at hk2
       rcases (show k=1∨k=2∨k=3 by omega) with rfl | rfl | rfl
       ·exact h5.1.1.2.2
       ·exact h5.1.2.2
       ·exact h5.2.2,hno⟩
     ·exact bad
    ·rw [if_neg h5]
     exact bad
def letR (c:Int):Bool:=plainC c || decide (c=233∨c=248∨c=223∨c=955)
def smallR (c:Int):Int:=if c=32∨c=46∨c=47 then 45 else if c=201 then 233 else if c=216 then 248 else if c=923 then 955 else if letR c then c else if 65≤c∧c≤90 then c+32 else 65533
theorem plain_range {c:Int} (h:plainC c=true):45≤c∧c≤122∧c≠46∧c≠47:=by
 unfold plainC at h
 simp only [Bool.or_eq_true,decide_eq_true_eq] at h
 omega
theorem two_iff {c d:Int}:two c d=true↔(c=195∧(d=169∨d=184∨d=159))∨(c=206∧d=187):=by unfold two;simp
theorem gb (s:ByteArray) (j:Nat) (h:j < s.size):(bytesOf s).getD j 0=((s.get! j).toNat:Int):=by
 unfold bytesOf
 have h2:j < s.data.size:=h
 rw [List.getD_eq_getElem?_getD,List.getElem?_map,Array.getElem?_toList,Array.getElem?_eq_getElem h2]
 have e:s.get! j=s.data[j]:=by
  show s.data[j]! = _
  rw [getElem!_pos s.data j h2]
 rw [e];rfl
theorem skip1 (c:Int) (r:List Int) (h:letD (c :: r)=0) (hb:bigD (c :: r)=[]) (hc:128≤c):foldL (c :: r)=foldL r:=by
 rw [foldL_step (by simp)]
 have e:stepL (c :: r)=([],1):=by
  unfold stepL
  simp only [h,hb,List.getD_cons_zero]
  rw [if_neg (by decide),if_neg (by omega),if_neg (by omega),if_neg (by simp)]
 rw [e];rfl
theorem skipC (d:Int) (r:List Int) (h1:128≤d) (h2:d < 192):foldL (d :: r)=foldL r:=by
 have hp:¬plainC d=true:=fun h=>by have:=plain_range h;omega
 refine skip1 d r ?_ ?_ h1
 ·cases r with
  | nil=>simp [letD,hp]
  | cons e t=>
   simp only [letD,if_neg hp]
   rw [if_neg (fun h=>by rw [two_iff] at h;omega)]
 ·cases r with
  | nil=>rfl
  | cons e t=>simp only [bigD,big];rw [if_neg (by omega),if_neg (by omega),if_neg (by omega)]
theorem letD_pos1 {c:Int} {r:List Int} (h:plainC c=true):letD (c :: r)=1:=by
 cases r with
 | nil=>simp [letD,h]
 | cons d t=>simp [letD,h]
theorem letD0 {c:Int} {r:List Int} (hp:¬plainC c=true) (h1:c≠195) (h2:c≠206):letD (c :: r)=0∧bigD (c :: r)=[]:=by
 cases r with
 | nil=>exact ⟨by simp [letD,hp],rfl⟩
 | cons d t=>
  refine ⟨?_,?_⟩
  ·simp only [letD,if_neg hp]
   rw [if_neg (fun h=>by rw [two_iff] at h;omega)]
  ·simp only [bigD,big];rw [if_neg (by omega),if_neg (by omega),if_neg (by omega)]
theorem letR_small {r:Int} (h:letR r=true):smallR r=r:=by
 have h0:=h
 unfold letR at h
 simp only [Bool.or_eq_true,decide_eq_true_eq] at h
 unfold smallR
 have hr:r≠32∧r≠46∧r≠47∧r≠201∧r≠216∧r≠923:=by
  rcases h with h | h
  ·have:=plain_range h;omega
  ·omega
 rw [if_neg (by omega),if_neg (by omega),if_neg (by omega),if_neg (by omega),if_pos h0]
theorem rune_cases (s:ByteArray) (i:Nat) (hi:i < s.size) (L:List Int) (hL:L=(bytesOf s).drop i) (r:Int) (w:Nat) (hr:r=((Utf8.decode s i).1:Int)) (hw:w=(Utf8.decode s i).2) :
  1≤w∧i+w≤s.size∧((0 < letD L∧w=letD L∧letR r=true∧encR r=L.take w∧smallR r=r∧((0≤r∧r≤127)∨r=233∨r=248∨r=223∨r=955)∧(r≤57↔notFirst (L.getD 0 0)=true)) ∨
   (letD L=0∧letR r=false∧((smallR r≠65533∧encR (smallR r)=(stepL L).1∧w=(stepL L).2∧((0≤smallR r∧smallR r≤127)∨smallR r=233∨smallR r=248∨smallR r=223∨smallR r=955))∨(smallR r=65533∧foldL L=foldL (L.drop w))))):=by
 have hlen:(bytesOf s).length=s.size:=bytes_length s
 have hc:=gb s i hi
 rw [drop_cons _ i (by omega),hc] at hL
 generalize hb0:(s.get! i).toNat=b0 at *
 have hb:b0 < 256:=by rw [←hb0];exact UInt8.toNat_lt _
 rcases dec_sum s i hi with ⟨h1,h2,h3⟩ | ⟨h1,h2,h3,h4,h5,h6,h7⟩ | ⟨h1,h2,h3,h4,h5,h6⟩
 ·rw [hb0] at h1 h2
  rw [h2] at hr
  rw [h3] at hw
  subst hr;subst hw
  refine ⟨Nat.le_refl _,by omega,?_⟩
  by_cases hp:plainC (b0:Int)=true
  ·left
   have hl:letR (b0:Int)=true:=by unfold letR;rw [hp];rfl
   have hpr:=plain_range hp
   have e1:letD L=1:=by rw [hL];exact letD_pos1 hp
   refine ⟨by omega,e1.symm,hl,?_,letR_small hl,.inl ⟨by omega,by omega⟩,?_⟩
   ·unfold encR;rw [if_pos (by omega),hL];rfl
   ·rw [hL,List.getD_cons_zero];unfold notFirst;simp only [Bool.or_eq_true,decide_eq_true_eq];omega
  ·right
   obtain ⟨e1,e2⟩:=letD0 (r:=(bytesOf s).drop (i+1)) hp (by omega) (by omega)
   rw [←hL] at e1 e2
   have hl:letR (b0:Int)=false:=by
    unfold letR
    have:plainC (b0:Int)=false:=by simpa using hp
    rw [this,Bool.false_or]
    exact decide_eq_false (by omega)
   refine ⟨e1,hl,?_⟩
   have hg:L.getD 0 0=(b0:Int):=by rw [hL];rfl
   by_cases hs:(b0:Int)=32∨(b0:Int)=46∨(b0:Int)=47
   ·left
    have e:smallR (b0:Int)=45:=by unfold smallR;rw [if_pos hs]
    rw [e]
    refine ⟨by decide,?_,?_,by omega⟩
    ·unfold stepL;simp only [e1,hg];rw [if_neg (by decide),if_neg (by omega),if_pos hs];rfl
    ·unfold stepL;simp only [e1,hg];rw [if_neg (by decide),if_neg (by omega),if_pos hs]
   ·by_cases hu:65≤(b0:Int)∧(b0:Int)≤90
    ·left
     have e:smallR (b0:Int)=(b0:Int)+32:=by unfold smallR;rw [if_neg hs,if_neg (by omega),if_neg (by omega),if_neg (by omega),if_neg (by rw [hl];decide),if_pos hu]
     rw [e]
     refine ⟨by omega,?_,?_,by omega⟩
     ·unfold stepL;simp only [e1,hg];rw [if_neg (by decide),if_pos hu];unfold encR;rw [if_pos (by omega)]
     ·unfold stepL;simp only [e1,hg];rw [if_neg (by decide),if_pos hu]
    ·right
     have e:smallR (b0:Int)=65533:=by unfold smallR;rw [if_neg hs,if_neg (by omega),if_neg (by omega),if_neg (by omega),if_neg (by rw [hl];decide),if_neg hu]
     refine ⟨e,?_⟩
     have hne:L≠[]:=by rw [hL];simp
     rw [foldL_step hne]
     have e3:stepL L=([],1):=by unfold stepL;simp only [e1,hg,e2];rw [if_neg (by decide),if_neg hu,if_neg hs,if_neg (by simp)]
     rw [e3];rfl
 ·rw [hb0] at h1 h3 h5 h6
  have hd:=gb s (i+1) h2
  rw [drop_cons _ (i+1) (by omega),hd] at hL
  generalize hb1:(s.get! (i+1)).toNat=b1 at *
  have hbb:b1 < 256:=by rw [←hb1];exact UInt8.toNat_lt _
  rw [h5] at hr
  rw [h7] at hw
  subst hw
  refine ⟨by omega,by omega,?_⟩
  have hp:¬plainC (b0:Int)=true:=fun h=>by have:=plain_range h;omega
  have hrp:plainC r=false:=by
   cases h:plainC r with
   | false=>rfl
   | true=>have:=plain_range h;omega
  by_cases ht:two (b0:Int) (b1:Int)=true
  ·left
   have e1:letD L=2:=by rw [hL];simp only [letD,if_neg hp,if_pos ht]
   rw [two_iff] at ht
   have hl:letR r=true:=by unfold letR;rw [hrp,Bool.false_or];exact decide_eq_true (by omega)
   refine ⟨by omega,e1.symm,hl,?_,letR_small hl,.inr (by omega),?_⟩
   ·unfold encR;rw [if_neg (by omega),hL]
    show _=[(b0:Int),(b1:Int)]
    congr 1
    ·omega
    ·congr 1;omega
   ·rw [hL,List.getD_cons_zero];unfold notFirst;simp only [Bool.or_eq_true,decide_eq_true_eq];omega
  ·right
   have e1:letD L=0:=by rw [hL];simp only [letD,if_neg hp,if_neg ht]
   have ht':¬(((b0:Int)=195∧((b1:Int)=169∨(b1:Int)=184∨(b1:Int)=159))∨((b0:Int)=206∧(b1:Int)=187)):=fun h=>ht (two_iff.2 h)
   have hl:letR r=false:=by unfold letR;rw [hrp,Bool.false_or];exact decide_eq_false (by omega)
   refine ⟨e1,hl,?_⟩
   have hg:L.getD 0 0=(b0:Int):=by rw [hL];rfl
   have step2:∀ o,big (b0:Int) (b1:Int)=o→o≠[]→stepL L=(o,2):=by
    intro o ho hno
    have e2:bigD L=o:=by rw [hL];exact ho
    unfold stepL;simp only [e1,hg,e2];rw [if_neg (by decide),if_neg (by omega),if_neg (by omega),if_pos hno]
   by_cases g1:r=201
   ·left
    have e:smallR r=233:=by unfold smallR;rw [if_neg (by omega),if_pos g1]
    have e3:=step2 [195,169] (by unfold big;rw [if_pos (by omega)]) (by simp)
    rw [e,e3]
    exact ⟨by decide,rfl,rfl,by decide⟩
   ·by_cases g2:r=216
    ·left
     have e:smallR r=248:=by unfold smallR;rw [if_neg (by omega),if_neg g1,if_pos g2]
     have e3:=step2 [195,184] (by unfold big;rw [if_neg (by omega),if_pos (by omega)]) (by simp)
     rw [e,e3]
     exact ⟨by decide,rfl,rfl,by decide⟩
    ·by_cases g3:r=923
     ·left
      have e:smallR r=955:=by unfold smallR;rw [if_neg (by omega),if_neg g1,if_neg g2,if_pos g3]
      have e3:=step2 [206,187] (by unfold big;rw [if_neg (by omega),if_neg (by omega),if_pos (by omega)]) (by simp)
      rw [e,e3]
      exact ⟨by decide,rfl,rfl,by decide⟩
     ·right
      have e:smallR r=65533:=by unfold smallR;rw [if_neg (by omega),if_neg g1,if_neg g2,if_neg g3,if_neg (by rw [hl];decide),if_neg (by omega)]
      have e2:bigD L=[]:=by rw [hL];simp only [bigD,big];rw [if_neg (by omega),if_neg (by omega),if_neg (by omega)]
      refine ⟨e,?_⟩
      rw [hL] at e1 e2 ⊢
      rw [skip1 _ _ e1 e2 (by omega),skipC _ _ (by omega) (by omega)];rfl
 ·rw [hb0] at h1 h6
  rw [←hw] at h3 h4 h5
  refine ⟨h3,h4,.inr ?_⟩
  have hp:¬plainC (b0:Int)=true:=fun h=>by have:=plain_range h;omega
  have hrp:plainC r=false:=by
   cases h:plainC r with
   | false=>rfl
   | true=>have:=plain_range h;omega
  have hl:letR r=false:=by unfold letR;rw [hrp,Bool.false_or];exact decide_eq_false (by omega)
  have e12:letD L=0∧bigD L=[]:=by
   rw [hL]
   by_cases hi1:i+1 < s.size
   ·have hd:=gb s (i+1) hi1
    rw [drop_cons _ (i+1) (by omega),hd]
    generalize hb1:(s.get! (i+1)).toNat=b1 at *
    have hbb:b1 < 256:=by rw [←hb1];exact UInt8.toNat_lt _
    have hno:¬(((b0:Int)=195∨(b0:Int)=206)∧128≤b1∧b1 < 192):=fun h=>h6 ⟨hi1,by omega,by omega,by omega⟩
    refine ⟨?_,?_⟩
    ·simp only [letD,if_neg hp]
     rw [if_neg (fun h=>by rw [two_iff] at h;omega)]
    ·simp only [bigD,big];rw [if_neg (by omega),if_neg (by omega),if_neg (by omega)]
   ·have:(bytesOf s).drop (i+1)=[]:=List.drop_eq_nil_of_le (by omega)
    rw [this]
    exact ⟨by simp [letD,hp],rfl⟩
  refine ⟨e12.1,hl,.inr ⟨?_,?_⟩⟩
  ·unfold smallR;rw [if_neg (by omega),if_neg (by omega),if_neg (by omega),if_neg (by omega),if_neg (by rw [hl];decide),if_neg (by omega)]
  ·have key:∀ j,1≤j→j≤w→foldL L=foldL (L.drop j):=by
    intro j
    induction j with
    | zero=>intro h;omega
    | succ j ih=>
     intro _ hj
     by_cases hj0:j=0
     ·subst hj0
      have e1:=e12.1;have e2:=e12.2
      rw [hL] at e1 e2 ⊢
      exact skip1 _ _ e1 e2 (by omega)
     ·rw [ih (by omega) (by omega)]
      have hcj:=h5 j (by omega) (by omega)
      have hij:i+j < s.size:=by omega
      have hgj:=gb s (i+j) hij
      have e:L.drop j=(bytesOf s).drop (i+j):=by rw [hL,←hc,←drop_cons _ i (by omega),List.drop_drop]
      have e':L.drop (j+1)=(bytesOf s).drop (i+j+1):=by rw [hL,←hc,←drop_cons _ i (by omega),List.drop_drop];rfl
      have hbb:(s.get! (i+j)).toNat < 256:=UInt8.toNat_lt _
      rw [e,e',drop_cons _ (i+j) (by omega),hgj]
      exact skipC _ _ (by omega) (by omega)
   exact key w h3 (Nat.le_refl _)
end Go.Proofs.YtocpcnmnhckcpaaGreat.Nam
namespace Go.Proofs
open Go.Shelf
def Tryz.lays169_ren:Go.Shelf.Ren:=⟨fun | 169=>42 | n=>n,fun | 70=>72 | 9=>9 | 0=>0 | 72=>74 | 37=>23 | 127=>107 | 3=>3 | 5=>5 | n=>n,fun | n=>n⟩
theorem Tryz.lays169:Go.Proofs.Lays.n169 Tryz.prog Tryz.lays169_ren:={
 mixed:=by kernel_rfl
 f169:=Tryz.func42.trans (congrArg some (by kernel_rfl))
 t0:=Tryz.underlying0
 a0:=Tryz.isAgg0
 z0:=Tryz.sizeOf0
 v0:=Tryz.zeroValue0
 t3:=Tryz.underlying3
 a3:=Tryz.isAgg3
 z3:=Tryz.sizeOf3
 v3:=Tryz.zeroValue3
 t9:=Tryz.underlying9
 a9:=Tryz.isAgg9
 z9:=Tryz.sizeOf9
 v9:=Tryz.zeroValue9
 t37:=Tryz.underlying23
 a37:=Tryz.isAgg23
 z37:=Tryz.sizeOf23
 v37:=Tryz.zeroValue23
 t70:=Tryz.underlying72
 a70:=Tryz.isAgg72
 z70:=Tryz.sizeOf72
 v70:=Tryz.zeroValue72
 t72:=Tryz.underlying74
 a72:=Tryz.isAgg74
 z72:=Tryz.sizeOf74
 v72:=Tryz.zeroValue74
 t127:=Tryz.underlying107
 a127:=Tryz.isAgg107
 z127:=Tryz.sizeOf107
 v127:=Tryz.zeroValue107 }
theorem Tryz.Builder_Extra_169:Builder.Extra Tryz.prog Tryz.lays169_ren:={
 sizeBuilder:=by kernel_rfl
 liesBuilder:=by kernel_rfl
 t5:=Tryz.underlying5
 a5:=Tryz.isAgg5
 z5:=Tryz.sizeOf5
 v5:=Tryz.zeroValue5
 infoByte:=by kernel_rfl
 cellsByte:=by kernel_rfl
 sizeByte:=by kernel_rfl
 neB5:=by decide }
def Tryz.lays137_ren:Go.Shelf.Ren:=⟨fun | 137=>73 | 217=>100 | 266=>114 | n=>n,fun | 9=>9 | 5=>5 | 3=>3 | n=>n,fun | n=>n⟩
theorem Tryz.lays137:Go.Proofs.Lays.n137 Tryz.prog Tryz.lays137_ren:={
 mixed:=by kernel_rfl
 f137:=Tryz.func73.trans (congrArg some (by kernel_rfl))
 f217:=Tryz.func100.trans (congrArg some (by kernel_rfl))
 f266:=Tryz.func114.trans (congrArg some (by kernel_rfl))
 t3:=Tryz.underlying3
 a3:=Tryz.isAgg3
 z3:=Tryz.sizeOf3
 v3:=Tryz.zeroValue3
 t5:=Tryz.underlying5
 a5:=Tryz.isAgg5
 z5:=Tryz.sizeOf5
 v5:=Tryz.zeroValue5
 t9:=Tryz.underlying9
 a9:=Tryz.isAgg9
 z9:=Tryz.sizeOf9
 v9:=Tryz.zeroValue9 }
open RowKit in
theorem Tryz.strings_IndexByte (s:ByteArray) (c:Int) (w:World) :
  Calls Tryz.prog 73 #[.string s,.int .u8 c] w fun e w'=>e = .returned (.int .i64 (Lib.indexByte s.data.toList c.toNat.toUInt8))∧w'=w:=Any.strings_IndexByte Tryz.lays137 s c w
open RowKit in
theorem Tryz.Builder_String_any_k (B b:Nat) (l:List UInt8) (w:World) (h:Lib.IsBuilderF 74 5 B b (Lib.byteCells l) w) (hBw:B≤w.heap.size) :
  Calls Tryz.prog 42 #[.pointer (some ⟨b,0,none⟩)] w fun e w'=>e = .returned (.string ⟨l.toArray⟩)∧(Lib.IsBuilderF 74 5 B b (Lib.byteCells l) w'∧Below B w w'∧Lib.OthersKept 5 (some b) w w'):=Any.Builder_String_any_k Tryz.lays169 Tryz.Builder_Extra_169 B b l w h hBw
def Tryz.lays219_ren:Go.Shelf.Ren:=⟨fun | 219=>98 | 217=>100 | 225=>111 | 224=>112 | 267=>113 | 266=>114 | 314=>120 | n=>n,fun | 9=>9 | 3=>3 | 4=>4 | 5=>5 | 46=>87 | 146=>144 | 51=>143 | n=>n,fun | 1=>0 | n=>n⟩
theorem Tryz.lays219:Go.Proofs.Lays.n219 Tryz.prog Tryz.lays219_ren:={
 mixed:=by kernel_rfl
 f217:=Tryz.func100.trans (congrArg some (by kernel_rfl))
 f219:=Tryz.func98.trans (congrArg some (by kernel_rfl))
 f224:=Tryz.func112.trans (congrArg some (by kernel_rfl))
 f225:=Tryz.func111.trans (congrArg some (by kernel_rfl))
 f266:=Tryz.func114.trans (congrArg some (by kernel_rfl))
 f267:=Tryz.func113.trans (congrArg some (by kernel_rfl))
 f314:=Tryz.func120.trans (congrArg some (by kernel_rfl))
 t3:=Tryz.underlying3
 a3:=Tryz.isAgg3
 z3:=Tryz.sizeOf3
 v3:=Tryz.zeroValue3
 t4:=Tryz.underlying4
 a4:=Tryz.isAgg4
 z4:=Tryz.sizeOf4
 v4:=Tryz.zeroValue4
 t5:=Tryz.underlying5
 a5:=Tryz.isAgg5
 z5:=Tryz.sizeOf5
 v5:=Tryz.zeroValue5
 t9:=Tryz.underlying9
 a9:=Tryz.isAgg9
 z9:=Tryz.sizeOf9
 v9:=Tryz.zeroValue9
 t46:=Tryz.underlying87
 a46:=Tryz.isAgg87
 z46:=Tryz.sizeOf87
 v46:=Tryz.zeroValue87
 t51:=Tryz.underlying143
 a51:=Tryz.isAgg143
 z51:=Tryz.sizeOf143
 v51:=Tryz.zeroValue143
 t146:=Tryz.underlying144
 a146:=Tryz.isAgg144
 z146:=Tryz.sizeOf144
 v146:=Tryz.zeroValue144
 g1:=by kernel_rfl }
open RowKit Go.Lib in
theorem Tryz.stringslite_Index_one (s:ByteArray) (c:UInt8) (w:World) :
  Calls Tryz.prog 98 #[.string s,.string ⟨#[c]⟩] w fun e w'=>e = .returned (.int .i64 (Lib.indexByte s.data.toList c))∧w'=w:=Any.stringslite_Index_one Tryz.lays219 s c w
def Tryz.lays138_ren:Go.Shelf.Ren:=⟨fun | 138=>44 | 195=>68 | 218=>69 | 143=>70 | 219=>98 | 217=>100 | 225=>111 | 224=>112 | 267=>113 | 266=>114 | 314=>120 | n=>n,fun | 9=>9 | 3=>3 | 4=>4 | 5=>5 | 0=>0 | 46=>87 | 146=>144 | 51=>143 | n=>n,fun | 1=>0 | n=>n⟩
theorem Tryz.lays138:Go.Proofs.Lays.n138 Tryz.prog Tryz.lays138_ren:={
 mixed:=by kernel_rfl
 f138:=Tryz.func44.trans (congrArg some (by kernel_rfl))
 f143:=Tryz.func70.trans (congrArg some (by kernel_rfl))
 f195:=Tryz.func68.trans (congrArg some (by kernel_rfl))
 f217:=Tryz.func100.trans (congrArg some (by kernel_rfl))
 f218:=Tryz.func69.trans (congrArg some (by kernel_rfl))
 f219:=Tryz.func98.trans (congrArg some (by kernel_rfl))
 f224:=Tryz.func112.trans (congrArg some (by kernel_rfl))
 f225:=Tryz.func111.trans (congrArg some (by kernel_rfl))
 f266:=Tryz.func114.trans (congrArg some (by kernel_rfl))
 f267:=Tryz.func113.trans (congrArg some (by kernel_rfl))
 f314:=Tryz.func120.trans (congrArg some (by kernel_rfl))
 t0:=Tryz.underlying0
 a0:=Tryz.isAgg0
 z0:=Tryz.sizeOf0
 v0:=Tryz.zeroValue0
 t3:=Tryz.underlying3
 a3:=Tryz.isAgg3
 z3:=Tryz.sizeOf3
 v3:=Tryz.zeroValue3
 t4:=Tryz.underlying4
 a4:=Tryz.isAgg4
 z4:=Tryz.sizeOf4
 v4:=Tryz.zeroValue4
 t5:=Tryz.underlying5
 a5:=Tryz.isAgg5
 z5:=Tryz.sizeOf5
 v5:=Tryz.zeroValue5
 t9:=Tryz.underlying9
 a9:=Tryz.isAgg9
 z9:=Tryz.sizeOf9
 v9:=Tryz.zeroValue9
 t46:=Tryz.underlying87
 a46:=Tryz.isAgg87
 z46:=Tryz.sizeOf87
 v46:=Tryz.zeroValue87
 t51:=Tryz.underlying143
 a51:=Tryz.isAgg143
 z51:=Tryz.sizeOf143
 v51:=Tryz.zeroValue143
 t146:=Tryz.underlying144
 a146:=Tryz.isAgg144
 z146:=Tryz.sizeOf144
 v146:=Tryz.zeroValue144
 g1:=by kernel_rfl }
open RowKit Go.Lib in
theorem Tryz.strings_Count_one (s:ByteArray) (c:UInt8) (w:World) :
  Calls Tryz.prog 44 #[.string s,.string ⟨#[c]⟩] w fun e w'=>e = .returned (.int .i64 (Lib.countByte s.data.toList c))∧w'=w:=Any.strings_Count_one Tryz.lays138 s c w
def Tryz.laysNm216_ren:Go.Shelf.Ren:=⟨fun | 16=>109 | n=>n,fun | 24=>26 | 9=>9 | 4=>4 | n=>n,fun | n=>n⟩
theorem Tryz.laysNm216:Go.Proofs.Lays2.n16 Tryz.prog Tryz.laysNm216_ren:={
 mixed:=by kernel_rfl
 f16:=Tryz.func109.trans (congrArg some (by kernel_rfl))
 t4:=Tryz.underlying4
 a4:=Tryz.isAgg4
 z4:=Tryz.sizeOf4
 v4:=Tryz.zeroValue4
 t9:=Tryz.underlying9
 a9:=Tryz.isAgg9
 z9:=Tryz.sizeOf9
 v9:=Tryz.zeroValue9
 t24:=Tryz.underlying26
 a24:=Tryz.isAgg26
 z24:=Tryz.sizeOf26
 v24:=Tryz.zeroValue26
 i9:=by kernel_rfl }
open RowKit Go.Lib in
theorem Tryz.slices_Clone_string (b off n c:Nat) (zs:List ByteArray) (w:World) (hz:n≤zs.length) (hbig:n * 16≤140737488355328) (hc:∀ j,j < zs.length→w.cell? ⟨b,off+j,none⟩=some (.string (zs.getD j ByteArray.empty))) :
  Calls Tryz.prog 109 #[.slice (some ⟨b,off,none⟩) n c] w fun e w'=>∃ v',e = .returned v'∧w'.ownsRow w.heap.size 9 1 v' n ((zs.take n).map (Value.string))∧v' ≠ .slice none 0 0∧Below w.heap.size w w':=Any.slices_Clone_string Tryz.laysNm216 b off n c zs w hz hbig hc
open RowKit Go.Lib in
theorem Tryz.slices_Clone_string_nil (n c:Nat) (w:World) :
  Calls Tryz.prog 109 #[.slice none n c] w fun e w'=>e = .returned (.slice none 0 0)∧w'=w:=Any.slices_Clone_string_nil Tryz.laysNm216 n c w
open RowKit Go.Lib in
theorem Tryz.slices_Clone_string_zero (a:Addr) (c:Nat) (w:World) :
  Calls Tryz.prog 109 #[.slice (some a) 0 c] w fun e w'=>∃ v',e = .returned v'∧w'.ownsRow w.heap.size 9 1 v' 0 []∧v' ≠ .slice none 0 0∧Below w.heap.size w w':=Any.slices_Clone_string_zero Tryz.laysNm216 a c w
def Tryz.lays194_ren:Go.Shelf.Ren:=⟨fun | 194=>108 | n=>n,fun | 31=>26 | 9=>9 | 3=>3 | 4=>4 | 0=>0 | n=>n,fun | n=>n⟩
theorem Tryz.lays194:Go.Proofs.Lays.n194 Tryz.prog Tryz.lays194_ren:={
 mixed:=by kernel_rfl
 f194:=Tryz.func108.trans (congrArg some (by kernel_rfl))
 t0:=Tryz.underlying0
 a0:=Tryz.isAgg0
 z0:=Tryz.sizeOf0
 v0:=Tryz.zeroValue0
 t3:=Tryz.underlying3
 a3:=Tryz.isAgg3
 z3:=Tryz.sizeOf3
 v3:=Tryz.zeroValue3
 t4:=Tryz.underlying4
 a4:=Tryz.isAgg4
 z4:=Tryz.sizeOf4
 v4:=Tryz.zeroValue4
 t9:=Tryz.underlying9
 a9:=Tryz.isAgg9
 z9:=Tryz.sizeOf9
 v9:=Tryz.zeroValue9
 t31:=Tryz.underlying26
 a31:=Tryz.isAgg26
 z31:=Tryz.sizeOf26
 v31:=Tryz.zeroValue26 }
open RowKit Go.Lib Go.Sort in
theorem Tryz.slices_Compact_string_empty (a:Option Addr) (cap:Nat) (w:World) :
  Calls Tryz.prog 108 #[.slice a 0 cap] w fun e w'=>e = .returned (.slice a 0 cap)∧w'=w:=Any.slices_Compact_string_empty Tryz.lays194 a cap w
open RowKit Go.Lib Go.Sort in
theorem Tryz.slices_Compact_string_cells (b off n c:Nat) (Sx:Nat→ByteArray) (w:World) (hbig:n≤9223372036854775807) (hcap:n≤c) (hc:∀ i,i < n→w.cell? ⟨b,off+i,none⟩=some (.string (Sx i))) (hf:∀ j,j < n→w.frozen? ⟨b,off+j,none⟩=false) :
  Calls Tryz.prog 108 #[.slice (some ⟨b,off,none⟩) n c] w fun e w'=>e = .returned (.slice (some ⟨b,off,none⟩) (Lib.compact (Lib.strsOf Sx n)).length c)∧∃ q,w'=(w.drewN q).setCells b off ((Lib.compact (Lib.strsOf Sx n)++List.replicate (n - (Lib.compact (Lib.strsOf Sx n)).length) []).map encStr):=Any.slices_Compact_string_cells Tryz.lays194 b off n c Sx w hbig hcap hc hf
end Go.Proofs
namespace Go.Proofs.YtocpcnmnhckcpaaGreat.Prt
open RowKit YtocpcnmnhckcpaaGreatW.PrintWords YtocpcnmnhckcpaaGreatW.PrintLast YtocpcnmnhckcpaaGreatW.PrintMore
attribute [local go_sem] max2_int min2_int max_two min_two max_three min_three max_four min_four
mutual
def name_letter.j1:Nat→Int→Option (Bool)
 | 0,_=>none
 | k+1,x0=>if x0=45 then (some true) else (if x0=95 then (some true) else (if x0=233 then (some true) else (if x0=248 then (some true) else (if x0=223 then (some true) else (if x0=955 then (some true) else (some false))))))
def name_letter.j0:Nat→Int→Bool→Option (Bool)
 | 0,_,_=>none
 | k+1,x0,x3=>if x3=true then (some true) else (if 48≤x0 then (if x0≤57 then (some true) else (name_letter.j1 k x0)) else (name_letter.j1 k x0))
end
def name_letter.f (k:Nat) (a0:Int):Option (Bool):=if 97≤a0 then (name_letter.j0 k a0 (decide (a0≤122))) else (name_letter.j0 k a0 false)
set_option maxHeartbeats 8000000 in
set_option maxRecDepth 100000 in
theorem name_letter.calls (k:Nat) (a0:Int) (r:Bool) (w:World) (h:name_letter.f k a0=some r) :
  Calls Tryz.prog 101 #[.int .i32 a0] w fun e w'=>e = .returned (.bool r)∧Drawn0 w w':=by
 have H:(if 97≤a0 then (name_letter.j0 k a0 (decide (a0≤122))) else (name_letter.j0 k a0 false))=some r:=h
 clear h
 have HC2:=Ak H
 clear H
 go_enter Tryz.func101,Tryz.ntmps101
 go_upto_block 0 with (fail)
 go_cut [] (fun wc=>∃ (kq:Nat),Aside0 (name_letter.j1 kq a0=some r)∧Aside0 (kq≤k)∧Drawn0 w wc)
 case first=>
  have H:=HC2.out
  clear HC2
  have HC3:=Ak H
  clear H
  go_upto_region 1 with (fail)
  go_cut [3] (fun v3 wc=>∃ (kq:Nat) (x3_2:Bool),v3 = .bool x3_2∧Aside0 (name_letter.j0 kq a0 x3_2=some r)∧Aside0 (kq≤k)∧Drawn0 w wc)
  case first=>
   have H:=HC3.out
   clear HC3
   by_cases c4:97≤a0
   ·rw [if_pos c4] at H
    have c4b0:decide (97≤a0)=true:=decide_eq_true c4
    clear c4
    have H':=Ak H
    clear H
    go_wp2
    go_meet
    case rel=>exact ⟨_,(decide (a0≤122)),(by rfl),H',⟨by omega⟩,by repeat (exact Drawn0.refl _)⟩
   ·rw [if_neg c4] at H
    have c4b0:decide (97≤a0)=false:=decide_eq_false c4
    clear c4
    have H':=Ak H
    clear H
    go_wp2
    go_meet
    case rel=>exact ⟨_,(false),(by rfl),H',⟨by omega⟩,by repeat (exact Drawn0.refl _)⟩
  case rest=>
   clear HC3
   obtain ⟨kq,x3_2,rfl,HA,HJ2,⟨mc2,rfl⟩⟩:=hcut
   cases kq with
   | zero=>exact absurd HA.out (by simp [name_letter.j0])
   | succ kj2=>
    have H:=HA.out
    clear HA
    simp only [name_letter.j0] at H
    by_cases c5:x3_2=true
    ·subst c5
     have H1:(some true)=some r:=by rw [if_pos rfl] at H;exact H
     clear H
     have H:=H1
     clear H1
     obtain rfl:=Option.some.inj H
     go_wp2
     go_ret
     exact ⟨by rfl,by repeat (first | exact Drawn0.refl _ | apply Drawn0.step)⟩
    ·replace c5:=Bool.eq_false_iff.mpr c5
     subst c5
     have H1:(if 48≤a0 then (if a0≤57 then (some true) else (name_letter.j1 kj2 a0)) else (name_letter.j1 kj2 a0))=some r:=by rw [if_neg (show ¬(false=true) by decide)] at H;exact H
     clear H
     have H:=H1
     clear H1
     by_cases c6:48≤a0
     ·rw [if_pos c6] at H
      have c6b0:decide (48≤a0)=true:=decide_eq_true c6
      clear c6
      by_cases c7:a0≤57
      ·rw [if_pos c7] at H
       have c7b0:decide (a0≤57)=true:=decide_eq_true c7
       clear c7
       obtain rfl:=Option.some.inj H
       go_wp2
       go_ret
       exact ⟨by rfl,by repeat (first | exact Drawn0.refl _ | apply Drawn0.step)⟩
      ·rw [if_neg c7] at H
       have c7b0:decide (a0≤57)=false:=decide_eq_false c7
       clear c7
       have H':=Ak H
       clear H
       go_wp2
       go_meet
       case rel=>exact ⟨_,H',⟨by have:=HJ2.out;omega⟩,by repeat (first | exact Drawn0.refl _ | apply Drawn0.step)⟩
     ·rw [if_neg c6] at H
      have c6b0:decide (48≤a0)=false:=decide_eq_false c6
      clear c6
      have H':=Ak H
      clear H
      go_wp2
      go_meet
      case rel=>exact ⟨_,H',⟨by have:=HJ2.out;omega⟩,by repeat (first | exact Drawn0.refl _ | apply Drawn0.step)⟩
 case rest=>
  clear HC2
  obtain ⟨kq,HA,HJ1,⟨mc1,rfl⟩⟩:=hcut
  cases kq with
  | zero=>exact absurd HA.out (by simp [name_letter.j1])
  | succ kj1=>
   have H:=HA.out
   clear HA
   simp only [name_letter.j1] at H
   by_cases c8:a0=45
   ·rw [if_pos c8] at H
    have c8b0:(a0 == 45)=true:=beq_iff_eq.mpr c8
    have c8b1:(a0 != 45)=false:=bne_eq_false_iff_eq.mpr c8
    clear c8
    obtain rfl:=Option.some.inj H
    go_wp2
    go_ret
    exact ⟨by rfl,by repeat (first | exact Drawn0.refl _ | apply Drawn0.step)⟩
   ·rw [if_neg c8] at H
    have c8b0:(a0 == 45)=false:=beq_eq_false_iff_ne.mpr c8
    have c8b1:(a0 != 45)=true:=bne_iff_ne.mpr c8
    by_cases c9:a0=95
    ·rw [if_pos c9] at H
     have c9b0:(a0 == 95)=true:=beq_iff_eq.mpr c9
     have c9b1:(a0 != 95)=false:=bne_eq_false_iff_eq.mpr c9
     clear c9
     obtain rfl:=Option.some.inj H
     go_wp2
     go_ret
     exact ⟨by rfl,by repeat (first | exact Drawn0.refl _ | apply Drawn0.step)⟩
    ·rw [if_neg c9] at H
     have c9b0:(a0 == 95)=false:=beq_eq_false_iff_ne.mpr c9
     have c9b1:(a0 != 95)=true:=bne_iff_ne.mpr c9
     by_cases c10:a0=233
     ·rw [if_pos c10] at H
      have c10b0:(a0 == 233)=true:=beq_iff_eq.mpr c10
      have c10b1:(a0 != 233)=false:=bne_eq_false_iff_eq.mpr c10
      clear c10
      obtain rfl:=Option.some.inj H
      go_wp2
      go_ret
      exact ⟨by rfl,by repeat (first | exact Drawn0.refl _ | apply Drawn0.step)⟩
     ·rw [if_neg c10] at H
      have c10b0:(a0 == 233)=false:=beq_eq_false_iff_ne.mpr c10
      have c10b1:(a0 != 233)=true:=bne_iff_ne.mpr c10
      by_cases c11:a0=248
      ·rw [if_pos c11] at H
       have c11b0:(a0 == 248)=true:=beq_iff_eq.mpr c11
       have c11b1:(a0 != 248)=false:=bne_eq_false_iff_eq.mpr c11
       clear c11
       obtain rfl:=Option.some.inj H
       go_wp2
       go_ret
       exact ⟨by rfl,by repeat (first | exact Drawn0.refl _ | apply Drawn0.step)⟩
      ·rw [if_neg c11] at H
       have c11b0:(a0 == 248)=false:=beq_eq_false_iff_ne.mpr c11
       have c11b1:(a0 != 248)=true:=bne_iff_ne.mpr c11
       by_cases c12:a0=223
       ·rw [if_pos c12] at H
        have c12b0:(a0 == 223)=true:=beq_iff_eq.mpr c12
        have c12b1:(a0 != 223)=false:=bne_eq_false_iff_eq.mpr c12
        clear c12
        obtain rfl:=Option.some.inj H
        go_wp2
        go_ret
        exact ⟨by rfl,by repeat (first | exact Drawn0.refl _ | apply Drawn0.step)⟩
       ·rw [if_neg c12] at H
        have c12b0:(a0 == 223)=false:=beq_eq_false_iff_ne.mpr c12
        have c12b1:(a0 != 223)=true:=bne_iff_ne.mpr c12
        by_cases c13:a0=955
        ·rw [if_pos c13] at H
         have c13b0:(a0 == 955)=true:=beq_iff_eq.mpr c13
         have c13b1:(a0 != 955)=false:=bne_eq_false_iff_eq.mpr c13
         clear c13
         obtain rfl:=Option.some.inj H
         go_wp2
         go_ret
         exact ⟨by rfl,by repeat (first | exact Drawn0.refl _ | apply Drawn0.step)⟩
        ·rw [if_neg c13] at H
         have c13b0:(a0 == 955)=false:=beq_eq_false_iff_ne.mpr c13
         have c13b1:(a0 != 955)=true:=bne_iff_ne.mpr c13
         obtain rfl:=Option.some.inj H
         go_wp2
         go_ret
         exact ⟨by rfl,by repeat (first | exact Drawn0.refl _ | apply Drawn0.step)⟩
end Go.Proofs.YtocpcnmnhckcpaaGreat.Prt
namespace Go.Proofs.YtocpcnmnhckcpaaGreat.Nam
open RowKit YtocpcnmnhckcpaaGreatW.PrintWords YtocpcnmnhckcpaaGreatW.PrintLast YtocpcnmnhckcpaaGreatW.PrintMore YtocpcnmnhckcpaaGreat.Num YtocpcnmnhckcpaaGreat.Prt
theorem letter_fn (c:Int):name_letter.f 2 c=some (letR c):=by
 unfold name_letter.f letR plainC
 simp only [name_letter.j0,name_letter.j1]
 repeat' split
 all_goals first | contradiction | (congr 1;rw [Bool.eq_iff_iff];simp at *;omega)
theorem letter_calls (c:Int) (w:World):Calls Tryz.prog 101 #[.int .i32 c] w fun e w'=>e = .returned (.bool (letR c))∧Drawn0 w w':=name_letter.calls 2 c _ w (letter_fn c)
theorem may_calls (s:ByteArray) (w:World) (hs:s.size≤9223372036854775807) :
  Calls Tryz.prog 77 #[.string s] w fun e w'=>e = .returned (.bool (mayL (bytesOf s)))∧Below w.heap.size w w':=by
 have hlen:(bytesOf s).length=s.size:=bytes_length s
 by_cases h0:s.size=0
 ·have e:mayL (bytesOf s)=false:=by unfold mayL;rw [hlen,decide_eq_false (by omega)];rfl
  have hb:((s.size:Int) == 0)=true:=beq_iff_eq.mpr (by omega)
  rw [e]
  go_enter Tryz.func77,Tryz.ntmps77
  go_wp2
  go_ret
  exact ⟨rfl,Below.refl _ _⟩
 ·by_cases h24:24 < s.size
  ·have e:mayL (bytesOf s)=false:=by unfold mayL;rw [hlen,decide_eq_false (by omega)];rfl
   have hb:((s.size:Int) == 0)=false:=beq_eq_false_iff_ne.mpr (by omega)
   have hb2:decide ((24:Int) < (s.size:Int))=true:=decide_eq_true (by omega)
   rw [e]
   go_enter Tryz.func77,Tryz.ntmps77
   go_wp2
   go_ret
   exact ⟨rfl,Below.refl _ _⟩
  ·have hb:((s.size:Int) == 0)=false:=beq_eq_false_iff_ne.mpr (by omega)
   have hb2:decide ((24:Int) < (s.size:Int))=false:=decide_eq_false (by omega)
   have HE:Aside0 (mayL (bytesOf s)=(!notFirst ((bytesOf s).getD 0 0) && lettersOnly (bytesOf s))):=⟨by unfold mayL;rw [hlen,decide_eq_true (by omega)];rfl⟩
   obtain ⟨b,hbr⟩:∃ b,mayL (bytesOf s)=b:=⟨_,rfl⟩
   rw [hbr]
   rw [hbr] at HE
   clear hbr
   go_enter Tryz.func77,Tryz.ntmps77
   go_wp2_with fail
   go_loopw [] (fun wr=>∃ pos:Nat,wr.heap[w.heap.size]? = some (.stringIter s pos)∧Aside0 (Below w.heap.size w wr)∧Aside0 (lettersOnly (bytesOf s)=lettersOnly ((bytesOf s).drop pos))∧Aside0 (0 < pos→notFirst ((bytesOf s).getD 0 0)=false)) (fun wr=>s.size - wr.iterPos w.heap.size)
   case atStart=>
    refine ⟨0,?_,⟨(Below.refl _ w).alloc (Nat.le_refl _) _⟩,⟨by rw [List.drop_zero]⟩,⟨fun h=>by omega⟩⟩
    have:=World.iter_heap w s 0
    simpa using this
   case round=>
    obtain ⟨pos,hit,HB,HL,HF⟩:=hrel
    by_cases hp:pos < s.size
    ·have hnx:=fun ty=>Lib.run_next_any_at (P:=Tryz.prog) wr w.heap.size s pos ty hit hp
     obtain ⟨r,hr⟩:∃ r:Int,r=((Utf8.decode s pos).1:Int):=⟨_,rfl⟩
     obtain ⟨n,hn⟩:∃ n:Nat,n=(Utf8.decode s pos).2:=⟨_,rfl⟩
     obtain ⟨hw1,hw2,hcase⟩:=rune_cases s pos hp _ rfl r n hr hn
     simp only [←hr,←hn] at hnx
     have HIT:=Ak (Lib.iterAt_heap wr w.heap.size s pos (pos+n) hit)
     have HB2:=Ak (Lib.below_iterAt HB.out (k:=w.heap.size) (Nat.le_refl _) s (pos+n))
     have hlet:=letter_calls r
     have hne:(bytesOf s).drop pos≠[]:=fun e=>by have:=congrArg List.length e;rw [List.length_drop,hlen] at this;simp at this;omega
     clear hr hn
     rcases hcase with ⟨a1,a2,a3,_,_,_,a7⟩ | ⟨b1,b2,_⟩
     ·rw [a3] at hlet
      have HSTEP:Aside0 (lettersOnly (bytesOf s)=lettersOnly ((bytesOf s).drop (pos+n))):=⟨by rw [HL.out,lettersOnly_step (by omega),List.drop_drop,a2]⟩
      clear a1 a2 hne
      by_cases hz:pos=0
      ·have hz1:((pos:Int) == 0)=true:=beq_iff_eq.mpr (by omega)
       rw [hz,List.drop_zero] at a7
       clear hz
       by_cases h57:r≤57
       ·have hd:decide (r≤57)=true:=decide_eq_true h57
        have hb':b=false:=by rw [HE.out,a7.1 h57];rfl
        subst hb'
        clear a7 a3
        go_wp2_with (go_at_call 101;refine (hlet _).mono ?_;rintro e w3 ⟨rfl,⟨m1,rfl⟩⟩)
        go_ret
        exact ⟨rfl,(by repeat (with_reducible first | exact HB2.out | apply pw_below_drewN))⟩
       ·have hd:decide (r≤57)=false:=decide_eq_false h57
        have hnf:notFirst ((bytesOf s).getD 0 0)=false:=by
         cases h:notFirst ((bytesOf s).getD 0 0) with
         | false=>rfl
         | true=>exact absurd (a7.2 h) h57
        clear a7 a3
        go_wp2_with (go_at_call 101;refine (hlet _).mono ?_;rintro e w3 ⟨rfl,⟨m1,rfl⟩⟩)
        go_roundw
        case rel=>exact ⟨pos+n,HIT.out,⟨(by repeat (with_reducible first | exact HB2.out | apply pw_below_drewN))⟩,HSTEP,⟨fun _=>hnf⟩⟩
        case measure=>
         simp only [World.iterPos,World.drewN,World.drew,HIT.out,hit]
         omega
      ·have hz1:((pos:Int) == 0)=false:=beq_eq_false_iff_ne.mpr (by omega)
       have hnf:=HF.out (by omega)
       clear a7 a3 hz
       go_wp2_with (go_at_call 101;refine (hlet _).mono ?_;rintro e w3 ⟨rfl,⟨m1,rfl⟩⟩)
       go_roundw
       case rel=>exact ⟨pos+n,HIT.out,⟨(by repeat (with_reducible first | exact HB2.out | apply pw_below_drewN))⟩,HSTEP,⟨fun _=>hnf⟩⟩
       case measure=>
        simp only [World.iterPos,World.drewN,World.drew,HIT.out,hit]
        omega
     ·rw [b2] at hlet
      have hb':b=false:=by rw [HE.out,HL.out,lettersOnly_bad b1 hne,Bool.and_false]
      subst hb'
      go_wp2_with (go_at_call 101;refine (hlet _).mono ?_;rintro e w3 ⟨rfl,⟨m1,rfl⟩⟩)
      go_ret
      exact ⟨rfl,(by repeat (with_reducible first | exact HB2.out | apply pw_below_drewN))⟩
    ·have hnx:=fun ty=>Lib.run_next_end_at (P:=Tryz.prog) wr w.heap.size s pos ty hit hp
     have hd:(bytesOf s).drop pos=[]:=List.drop_eq_nil_of_le (by omega)
     have hb':b=true:=by rw [HE.out,HL.out,hd,lettersOnly_nil,HF.out (by omega)];rfl
     subst hb'
     go_wp2_with fail
     go_ret
     exact ⟨rfl,HB.out⟩
theorem lo1 {c:Int} {r:List Int} (h:plainC c=true):lettersOnly (c :: r)=lettersOnly r:=by
 rw [lettersOnly_step (by rw [letD_pos1 h];decide),letD_pos1 h];rfl
theorem letD_two {c d:Int} {r:List Int} (h:two c d=true):letD (c :: d :: r)=2:=by
 have hp:¬plainC c=true:=fun h2=>by rw [two_iff] at h;have:=plain_range h2;omega
 simp only [letD,if_neg hp,if_pos h]
theorem lo2 {c d:Int} {r:List Int} (h:two c d=true):lettersOnly (c :: d :: r)=lettersOnly r:=by
 rw [lettersOnly_step (by rw [letD_two h];decide),letD_two h];rfl
theorem bytes_append (a b:ByteArray):bytesOf (a++b)=bytesOf a++bytesOf b:=by
 rw [←strOfNums_bytesOf a,←strOfNums_bytesOf b,←str_append,bytesOf_strOfNums (isBytes_append.2 ⟨bytesOf_isBytes a,bytesOf_isBytes b⟩),strOfNums_bytesOf,strOfNums_bytesOf]
theorem mayC (b:Bool) (s:ByteArray) (w:World) (hs:s.size≤9223372036854775807) (h:mayL (bytesOf s)=b) :
  Calls Tryz.prog 77 #[.string s] w fun e w'=>e = .returned (.bool b)∧Below w.heap.size w w':=by
 subst h;exact may_calls s w (by omega)
theorem may_parts {l:List Int} (h:mayL l=true):1≤l.length∧l.length≤24∧notFirst (l.getD 0 0)=false∧lettersOnly l=true:=by
 unfold mayL at h
 simp only [Bool.and_eq_true,decide_eq_true_eq,Bool.not_eq_true'] at h
 exact ⟨h.1.1.1,h.1.1.2,h.1.2,h.2⟩
theorem letters_no58:∀ (n:Nat) (l:List Int),l.length≤n→lettersOnly l=true→(58:Int) ∉ l:=by
 intro n
 induction n with
 | zero=>
  intro l h _
  obtain rfl:l=[]:=List.length_eq_zero_iff.1 (by omega)
  simp
 | succ n ih=>
  intro l hn ha
  match l,ha,hn with
  | [],_,_=>simp
  | [c],ha,_=>
   by_cases hp:plainC c=true
   ·intro hx
    rw [List.mem_singleton] at hx
    subst hx
    exact absurd hp (by decide)
   ·rw [lettersOnly_bad (by simp [letD,hp]) (by simp)] at ha;cases ha
  | c :: d :: r,ha,hn=>
   simp only [List.length_cons] at hn
   by_cases hp:plainC c=true
   ·rw [lo1 hp] at ha
    have h2:=ih (d :: r) (by simp only [List.length_cons];omega) ha
    intro hx
    rcases List.mem_cons.1 hx with e | hx
    ·subst e;exact absurd hp (by decide)
    ·exact h2 hx
   ·by_cases ht:two c d=true
    ·rw [lo2 ht] at ha
     have h2:=ih r (by omega) ha
     rw [two_iff] at ht
     intro hx
     rcases List.mem_cons.1 hx with e | hx
     ·omega
     ·rcases List.mem_cons.1 hx with e | hx
      ·omega
      ·exact h2 hx
    ·rw [lettersOnly_bad (by simp only [letD,if_neg hp,if_neg ht]) (by simp)] at ha;cases ha
theorem may_no58 {s:ByteArray} (h:mayL (bytesOf s)=true):(58:Int) ∉ bytesOf s:=letters_no58 _ _ (Nat.le_refl _) (may_parts h).2.2.2
theorem mem58 (s:ByteArray):(58:Int) ∈ bytesOf s↔(58:UInt8) ∈ s.data.toList:=by
 unfold bytesOf
 rw [List.mem_map]
 constructor
 ·rintro ⟨b,hb,e⟩
  have:b=58:=by
   apply UInt8.toNat.inj
   show b.toNat=58
   omega
  rwa [this] at hb
 ·intro h
  exact ⟨58,h,rfl⟩
theorem ix_none:∀ l:List UInt8,(58:UInt8) ∉ l→Lib.indexByte l 58 = -1:=by
 intro l
 induction l with
 | nil=>intro _;rfl
 | cons b r ih=>
  intro h
  rw [List.mem_cons,not_or] at h
  have e:(b == 58)=false:=beq_eq_false_iff_ne.mpr (fun e=>h.1 e.symm)
  simp only [Lib.indexByte,e,ih h.2]
  rfl
theorem ix_some:∀ (a b:List UInt8),(58:UInt8) ∉ a→Lib.indexByte (a++58 :: b) 58=(a.length:Int):=by
 intro a
 induction a with
 | nil=>intro b _;rfl
 | cons c r ih=>
  intro b h
  rw [List.mem_cons,not_or] at h
  have e:(c == 58)=false:=beq_eq_false_iff_ne.mpr (fun e=>h.1 e.symm)
  have e2:((r.length:Int) == -1)=false:=beq_eq_false_iff_ne.mpr (by omega)
  show Lib.indexByte (c :: (r++58 :: b)) 58=_
  simp only [Lib.indexByte,e,ih b h.2,e2,List.length_cons]
  simp
theorem split58 (s:ByteArray):(58:Int) ∉ bytesOf s∨∃ k v:ByteArray,s=k++(⟨#[58]⟩:ByteArray)++v∧(58:Int) ∉ bytesOf k∧k.size+v.size+1=s.size:=by
 have key:∀ l:List Int,isBytes l→(58:Int) ∉ l∨∃ a b,l=a++58 :: b∧(58:Int) ∉ a:=by
  intro l
  induction l with
  | nil=>intro _;exact .inl (by simp)
  | cons c r ih=>
   intro h
   by_cases hc:c=58
   ·exact .inr ⟨[],r,by rw [hc];rfl,by simp⟩
   ·rcases ih (fun x hx=>h x (by simp [hx])) with h1 | ⟨a,b,h1,h2⟩
    ·exact .inl (by rw [List.mem_cons,not_or];exact ⟨fun e=>hc e.symm,h1⟩)
    ·exact .inr ⟨c :: a,b,by rw [h1];rfl,by rw [List.mem_cons,not_or];exact ⟨fun e=>hc e.symm,h2⟩⟩
 rcases key (bytesOf s) (bytesOf_isBytes s) with h | ⟨a,b,h1,h2⟩
 ·exact .inl h
 ·right
  have hby:=bytesOf_isBytes s
  rw [h1] at hby
  obtain ⟨ha,hb⟩:=isBytes_append.1 hby
  have hb2:isBytes b:=fun c hc=>hb c (by simp [hc])
  have e58:(⟨#[58]⟩:ByteArray)=strOfNums [58]:=rfl
  refine ⟨strOfNums a,strOfNums b,?_,by rw [bytesOf_strOfNums ha];exact h2,?_⟩
  ·rw [e58,←str_append,←str_append,List.append_assoc,List.singleton_append,←h1,strOfNums_bytesOf]
  ·rw [strOfNums_size',strOfNums_size',←bytes_length s,h1,List.length_append,List.length_cons];omega
theorem data_cat (k v:ByteArray):(k++(⟨#[58]⟩:ByteArray)++v).data.toList=k.data.toList++58 :: v.data.toList:=by
 rw [ByteArray.data_append,ByteArray.data_append,Array.toList_append,Array.toList_append,List.append_assoc];rfl
theorem ext_head (k v:ByteArray):(k++(⟨#[58]⟩:ByteArray)++v).extract 0 k.size=k:=by
 apply bytesOf_inj
 rw [bytes_extract,List.drop_zero,Nat.sub_zero,ByteArray.append_assoc,bytes_append,←bytes_length k,List.take_left]
theorem ext_tail (k v:ByteArray) (n:Nat) (hn:n=(k++(⟨#[58]⟩:ByteArray)++v).size):(k++(⟨#[58]⟩:ByteArray)++v).extract (k.size+1) n=v:=by
 apply bytesOf_inj
 have hk:(k++(⟨#[58]⟩:ByteArray)).size=k.size+1:=by rw [ByteArray.size_append];rfl
 rw [bytes_extract,hn,ByteArray.size_append,hk,bytes_append,←hk,←bytes_length,List.drop_left,List.take_of_length_le (by rw [bytes_length];omega)]
open YtocpcnmnhckcpaaGreatW.PrintLast
def D71.T3:Bool × List (List Nat × List Nat):=(true,[([],[]),([],[]),([0,1],[0,1]),([],[]),([],[]),([],[]),([5],[5]),([4,6],[4,6]),([3,7],[3,7]),([2,0,1,2],[2]),([8,9,0,1,2,3,4,5,6,7,8,9],[8]),([10,0,1,2,3,4,5,6,7,8,9,10],[])])
def D71.B3:List Nat:=[0,0,3,0,0,0,32,112,248,7,1023,2047]
theorem D71.tab3:rtab .any (opsOf Tryz.f71 3)=D71.T3:=by kernel_rfl
theorem D71.bits3:waitsOk D71.T3.2 D71.B3=true:=by kernel_rfl
set_option maxRecDepth 100000 in
theorem icut_yes (k v s:ByteArray) (w:World) (hs:s=k++(⟨#[58]⟩:ByteArray)++v) (hk:(58:Int) ∉ bytesOf k) (hz:s.size≤9223372036854775807) (hkz:k.size+1≤s.size) :
  Calls Tryz.prog 71 #[.string s,.string ⟨#[58]⟩] w fun e w'=>e = .returned (.tuple #[.string k,.string v,.bool true])∧Below w.heap.size w w':=by
 have HE:=Ak (show s.extract 0 k.size=k by rw [hs];exact ext_head k v)
 have HT:=Ak (show s.extract (k.size+1) s.size=v by have:=ext_tail k v s.size (by rw [hs]);rwa [←hs] at this)
 have hix:Lib.indexByte s.data.toList 58=(k.size:Int):=by rw [hs,data_cat,ix_some _ _ (fun h=>hk ((mem58 k).2 h)),Array.length_toList];rfl
 have HIX:=Ak hix
 clear hix hs hk
 have h0:decide ((0:Int)≤(k.size:Int))=true:=decide_eq_true (by omega)
 go_enter Tryz.func71,Tryz.ntmps71
 go_wp2_with fail
 have hC:=Tryz.stringslite_Index_one s 58 w
 rw [HIX.out] at hC
 refine hC.mono ?_
 rintro e w1 ⟨rfl,rfl⟩
 have HBB:=Ak (below_drew (Below.refl w1.heap.size w1))
 have hl1:¬s.size < k.size:=by omega
 have hl2:(0:Int)≤(k.size:Int)+1:=by omega
 have hl3:¬(s.size:Int) < (k.size:Int)+1:=by omega
 have HL4:=Ak (wrap_small (n:=(k.size:Int)+1) (by omega) (by omega))
 go_wp2_with fail
 refine start_ (n:=12) (S:=fun w'=>True) (ds:=[]) #[false,false,false,false,false,false,false,false,false,false,false,false] (by kernel_rfl) rfl rfl trivial (fun hHeld=>?_);refine with_tabW D71.tab3 D71.bits3 (fun HT_ HW_=>?_)
 refine inv_at [0,1,2,3,4,5,6,7,8,9,10,11] (fun a0_ b a w'=>a=putSel a0_ b [(0,13,.string s),(1,14,.int .i64 (k.size:Int)),(2,15,.string (s.extract 0 k.size)),(3,16,.string s),(4,17,.int .i64 (k.size:Int)),(5,18,.string ⟨#[58]⟩),(6,19,.int .i64 1),(7,20,.int .i64 ((k.size:Int)+1)),(8,21,.string (s.extract (k.size+1) s.size)),(9,4,.string (s.extract 0 k.size)),(10,5,.string (s.extract (k.size+1) s.size)),(11,6,(Value.bool true))]∧(Below w1.heap.size w1 w')) HT_.out HW_.out (by kernel_rfl) (by kernel_rfl) ?_ ?_ ?_
 ·exact ⟨by simp only [putSel,Bool.false_eq_true,if_false],HBB.out⟩
 ·clear HT_ HW_ hHeld
  clear HBB
  refine steps_cons ?_ ?_
  ·intro b a w' hI_ hb_ hon hoff
   refine ⟨_,rfl,fun K hK=>?_⟩
   obtain ⟨ha,Q_HBB⟩:=hI_
   have e0:a.tmps[0]? = some (.string s):=by rw [ha];exact (putSel_off rfl).trans rfl
   replace ha:=Ak ha
   have HBB:=Ak Q_HBB
   refine value_ (w1:=w') (v:=.string s) (by rfl) rfl ?_ ?_
   ·go_simp
    skip
   refine hK.out _ _ ⟨(by rw [ha.out];exact putSel_upk 0 hb_ rfl rfl rfl),Q_HBB⟩
  refine steps_cons ?_ ?_
  ·intro b a w' hI_ hb_ hon hoff
   refine ⟨_,rfl,fun K hK=>?_⟩
   obtain ⟨ha,Q_HBB⟩:=hI_
   have e7:a.tmps[7]? = some (.int .i64 (k.size:Int)):=by rw [ha];exact (putSel_off rfl).trans rfl
   replace ha:=Ak ha
   have HBB:=Ak Q_HBB
   refine value_ (w1:=w') (v:=.int .i64 (k.size:Int)) (by rfl) rfl ?_ ?_
   ·go_simp
    skip
   refine hK.out _ _ ⟨(by rw [ha.out];exact putSel_upk 1 hb_ rfl rfl rfl),Q_HBB⟩
  refine steps_cons ?_ ?_
  ·intro b a w' hI_ hb_ hon hoff
   refine ⟨_,rfl,fun K hK=>?_⟩
   obtain ⟨ha,Q_HBB⟩:=hI_
   have e13:a.tmps[13]? = some (.string s):=by rw [ha];exact putSel_on (e:=(0,13,.string s)) 0 rfl rfl (hon 0 (by kernel_rfl)) rfl
   have e14:a.tmps[14]? = some (.int .i64 (k.size:Int)):=by rw [ha];exact putSel_on (e:=(1,14,.int .i64 (k.size:Int))) 1 rfl rfl (hon 1 (by kernel_rfl)) rfl
   replace ha:=Ak ha
   have HBB:=Ak Q_HBB
   refine value_ (w1:=w') (v:=.string (s.extract 0 k.size)) (by rfl) rfl ?_ ?_
   ·go_simp
    skip
   refine hK.out _ _ ⟨(by rw [ha.out];exact putSel_upk 2 hb_ rfl rfl rfl),Q_HBB⟩
  refine steps_cons ?_ ?_
  ·intro b a w' hI_ hb_ hon hoff
   refine ⟨_,rfl,fun K hK=>?_⟩
   obtain ⟨ha,Q_HBB⟩:=hI_
   have e0:a.tmps[0]? = some (.string s):=by rw [ha];exact (putSel_off rfl).trans rfl
   replace ha:=Ak ha
   have HBB:=Ak Q_HBB
   refine value_ (w1:=w') (v:=.string s) (by rfl) rfl ?_ ?_
   ·go_simp
    skip
   refine hK.out _ _ ⟨(by rw [ha.out];exact putSel_upk 3 hb_ rfl rfl rfl),Q_HBB⟩
  refine steps_cons ?_ ?_
  ·intro b a w' hI_ hb_ hon hoff
   refine ⟨_,rfl,fun K hK=>?_⟩
   obtain ⟨ha,Q_HBB⟩:=hI_
   have e7:a.tmps[7]? = some (.int .i64 (k.size:Int)):=by rw [ha];exact (putSel_off rfl).trans rfl
   replace ha:=Ak ha
   have HBB:=Ak Q_HBB
   refine value_ (w1:=w') (v:=.int .i64 (k.size:Int)) (by rfl) rfl ?_ ?_
   ·go_simp
    skip
   refine hK.out _ _ ⟨(by rw [ha.out];exact putSel_upk 4 hb_ rfl rfl rfl),Q_HBB⟩
  refine steps_cons ?_ ?_
  ·intro b a w' hI_ hb_ hon hoff
   refine ⟨_,rfl,fun K hK=>?_⟩
   obtain ⟨ha,Q_HBB⟩:=hI_
   have e1:a.tmps[1]? = some (.string ⟨#[58]⟩):=by rw [ha];exact (putSel_off rfl).trans rfl
   replace ha:=Ak ha
   have HBB:=Ak Q_HBB
   refine value_ (w1:=w') (v:=.string ⟨#[58]⟩) (by rfl) rfl ?_ ?_
   ·go_simp
    skip
   refine hK.out _ _ ⟨(by rw [ha.out];exact putSel_upk 5 hb_ rfl rfl rfl),Q_HBB⟩
  refine steps_cons ?_ ?_
  ·intro b a w' hI_ hb_ hon hoff
   refine ⟨_,rfl,fun K hK=>?_⟩
   obtain ⟨ha,Q_HBB⟩:=hI_
   have e18:a.tmps[18]? = some (.string ⟨#[58]⟩):=by rw [ha];exact putSel_on (e:=(5,18,.string ⟨#[58]⟩)) 5 rfl rfl (hon 5 (by kernel_rfl)) rfl
   replace ha:=Ak ha
   have HBB:=Ak Q_HBB
   refine value_ (w1:=w') (v:=.int .i64 1) (by rfl) rfl ?_ ?_
   ·go_simp
    skip
   refine hK.out _ _ ⟨(by rw [ha.out];exact putSel_upk 6 hb_ rfl rfl rfl),Q_HBB⟩
  refine steps_cons ?_ ?_
  ·intro b a w' hI_ hb_ hon hoff
   refine ⟨_,rfl,fun K hK=>?_⟩
   obtain ⟨ha,Q_HBB⟩:=hI_
   have e17:a.tmps[17]? = some (.int .i64 (k.size:Int)):=by rw [ha];exact putSel_on (e:=(4,17,.int .i64 (k.size:Int))) 4 rfl rfl (hon 4 (by kernel_rfl)) rfl
   have e19:a.tmps[19]? = some (.int .i64 1):=by rw [ha];exact putSel_on (e:=(6,19,.int .i64 1)) 6 rfl rfl (hon 6 (by kernel_rfl)) rfl
   replace ha:=Ak ha
   have HBB:=Ak Q_HBB
   have hl4:=HL4.out
   refine value_ (w1:=w') (v:=.int .i64 ((k.size:Int)+1)) (by rfl) rfl ?_ ?_
   ·go_simp
    (try simp only [i64_w])
    try (assumption)
   refine hK.out _ _ ⟨(by rw [ha.out];exact putSel_upk 7 hb_ rfl rfl rfl),Q_HBB⟩
  refine steps_cons ?_ ?_
  ·intro b a w' hI_ hb_ hon hoff
   refine ⟨_,rfl,fun K hK=>?_⟩
   obtain ⟨ha,Q_HBB⟩:=hI_
   have e16:a.tmps[16]? = some (.string s):=by rw [ha];exact putSel_on (e:=(3,16,.string s)) 3 rfl rfl (hon 3 (by kernel_rfl)) rfl
   have e20:a.tmps[20]? = some (.int .i64 ((k.size:Int)+1)):=by rw [ha];exact putSel_on (e:=(7,20,.int .i64 ((k.size:Int)+1))) 7 rfl rfl (hon 7 (by kernel_rfl)) rfl
   replace ha:=Ak ha
   have HBB:=Ak Q_HBB
   refine value_ (w1:=w') (v:=.string (s.extract (k.size+1) s.size)) (by rfl) rfl ?_ ?_
   ·go_simp
    skip
   refine hK.out _ _ ⟨(by rw [ha.out];exact putSel_upk 8 hb_ rfl rfl rfl),Q_HBB⟩
  refine steps_cons ?_ ?_
  ·intro b a w' hI_ hb_ hon hoff
   refine ⟨_,rfl,fun K hK=>?_⟩
   obtain ⟨ha,Q_HBB⟩:=hI_
   have e15:a.tmps[15]? = some (.string (s.extract 0 k.size)):=by rw [ha];exact putSel_on (e:=(2,15,.string (s.extract 0 k.size))) 2 rfl rfl (hon 2 (by kernel_rfl)) rfl
   replace ha:=Ak ha
   have HBB:=Ak Q_HBB
   refine value_ (w1:=w') (v:=.string (s.extract 0 k.size)) (by rfl) rfl ?_ ?_
   ·go_simp
    skip
   refine hK.out _ _ ⟨(by rw [ha.out];exact putSel_upk 9 hb_ rfl rfl rfl),Q_HBB⟩
  refine steps_cons ?_ ?_
  ·intro b a w' hI_ hb_ hon hoff
   refine ⟨_,rfl,fun K hK=>?_⟩
   obtain ⟨ha,Q_HBB⟩:=hI_
   have e21:a.tmps[21]? = some (.string (s.extract (k.size+1) s.size)):=by rw [ha];exact putSel_on (e:=(8,21,.string (s.extract (k.size+1) s.size))) 8 rfl rfl (hon 8 (by kernel_rfl)) rfl
   replace ha:=Ak ha
   have HBB:=Ak Q_HBB
   refine value_ (w1:=w') (v:=.string (s.extract (k.size+1) s.size)) (by rfl) rfl ?_ ?_
   ·go_simp
    skip
   refine hK.out _ _ ⟨(by rw [ha.out];exact putSel_upk 10 hb_ rfl rfl rfl),Q_HBB⟩
  refine steps_cons ?_ ?_
  ·intro b a w' hI_ hb_ hon hoff
   refine ⟨_,rfl,fun K hK=>?_⟩
   obtain ⟨ha,Q_HBB⟩:=hI_
   replace ha:=Ak ha
   have HBB:=Ak Q_HBB
   refine value_ (w1:=w') (v:=(Value.bool true)) (by rfl) rfl ?_ ?_
   ·go_simp
    skip
   refine hK.out _ _ ⟨(by rw [ha.out];exact putSel_upk 11 hb_ rfl rfl rfl),Q_HBB⟩
  exact steps_nil
 rintro b a wz hall ⟨ha,Q_HBB⟩
 clear HBB
 have hb0_:=hall 0 (by kernel_rfl)
 have hb1_:=hall 1 (by kernel_rfl)
 have hb2_:=hall 2 (by kernel_rfl)
 have hb3_:=hall 3 (by kernel_rfl)
 have hb4_:=hall 4 (by kernel_rfl)
 have hb5_:=hall 5 (by kernel_rfl)
 have hb6_:=hall 6 (by kernel_rfl)
 have hb7_:=hall 7 (by kernel_rfl)
 have hb8_:=hall 8 (by kernel_rfl)
 have hb9_:=hall 9 (by kernel_rfl)
 have hb10_:=hall 10 (by kernel_rfl)
 have hb11_:=hall 11 (by kernel_rfl)
 subst ha
 simp only [putSel,hb0_,hb1_,hb2_,hb3_,hb4_,hb5_,hb6_,hb7_,hb8_,hb9_,hb10_,hb11_,if_true,Act.put,List.setIfInBounds_toArray,List.set_cons_zero,List.set_cons_succ]
 have HBB:=Ak Q_HBB
 clear Q_HBB
 clear hall hb0_ hb1_ hb2_ hb3_ hb4_ hb5_ hb6_ hb7_ hb8_ hb9_ hb10_ hb11_
 go_wp2
 go_ret3
 exact ⟨by (rw [HE.out,HT.out];rfl),HBB.out⟩
set_option maxRecDepth 100000 in
theorem icut_no (s:ByteArray) (w:World) (hk:(58:Int) ∉ bytesOf s) :
  Calls Tryz.prog 71 #[.string s,.string ⟨#[58]⟩] w fun e w'=>e = .returned (.tuple #[.string s,.string ⟨#[]⟩,.bool false])∧Below w.heap.size w w':=by
 have hix:Lib.indexByte s.data.toList 58 = -1:=ix_none _ (fun h=>hk ((mem58 s).2 h))
 go_enter Tryz.func71,Tryz.ntmps71
 go_wp2_with fail
 have hC:=Tryz.stringslite_Index_one s 58 w
 rw [hix] at hC
 refine hC.mono ?_
 rintro e w1 ⟨rfl,rfl⟩
 go_wp2
 go_ret3
 exact ⟨rfl,by repeat (exact Below.refl _ _)⟩
set_option maxRecDepth 100000 in
theorem cut_yes (k v s:ByteArray) (w:World) (hs:s=k++(⟨#[58]⟩:ByteArray)++v) (hk:(58:Int) ∉ bytesOf k) (hz:s.size≤9223372036854775807) (hkz:k.size+1≤s.size) :
  Calls Tryz.prog 45 #[.string s,.string ⟨#[58]⟩] w fun e w'=>e = .returned (.tuple #[.string k,.string v,.bool true])∧Below w.heap.size w w':=by
 have HB:=Ak (Below.refl w.heap.size w)
 have HS:=Ak hs
 have HK:=Ak hk
 clear hs hk
 go_enter Tryz.func45,Tryz.ntmps45
 go_wp2_with fail
 refine (icut_yes k v s _ HS.out HK.out hz hkz).mono ?_
 rintro e w_ ⟨rfl,hb⟩
 have n_:=Ak (below_step HB.out hb);clear HB hb;have HB:=n_;clear n_
 go_wp2
 go_ret3
 exact ⟨rfl,HB.out⟩
set_option maxRecDepth 100000 in
theorem cut_no (s:ByteArray) (w:World) (hk:(58:Int) ∉ bytesOf s) :
  Calls Tryz.prog 45 #[.string s,.string ⟨#[58]⟩] w fun e w'=>e = .returned (.tuple #[.string s,.string ⟨#[]⟩,.bool false])∧Below w.heap.size w w':=by
 have HB:=Ak (Below.refl w.heap.size w)
 have HK:=Ak hk
 clear hk
 go_enter Tryz.func45,Tryz.ntmps45
 go_wp2_with fail
 refine (icut_no s _ HK.out).mono ?_
 rintro e w_ ⟨rfl,hb⟩
 have n_:=Ak (below_step HB.out hb);clear HB hb;have HB:=n_;clear n_
 go_wp2
 go_ret3
 exact ⟨rfl,HB.out⟩
theorem may_empty:mayL (bytesOf ⟨#[]⟩)=false:=rfl
set_option maxRecDepth 100000 in
theorem partsYes (k v s:ByteArray) (w:World) (hs:s=k++(⟨#[58]⟩:ByteArray)++v) (hk:mayL (bytesOf k)=true) (hv:mayL (bytesOf v)=true) (hz:s.size≤9223372036854775807) :
  Calls Tryz.prog 104 #[.string s] w fun e w'=>e = .returned (.tuple #[.string k,.string v,.bool true])∧Below w.heap.size w w':=by
 have HB:=Ak (Below.refl w.heap.size w)
 have HS:=Ak hs
 have HK:=Ak hk
 have HV:=Ak hv
 have hsz:s.size=k.size+1+v.size:=by rw [hs,ByteArray.size_append,ByteArray.size_append];rfl
 clear hs hk hv
 have hk1:k.size≤9223372036854775807:=by omega
 have hv1:v.size≤9223372036854775807:=by omega
 have HZ:Aside0 (k.size+1≤s.size):=⟨by omega⟩
 clear hsz
 go_enter Tryz.func104,Tryz.ntmps104
 go_wp2_with fail
 refine (cut_yes k v s _ HS.out (may_no58 HK.out) hz HZ.out).mono ?_
 rintro e w_ ⟨rfl,hb⟩
 have n_:=Ak (below_step HB.out hb);clear HB hb;have HB:=n_;clear n_
 go_wp2_with fail
 refine (mayC true k _ hk1 HK.out).mono ?_
 rintro e w_ ⟨rfl,hb⟩
 have n_:=Ak (below_step HB.out hb);clear HB hb;have HB:=n_;clear n_
 go_wp2_with fail
 refine (mayC true v _ hv1 HV.out).mono ?_
 rintro e w_ ⟨rfl,hb⟩
 have n_:=Ak (below_step HB.out hb);clear HB hb;have HB:=n_;clear n_
 go_wp2
 go_ret3
 exact ⟨rfl,HB.out⟩
set_option maxRecDepth 100000 in
theorem partsNo (s:ByteArray) (w:World) (h:∀ k v:ByteArray,s=k++(⟨#[58]⟩:ByteArray)++v→mayL (bytesOf k)=true→mayL (bytesOf v)=false) (hz:s.size≤9223372036854775807) :
  Calls Tryz.prog 104 #[.string s] w fun e w'=>e = .returned (.tuple #[.string ⟨#[]⟩,.string ⟨#[]⟩,.bool false])∧Below w.heap.size w w':=by
 have HB:=Ak (Below.refl w.heap.size w)
 rcases split58 s with hn | ⟨k,v,hs,hk,hsz⟩
 ·have HN:=Ak hn
  clear h hn
  go_enter Tryz.func104,Tryz.ntmps104
  go_wp2_with fail
  refine (cut_no s _ HN.out).mono ?_
  rintro e w_ ⟨rfl,hb⟩
  have n_:=Ak (below_step HB.out hb);clear HB hb;have HB:=n_;clear n_
  go_wp2_with fail
  cases hm:mayL (bytesOf s) with
  | false=>
   refine (mayC false s _ hz hm).mono ?_
   rintro e w_ ⟨rfl,hb⟩
   have n_:=Ak (below_step HB.out hb);clear HB hb;have HB:=n_;clear n_
   go_wp2
   go_ret3
   exact ⟨rfl,HB.out⟩
  | true=>
   refine (mayC true s _ hz hm).mono ?_
   rintro e w_ ⟨rfl,hb⟩
   have n_:=Ak (below_step HB.out hb);clear HB hb;have HB:=n_;clear n_
   go_wp2_with fail
   refine (mayC false _ _ (by decide) may_empty).mono ?_
   rintro e w_ ⟨rfl,hb⟩
   have n_:=Ak (below_step HB.out hb);clear HB hb;have HB:=n_;clear n_
   go_wp2
   go_ret3
   exact ⟨rfl,HB.out⟩
 ·have HH:=Ak (h k v hs)
  have HS:=Ak hs
  have HK:=Ak hk
  clear h hs hk
  have hk1:k.size≤9223372036854775807:=by omega
  have hv1:v.size≤9223372036854775807:=by omega
  have HZ:Aside0 (k.size+1≤s.size):=⟨by omega⟩
  clear hsz
  go_enter Tryz.func104,Tryz.ntmps104
  go_wp2_with fail
  refine (cut_yes k v s _ HS.out HK.out hz HZ.out).mono ?_
  rintro e w_ ⟨rfl,hb⟩
  have n_:=Ak (below_step HB.out hb);clear HB hb;have HB:=n_;clear n_
  go_wp2_with fail
  cases hm:mayL (bytesOf k) with
  | false=>
   refine (mayC false k _ hk1 hm).mono ?_
   rintro e w_ ⟨rfl,hb⟩
   have n_:=Ak (below_step HB.out hb);clear HB hb;have HB:=n_;clear n_
   go_wp2
   go_ret3
   exact ⟨rfl,HB.out⟩
  | true=>
   refine (mayC true k _ hk1 hm).mono ?_
   rintro e w_ ⟨rfl,hb⟩
   have n_:=Ak (below_step HB.out hb);clear HB hb;have HB:=n_;clear n_
   go_wp2_with fail
   refine (mayC false v _ hv1 (HH.out hm)).mono ?_
   rintro e w_ ⟨rfl,hb⟩
   have n_:=Ak (below_step HB.out hb);clear HB hb;have HB:=n_;clear n_
   go_wp2
   go_ret3
   exact ⟨rfl,HB.out⟩
def IsTag (s:ByteArray):Prop:=∃ k v:ByteArray,s=k++(⟨#[58]⟩:ByteArray)++v∧mayL (bytesOf k)=true∧mayL (bytesOf v)=true
set_option maxRecDepth 100000 in
theorem mayTagYes (s:ByteArray) (w:World) (h:IsTag s) (hz:s.size≤9223372036854775807) :
  Calls Tryz.prog 80 #[.string s] w fun e w'=>e = .returned (.bool true)∧Below w.heap.size w w':=by
 obtain ⟨k,v,hs,hk,hv⟩:=h
 have HB:=Ak (Below.refl w.heap.size w)
 have HS:=Ak hs
 clear hs
 go_enter Tryz.func80,Tryz.ntmps80
 go_wp2_with fail
 refine (partsYes k v s _ HS.out hk hv hz).mono ?_
 rintro e w_ ⟨rfl,hb⟩
 have n_:=Ak (below_step HB.out hb);clear HB hb;have HB:=n_;clear n_
 go_wp2
 go_ret
 exact ⟨rfl,HB.out⟩
theorem noTag {s:ByteArray} (h:¬IsTag s):∀ k v:ByteArray,s=k++(⟨#[58]⟩:ByteArray)++v→mayL (bytesOf k)=true→mayL (bytesOf v)=false:=by
 intro k v hs hk
 cases hv:mayL (bytesOf v) with
 | false=>rfl
 | true=>exact absurd ⟨k,v,hs,hk,hv⟩ h
set_option maxRecDepth 100000 in
theorem mayTagNo (s:ByteArray) (w:World) (h:¬IsTag s) (hz:s.size≤9223372036854775807) :
  Calls Tryz.prog 80 #[.string s] w fun e w'=>e = .returned (.bool false)∧Below w.heap.size w w':=by
 have HB:=Ak (Below.refl w.heap.size w)
 have HN:=Ak (noTag h)
 clear h
 go_enter Tryz.func80,Tryz.ntmps80
 go_wp2_with fail
 refine (partsNo s _ HN.out hz).mono ?_
 rintro e w_ ⟨rfl,hb⟩
 have n_:=Ak (below_step HB.out hb);clear HB hb;have HB:=n_;clear n_
 go_wp2
 go_ret
 exact ⟨rfl,HB.out⟩
end Go.Proofs.YtocpcnmnhckcpaaGreat.Nam
namespace Go.Proofs.YtocpcnmnhckcpaaGreat.Nam
open RowKit YtocpcnmnhckcpaaGreatW.PrintWords YtocpcnmnhckcpaaGreatW.PrintLast YtocpcnmnhckcpaaGreatW.PrintMore YtocpcnmnhckcpaaGreat.Num YtocpcnmnhckcpaaGreat.Prt
theorem take_any {α:Type} (p:α→Bool) (l:List α) (i:Nat) (h:i < l.length) (d:α):(l.take (i+1)).any p=((l.take i).any p || p (l.getD i d)):=by
 rw [List.take_succ_eq_append_getElem h,List.any_append,List.getD_eq_getElem?_getD,List.getElem?_eq_getElem h];simp
theorem take_any_all {α:Type} (p:α→Bool) (l:List α) (i:Nat) (h:l.length≤i):(l.take i).any p=l.any p:=by rw [List.take_of_length_le h]
theorem any_of_take {α:Type} {p:α→Bool} {l:List α} {i:Nat} (h:(l.take i).any p=true):l.any p=true:=by
 obtain ⟨x,hx,hp⟩:=List.any_eq_true.1 h
 exact List.any_eq_true.2 ⟨x,List.mem_of_mem_take hx,hp⟩
theorem getD_mem' {α:Type} {l:List α} {i:Nat} (h:i < l.length) (d:α):l.getD i d ∈ l:=by
 rw [List.getD_eq_getElem?_getD,List.getElem?_eq_getElem h];exact List.getElem_mem h
def lessS (a b:ByteArray):Bool:=Op.bytesLess a.toList b.toList
def riseB:List ByteArray→Bool
 | a :: b :: r=>lessS a b && riseB (b :: r)
 | _=>true
theorem wrapI {n:Int} (h0 : -9223372036854775808≤n) (h1:n≤9223372036854775807):wrap64 n=n:=by unfold wrap64;omega
theorem drop_two {α:Type} (l:List α) (i:Nat) (d:α) (h:i+1 < l.length):l.drop i=l.getD i d :: l.getD (i+1) d :: l.drop (i+2):=by
 rw [List.drop_eq_getElem_cons (by omega),List.drop_eq_getElem_cons h,List.getD_eq_getElem?_getD,List.getElem?_eq_getElem (by omega),List.getD_eq_getElem?_getD,List.getElem?_eq_getElem h];rfl
theorem rise_step (l:List ByteArray) (i:Nat) (h:i+1 < l.length):riseB (l.drop i)=(lessS (l.getD i ByteArray.empty) (l.getD (i+1) ByteArray.empty) && riseB (l.drop (i+1))):=by
 rw [drop_two l i ByteArray.empty h,riseB]
 congr 2
 rw [List.drop_eq_getElem_cons h,List.getD_eq_getElem?_getD,List.getElem?_eq_getElem h];rfl
theorem rise_end (l:List ByteArray) (i:Nat) (h:l.length≤i+1):riseB (l.drop i)=true:=by
 match hl:l.drop i with
 | []=>rfl
 | [a]=>rfl
 | a :: b :: r=>
  have:=congrArg List.length hl
  rw [List.length_drop] at this
  simp only [List.length_cons] at this
  omega
def tagL (l:List Int):Bool:=mayL (l.takeWhile fun c=>c != 58) && match l.dropWhile fun c=>c != 58 with
 | []=>false
 | _ :: v=>mayL v
def tagB (s:ByteArray):Bool:=tagL (bytesOf s)
theorem take58:∀ (a b:List Int),(58:Int) ∉ a→((a++58 :: b).takeWhile fun c=>c != 58)=a∧((a++58 :: b).dropWhile fun c=>c != 58)=58 :: b:=by
 intro a b
 induction a with
 | nil=>intro _;simp
 | cons c r ih=>
  intro h
  rw [List.mem_cons,not_or] at h
  have hc:(c != 58)=true:=bne_iff_ne.2 (fun e=>h.1 e.symm)
  obtain ⟨h1,h2⟩:=ih h.2
  simp only [List.cons_append,List.takeWhile_cons,List.dropWhile_cons,hc,if_true,h1,h2]
  exact ⟨trivial,trivial⟩
theorem drop58:∀ (a:List Int),(58:Int) ∉ a→(a.dropWhile fun c=>c != 58)=[]:=by
 intro a
 induction a with
 | nil=>intro _;rfl
 | cons c r ih=>
  intro h
  rw [List.mem_cons,not_or] at h
  have hc:(c != 58)=true:=bne_iff_ne.2 (fun e=>h.1 e.symm)
  simp only [List.dropWhile_cons,hc,if_true]
  exact ih h.2
theorem bytes_cat (k v:ByteArray):bytesOf (k++(⟨#[58]⟩:ByteArray)++v)=bytesOf k++58 :: bytesOf v:=by
 rw [bytes_append,bytes_append,List.append_assoc];rfl
theorem tagL_cut (a b:List Int) (h:(58:Int) ∉ a):tagL (a++58 :: b)=(mayL a && mayL b):=by
 unfold tagL
 obtain ⟨h1,h2⟩:=take58 a b h
 rw [h1,h2]
theorem tagL_no (a:List Int) (h:(58:Int) ∉ a):tagL a=false:=by
 unfold tagL
 rw [drop58 a h];simp
theorem tagB_iff (s:ByteArray):tagB s=true↔IsTag s:=by
 unfold tagB
 constructor
 ·intro h
  rcases split58 s with hn | ⟨k,v,hs,hk,hz⟩
  ·rw [tagL_no _ hn] at h;cases h
  ·rw [hs,bytes_cat,tagL_cut _ _ hk,Bool.and_eq_true] at h
   exact ⟨k,v,hs,h.1,h.2⟩
 ·rintro ⟨k,v,hs,h1,h2⟩
  rw [hs,bytes_cat,tagL_cut _ _ (may_no58 h1),h1,h2];rfl
theorem mayTag_calls (s:ByteArray) (w:World) (hz:s.size≤9223372036854775807) :
  Calls Tryz.prog 80 #[.string s] w fun e w'=>e = .returned (.bool (tagB s))∧Below w.heap.size w w':=by
 by_cases h:IsTag s
 ·rw [(tagB_iff s).2 h];exact mayTagYes s w h hz
 ·have e:tagB s=false:=by cases hb:tagB s with | false=>rfl | true=>exact absurd ((tagB_iff s).1 hb) h
  rw [e];exact mayTagNo s w h hz
end Go.Proofs.YtocpcnmnhckcpaaGreat.Nam
namespace Go.Proofs.YtocpcnmnhckcpaaGreat.Prt
open RowKit YtocpcnmnhckcpaaGreatW.PrintWords YtocpcnmnhckcpaaGreatW.PrintLast YtocpcnmnhckcpaaGreatW.PrintMore YtocpcnmnhckcpaaGreat.Num
def num_Put.f (l0:List Int) (a1:Int):Option (List Int):=if l0.length≤140737488350000 ∧ -9223372036854775808≤a1∧a1≤9223372036854775807 then some (l0++enc a1) else none
theorem num_Put.calls (A0:Option Addr) (c0:Nat) (l0:List Int) (a1:Int) (r:List Int) (w:World) (hr0:Kd.C (Kd.int .u8) w A0 l0.length l0) (hc0:l0.length≤c0) (h:num_Put.f l0 a1=some r) :
  Calls Tryz.prog 29 #[.slice A0 l0.length c0,.int .i64 a1] w fun e w'=>∃ v0_:Value,e = .returned (v0_)∧Kd.R (Kd.int .u8) 5 w' w.heap.size (fun _=>True) v0_ r∧Below w.heap.size w w':=by
 unfold num_Put.f at h
 by_cases hc:l0.length≤140737488350000 ∧ -9223372036854775808≤a1∧a1≤9223372036854775807
 ·rw [if_pos hc] at h
  obtain rfl:=Option.some.inj h
  exact put_calls A0 c0 l0 a1 w hr0 hc0 hc.2.1 hc.2.2 hc.1
 ·rw [if_neg hc] at h;cases h
def q01_Put.f (l0:List Int) (a1:Int):Option (List Int):=if l0.length≤140737488350000 ∧ -9223372036854775808≤a1∧a1≤9223372036854775807 then some (l0++enc a1) else none
theorem q01_Put.calls (A0:Option Addr) (c0:Nat) (l0:List Int) (a1:Int) (r:List Int) (w:World) (hr0:Kd.C (Kd.int .u8) w A0 l0.length l0) (hc0:l0.length≤c0) (h:q01_Put.f l0 a1=some r) :
  Calls Tryz.prog 36 #[.slice A0 l0.length c0,.int .i64 a1] w fun e w'=>∃ v0_:Value,e = .returned (v0_)∧Kd.R (Kd.int .u8) 5 w' w.heap.size (fun _=>True) v0_ r∧Below w.heap.size w w':=by
 unfold q01_Put.f at h
 by_cases hc:l0.length≤140737488350000 ∧ -9223372036854775808≤a1∧a1≤9223372036854775807
 ·rw [if_pos hc] at h
  obtain rfl:=Option.some.inj h
  exact refPut_calls A0 c0 l0 a1 w hr0 hc0 hc.2.1 hc.2.2 hc.1
 ·rw [if_neg hc] at h;cases h
def num_PutText.f (l0:List Int) (a1:ByteArray):Option (List Int):=if l0.length+a1.size≤140737488349000 then some (l0++encT (bytesOf a1)) else none
theorem num_PutText.calls (A0:Option Addr) (c0:Nat) (l0:List Int) (a1:ByteArray) (r:List Int) (w:World) (hr0:Kd.C (Kd.int .u8) w A0 l0.length l0) (hc0:l0.length≤c0) (h:num_PutText.f l0 a1=some r) :
  Calls Tryz.prog 31 #[.slice A0 l0.length c0,.string a1] w fun e w'=>∃ v0_:Value,e = .returned (v0_)∧Kd.R (Kd.int .u8) 5 w' w.heap.size (fun _=>True) v0_ r∧Below w.heap.size w w':=by
 unfold num_PutText.f at h
 by_cases hc:l0.length+a1.size≤140737488349000
 ·rw [if_pos hc] at h
  obtain rfl:=Option.some.inj h
  exact putText_calls A0 c0 l0 a1 w hr0 hc0 hc
 ·rw [if_neg hc] at h;cases h
def q01_PutText.f (l0:List Int) (a1:ByteArray):Option (List Int):=if l0.length+a1.size≤140737488349000 then some (l0++encT (bytesOf a1)) else none
theorem q01_PutText.calls (A0:Option Addr) (c0:Nat) (l0:List Int) (a1:ByteArray) (r:List Int) (w:World) (hr0:Kd.C (Kd.int .u8) w A0 l0.length l0) (hc0:l0.length≤c0) (h:q01_PutText.f l0 a1=some r) :
  Calls Tryz.prog 37 #[.slice A0 l0.length c0,.string a1] w fun e w'=>∃ v0_:Value,e = .returned (v0_)∧Kd.R (Kd.int .u8) 5 w' w.heap.size (fun _=>True) v0_ r∧Below w.heap.size w w':=by
 unfold q01_PutText.f at h
 by_cases hc:l0.length+a1.size≤140737488349000
 ·rw [if_pos hc] at h
  obtain rfl:=Option.some.inj h
  exact refPutText_calls A0 c0 l0 a1 w hr0 hc0 hc
 ·rw [if_neg hc] at h;cases h
end Go.Proofs.YtocpcnmnhckcpaaGreat.Prt
namespace Go.Proofs.YtocpcnmnhckcpaaGreat.Prt
open RowKit YtocpcnmnhckcpaaGreatW.PrintWords YtocpcnmnhckcpaaGreatW.PrintLast YtocpcnmnhckcpaaGreatW.PrintMore YtocpcnmnhckcpaaGreat.Num YtocpcnmnhckcpaaGreat.Nam
def encTs (l:List ByteArray):List Int:=l.flatMap fun s=>encT (bytesOf s)
theorem encT_len (s:ByteArray) (h:s.size≤9223372036854775807):(encT (bytesOf s)).length≤10+s.size:=by
 unfold encT
 have:=enc_len (x:=((bytesOf s).length:Int)) ⟨by omega,by rw [bytes_length];omega⟩
 rw [List.length_append,bytes_length] at *;omega
theorem may_size {s:ByteArray} (h:mayL (bytesOf s)=true):s.size≤24:=by have:=(may_parts h).2.1;rwa [bytes_length] at this
theorem tag_size {s:ByteArray} (h:tagB s=true):s.size≤49:=by
 obtain ⟨k,v,hs,h1,h2⟩:=(tagB_iff s).1 h
 have:=may_size h1
 have:=may_size h2
 rw [hs,ByteArray.size_append,ByteArray.size_append]
 show k.size+1+v.size≤49
 omega
theorem encTs_bytes (a:List ByteArray):isBytes (encTs a):=by
 induction a with
 | nil=>intro c hc;simp [encTs] at hc
 | cons x r ih=>
  have e:encTs (x :: r)=encT (bytesOf x)++encTs r:=by unfold encTs;rw [List.flatMap_cons]
  rw [e]
  exact isBytes_append.2 ⟨isBytes_append.2 ⟨enc_bytes _,bytesOf_isBytes x⟩,ih⟩
theorem mayG_big (s:ByteArray) (h:24 < s.size):q03_May.f 1 s=some (mayL (bytesOf s)):=by
 have e:mayL (bytesOf s)=false:=by unfold mayL;rw [bytes_length,decide_eq_false (by omega)];rfl
 rw [e]
 unfold q03_May.f
 rw [if_neg (by omega),if_pos (by omega)];rfl
def q03_MayG.f (a0:ByteArray):Option (Bool):=if a0.size≤9223372036854775807 then some (mayL (bytesOf a0)) else none
theorem q03_MayG.val {a0:ByteArray} {r:Bool} (h:q03_MayG.f a0=some r):∃ k,q03_May.f k a0=some r:=by
 unfold q03_MayG.f at h
 by_cases hc:a0.size≤9223372036854775807
 ·rw [if_pos hc] at h
  obtain rfl:=Option.some.inj h
  by_cases h2:a0.size≤24
  ·exact ⟨_,may_val a0 (by omega)⟩
  ·exact ⟨_,mayG_big a0 (by omega)⟩
 ·rw [if_neg hc] at h;cases h
theorem q03_MayG.calls (a0:ByteArray) (r:Bool) (w:World) (h:q03_MayG.f a0=some r) :
  Calls Tryz.prog 90 #[.string a0] w fun e w'=>e = .returned (.bool r)∧Below w.heap.size w w':=by
 obtain ⟨k,hk⟩:=q03_MayG.val h
 exact q03_May.calls k a0 r w hk
end Go.Proofs.YtocpcnmnhckcpaaGreat.Prt
namespace Go.Proofs.YtocpcnmnhckcpaaGreat.Prt
open RowKit YtocpcnmnhckcpaaGreatW.PrintWords YtocpcnmnhckcpaaGreatW.PrintLast YtocpcnmnhckcpaaGreatW.PrintMore
attribute [local go_sem] max2_int min2_int max_two min_two max_three min_three max_four min_four
def q03_Parts.l0:Nat→ByteArray→Int→Option (ByteArray × ByteArray × Bool)
 | 0,_,_=>none
 | k+1,x0,x5=>if x5 < (x0.size:Int) then (if 0≤x5 then (if (bt x0 x5)=58 then (if x5≤(x0.size:Int) then ((q03_MayG.f (x0.extract 0 (x5:Int).toNat)).bind fun t196=>(if 0≤(wrap64 (x5+1)) then (if (wrap64 (x5+1))≤(x0.size:Int) then ((q03_MayG.f (x0.extract ((wrap64 (x5+1)):Int).toNat x0.size)).bind fun t197=>(if t196=true then (if t197=true then (some (x0.extract 0 (x5:Int).toNat,x0.extract ((wrap64 (x5+1)):Int).toNat x0.size,true)) else (some ((⟨#[]⟩:ByteArray),(⟨#[]⟩:ByteArray),false))) else (some ((⟨#[]⟩:ByteArray),(⟨#[]⟩:ByteArray),false)))) else (none)) else (none))) else (none)) else (q03_Parts.l0 k x0 (wrap64 (x5+1)))) else (none)) else (some ((⟨#[]⟩:ByteArray),(⟨#[]⟩:ByteArray),false))
def q03_Parts.f (k:Nat) (a0:ByteArray):Option (ByteArray × ByteArray × Bool):=q03_Parts.l0 k a0 0
set_option maxHeartbeats 8000000 in
set_option maxRecDepth 100000 in
theorem q03_Parts.calls (k:Nat) (a0:ByteArray) (r1:ByteArray) (r2:ByteArray) (r3:Bool) (w:World) (h:q03_Parts.f k a0=some (r1,r2,r3)) :
  Calls Tryz.prog 93 #[.string a0] w fun e w'=>e = .returned (.tuple #[.string r1,.string r2,.bool r3])∧Below w.heap.size w w':=by
 have HB:=Ak (Below.refl w.heap.size w)
 have H:(q03_Parts.l0 k a0 0)=some (r1,r2,r3):=h
 clear h
 have H':=Ak H
 clear H
 go_enter Tryz.func93,Tryz.ntmps93
 go_wp2
 repeat (go_quiet (fail))
 go_loopg [5] k (fun kq v5 w'=>∃ (x5_1:Int),v5 = .int .i64 x5_1∧Aside0 (q03_Parts.l0 kq a0 x5_1=some (r1,r2,r3))∧Aside0 (kq≤k)∧Aside0 (Below w.heap.size w w'))
 case atStart=>exact ⟨(0),(by rfl),H',⟨Nat.le_refl _⟩,⟨by with_reducible exact HB.out⟩⟩
 case round=>
  clear H'
  obtain ⟨x5_1,rfl,HA,HK1,HB⟩:=hrel
  cases gk with
  | zero=>exact absurd HA.out (by simp [q03_Parts.l0])
  | succ k1=>
   have H:=HA.out
   clear HA
   simp only [q03_Parts.l0] at H
   by_cases c2:x5_1 < (a0.size:Int)
   ·rw [if_pos c2] at H
    have c2b0:decide (x5_1 < (a0.size:Int))=true:=decide_eq_true c2
    clear c2
    by_cases c3:0≤x5_1
    ·rw [if_pos c3] at H
     have c3b0:decide (0≤x5_1)=true:=decide_eq_true c3
     clear c3
     by_cases c5:(bt a0 x5_1)=58
     ·rw [if_pos c5] at H
      have c5b0:((bt a0 x5_1) == 58)=true:=beq_iff_eq.mpr c5
      have c5b1:((bt a0 x5_1) != 58)=false:=bne_eq_false_iff_eq.mpr c5
      clear c5
      have c6b0:=eq_true (of_decide_eq_true (by (with_reducible assumption)):0≤x5_1)
      by_cases c7:x5_1≤(a0.size:Int)
      ·rw [if_pos c7] at H
       have c7b0:=eq_true c7
       have c7b1:decide (x5_1≤(a0.size:Int))=true:=decide_eq_true c7
       clear c7
       replace H:=Option.bind_eq_some_iff.mp H
       obtain ⟨t196,A80,H⟩:=H
       replace H:(if 0≤(wrap64 (x5_1+1)) then (if (wrap64 (x5_1+1))≤(a0.size:Int) then ((q03_MayG.f (a0.extract ((wrap64 (x5_1+1)):Int).toNat a0.size)).bind fun t197=>(if t196=true then (if t197=true then (some (a0.extract 0 (x5_1:Int).toNat,a0.extract ((wrap64 (x5_1+1)):Int).toNat a0.size,true)) else (some ((⟨#[]⟩:ByteArray),(⟨#[]⟩:ByteArray),false))) else (some ((⟨#[]⟩:ByteArray),(⟨#[]⟩:ByteArray),false)))) else (none)) else (none))=some (r1,r2,r3):=H
       have A8:=Ak A80
       clear A80
       obtain ⟨ji9,hji9⟩:∃ j_:Int,(wrap64 (x5_1+1))=j_:=⟨_,rfl⟩
       replace H:(if 0≤(ji9) then (if (ji9)≤(a0.size:Int) then ((q03_MayG.f (a0.extract ((ji9):Int).toNat a0.size)).bind fun t197=>(if t196=true then (if t197=true then (some (a0.extract 0 (x5_1:Int).toNat,a0.extract ((ji9):Int).toNat a0.size,true)) else (some ((⟨#[]⟩:ByteArray),(⟨#[]⟩:ByteArray),false))) else (some ((⟨#[]⟩:ByteArray),(⟨#[]⟩:ByteArray),false)))) else (none)) else (none))=some (r1,r2,r3):=by (rw [hji9] at H;exact H)
       have hji9w:(IntKind.i64.wrap (x5_1+1))=ji9:=(i64_w _).trans hji9
       by_cases c10:0≤(ji9)
       ·rw [if_pos c10] at H
        have c10b0:=eq_true c10
        have c10b1:decide (0≤(ji9))=true:=decide_eq_true c10
        clear c10
        by_cases c11:(ji9)≤(a0.size:Int)
        ·rw [if_pos c11] at H
         have c11b0:=eq_true c11
         have c11b1:decide ((ji9)≤(a0.size:Int))=true:=decide_eq_true c11
         clear c11
         replace H:=Option.bind_eq_some_iff.mp H
         obtain ⟨t197,A120,H⟩:=H
         replace H:(if t196=true then (if t197=true then (some (a0.extract 0 (x5_1:Int).toNat,a0.extract ((ji9):Int).toNat a0.size,true)) else (some ((⟨#[]⟩:ByteArray),(⟨#[]⟩:ByteArray),false))) else (some ((⟨#[]⟩:ByteArray),(⟨#[]⟩:ByteArray),false)))=some (r1,r2,r3):=H
         have A12:=Ak A120
         clear A120
         by_cases c13:t196=true
         ·subst c13
          have H1:(if t197=true then (some (a0.extract 0 (x5_1:Int).toNat,a0.extract ((ji9):Int).toNat a0.size,true)) else (some ((⟨#[]⟩:ByteArray),(⟨#[]⟩:ByteArray),false)))=some (r1,r2,r3):=by rw [if_pos rfl] at H;exact H
          clear H
          have H:=H1
          clear H1
          by_cases c14:t197=true
          ·subst c14
           have H1:(some (a0.extract 0 (x5_1:Int).toNat,a0.extract ((ji9):Int).toNat a0.size,true))=some (r1,r2,r3):=by rw [if_pos rfl] at H;exact H
           clear H
           have H:=H1
           clear H1
           have c15b0:=eq_true (of_decide_eq_true (by (with_reducible assumption)):0≤x5_1)
           have c16b0:=eq_true (of_decide_eq_true (by (with_reducible assumption)):x5_1≤(a0.size:Int))
           have c17b0:=eq_true (of_decide_eq_true (by (with_reducible assumption)):0≤(ji9))
           have c18b0:=eq_true (of_decide_eq_true (by (with_reducible assumption)):(ji9)≤(a0.size:Int))
           simp only [Option.some.injEq,Prod.mk.injEq] at H
           obtain ⟨rfl,rfl,rfl⟩:=H
           have p4:0≤(x5_1:Int):=of_decide_eq_true (by (with_reducible assumption))
           have q4:x5_1 < (a0.size:Int):=of_decide_eq_true (by (with_reducible assumption))
           have hx4:=bt_at a0 x5_1
           replace p4:=eq_true p4
           replace q4:=eq_true q4
           go_wp2_with (first | (go_at_call 90;(with_reducible refine (q03_MayG.calls (a0.extract 0 (x5_1:Int).toNat) true _ A8.out).mono ?_);rintro e w19 ⟨rfl,hb⟩;replace HB:=Ak (below_step HB.out hb);(try clear hb)) | (go_at_call 90;(with_reducible refine (q03_MayG.calls (a0.extract ((ji9):Int).toNat a0.size) true _ A12.out).mono ?_);rintro e w20 ⟨rfl,hb⟩;replace HB:=Ak (below_step HB.out hb);(try clear hb)))
           repeat (go_quiet (fail);try go_wp2_with (fail))
           go_ret3
           exact ⟨by rfl,by repeat (with_reducible first | exact HB.out | apply pw_below_drewN)⟩
          ·replace c14:=Bool.eq_false_iff.mpr c14
           subst c14
           have H1:(some ((⟨#[]⟩:ByteArray),(⟨#[]⟩:ByteArray),false))=some (r1,r2,r3):=by rw [if_neg (show ¬(false=true) by decide)] at H;exact H
           clear H
           have H:=H1
           clear H1
           simp only [Option.some.injEq,Prod.mk.injEq] at H
           obtain ⟨rfl,rfl,rfl⟩:=H
           have p4:0≤(x5_1:Int):=of_decide_eq_true (by (with_reducible assumption))
           have q4:x5_1 < (a0.size:Int):=of_decide_eq_true (by (with_reducible assumption))
           have hx4:=bt_at a0 x5_1
           replace p4:=eq_true p4
           replace q4:=eq_true q4
           go_wp2_with (first | (go_at_call 90;(with_reducible refine (q03_MayG.calls (a0.extract 0 (x5_1:Int).toNat) true _ A8.out).mono ?_);rintro e w21 ⟨rfl,hb⟩;replace HB:=Ak (below_step HB.out hb);(try clear hb)) | (go_at_call 90;(with_reducible refine (q03_MayG.calls (a0.extract ((ji9):Int).toNat a0.size) false _ A12.out).mono ?_);rintro e w22 ⟨rfl,hb⟩;replace HB:=Ak (below_step HB.out hb);(try clear hb)))
           repeat (go_quiet (fail))
           go_ret3
           exact ⟨by rfl,by with_reducible exact HB.out⟩
         ·replace c13:=Bool.eq_false_iff.mpr c13
          subst c13
          have H1:(some ((⟨#[]⟩:ByteArray),(⟨#[]⟩:ByteArray),false))=some (r1,r2,r3):=by rw [if_neg (show ¬(false=true) by decide)] at H;exact H
          clear H
          have H:=H1
          clear H1
          simp only [Option.some.injEq,Prod.mk.injEq] at H
          obtain ⟨rfl,rfl,rfl⟩:=H
          have p4:0≤(x5_1:Int):=of_decide_eq_true (by (with_reducible assumption))
          have q4:x5_1 < (a0.size:Int):=of_decide_eq_true (by (with_reducible assumption))
          have hx4:=bt_at a0 x5_1
          replace p4:=eq_true p4
          replace q4:=eq_true q4
          go_wp2_with (first | (go_at_call 90;(with_reducible refine (q03_MayG.calls (a0.extract 0 (x5_1:Int).toNat) false _ A8.out).mono ?_);rintro e w23 ⟨rfl,hb⟩;replace HB:=Ak (below_step HB.out hb);(try clear hb)) | (go_at_call 90;(with_reducible refine (q03_MayG.calls (a0.extract ((ji9):Int).toNat a0.size) t197 _ A12.out).mono ?_);rintro e w24 ⟨rfl,hb⟩;replace HB:=Ak (below_step HB.out hb);(try clear hb)))
          repeat (go_quiet (fail))
          go_ret3
          exact ⟨by rfl,by with_reducible exact HB.out⟩
        ·rw [if_neg c11] at H
         exact absurd H (by simp)
       ·rw [if_neg c10] at H
        exact absurd H (by simp)
      ·rw [if_neg c7] at H
       exact absurd H (by simp)
     ·rw [if_neg c5] at H
      have c5b0:((bt a0 x5_1) == 58)=false:=beq_eq_false_iff_ne.mpr c5
      have c5b1:((bt a0 x5_1) != 58)=true:=bne_iff_ne.mpr c5
      have H':=Ak H
      clear H
      have p4:0≤(x5_1:Int):=of_decide_eq_true (by (with_reducible assumption))
      have q4:x5_1 < (a0.size:Int):=of_decide_eq_true (by (with_reducible assumption))
      have hx4:=bt_at a0 x5_1
      replace p4:=eq_true p4
      replace q4:=eq_true q4
      go_wp2
      repeat (go_quiet (fail))
      go_roundg k1
      case measure=>have:=HK1.out;omega
      case rel=>exact ⟨(wrap64 (x5_1+1)),(by rfl),H',⟨by have:=HK1.out;omega⟩,⟨by with_reducible exact HB.out⟩⟩
    ·rw [if_neg c3] at H
     exact absurd H (by simp)
   ·rw [if_neg c2] at H
    have c2b0:decide (x5_1 < (a0.size:Int))=false:=decide_eq_false c2
    clear c2
    simp only [Option.some.injEq,Prod.mk.injEq] at H
    obtain ⟨rfl,rfl,rfl⟩:=H
    go_wp2
    repeat (go_quiet (fail))
    go_ret3
    exact ⟨by rfl,by with_reducible exact HB.out⟩
end Go.Proofs.YtocpcnmnhckcpaaGreat.Prt
namespace Go.Proofs.YtocpcnmnhckcpaaGreat.Prt
open RowKit YtocpcnmnhckcpaaGreatW.PrintWords YtocpcnmnhckcpaaGreatW.PrintLast YtocpcnmnhckcpaaGreatW.PrintMore YtocpcnmnhckcpaaGreat.Num YtocpcnmnhckcpaaGreat.Nam
def colon (s:ByteArray):Nat:=((bytesOf s).takeWhile fun c=>c != 58).length
def partsS (s:ByteArray):ByteArray × ByteArray × Bool:=if tagB s=true then (s.extract 0 (colon s),s.extract (colon s+1) s.size,true) else ((⟨#[]⟩:ByteArray),(⟨#[]⟩:ByteArray),false)
theorem parts_none {s:ByteArray} (h:(58:Int) ∉ bytesOf s):partsS s=((⟨#[]⟩:ByteArray),(⟨#[]⟩:ByteArray),false):=by
 unfold partsS
 rw [if_neg (by unfold tagB;rw [tagL_no _ h];decide)]
theorem split_at (s:ByteArray) (i:Nat) (hi:i < s.size) (h:(bytesOf s).getD i 0=58):bytesOf s=(bytesOf s).take i++58 :: (bytesOf s).drop (i+1):=by
 have:=drop_cons (bytesOf s) i (by rw [bytes_length];exact hi)
 rw [h] at this
 rw [←this,List.take_append_drop]
theorem ext0 (s:ByteArray) (i:Nat):bytesOf (s.extract 0 i)=(bytesOf s).take i:=by rw [bytes_extract,List.drop_zero,Nat.sub_zero]
theorem ext1 (s:ByteArray) (i:Nat):bytesOf (s.extract i s.size)=(bytesOf s).drop i:=by
 rw [bytes_extract,List.take_of_length_le (by rw [List.length_drop,bytes_length];omega)]
theorem ext_le (s:ByteArray) (i j:Nat):(s.extract i j).size≤s.size:=by rw [ByteArray.size_extract];omega
theorem parts_loop (s:ByteArray) (hs:s.size≤9223372036854775807):∀ (n i k:Nat),i+n=s.size→(58:Int) ∉ (bytesOf s).take i→n < k→q03_Parts.l0 k s (i:Int)=some (partsS s):=by
 intro n
 induction n with
 | zero=>
  intro i k hi h58 hk
  obtain ⟨k,rfl⟩:∃ m,k=m+1:=⟨k - 1,by omega⟩
  rw [List.take_of_length_le (by rw [bytes_length];omega)] at h58
  rw [q03_Parts.l0,if_neg (by omega),parts_none h58]
 | succ n ih=>
  intro i k hi h58 hk
  obtain ⟨k,rfl⟩:∃ m,k=m+1:=⟨k - 1,by omega⟩
  have e1:wrap64 ((i:Int)+1)=((i+1:Nat):Int):=by rw [wrapI (by omega) (by omega)];omega
  rw [q03_Parts.l0,if_pos (by omega),if_pos (by omega),bt_getD s i (by omega)]
  by_cases hc:(bytesOf s).getD i 0=58
  ·have hsp:=split_at s i (by omega) hc
   have hcol:colon s=i:=by
    unfold colon
    rw [hsp,(take58 _ _ h58).1,List.length_take,bytes_length];omega
   have htag:tagB s=(mayL ((bytesOf s).take i) && mayL ((bytesOf s).drop (i+1))):=by
    unfold tagB
    rw [hsp,tagL_cut _ _ h58]
    rw [←hsp]
   have m1:q03_MayG.f (s.extract 0 i)=some (mayL ((bytesOf s).take i)):=by
    unfold q03_MayG.f
    rw [if_pos (Nat.le_trans (ext_le s 0 i) hs),ext0]
   have m2:q03_MayG.f (s.extract (i+1) s.size)=some (mayL ((bytesOf s).drop (i+1))):=by
    unfold q03_MayG.f
    rw [if_pos (Nat.le_trans (ext_le s (i+1) s.size) hs),ext1]
   rw [if_pos hc,if_pos (by omega),e1,Int.toNat_natCast,Int.toNat_natCast,m1,m2]
   simp only [Option.bind_some]
   rw [if_pos (by omega),if_pos (by omega)]
   unfold partsS
   rw [htag,hcol]
   cases mayL ((bytesOf s).take i) <;> cases mayL ((bytesOf s).drop (i+1)) <;> rfl
  ·rw [if_neg hc,e1,ih (i+1) k (by omega) ?_ (by omega)]
   rw [take_snoc _ i (by rw [bytes_length];omega),List.mem_append,not_or]
   exact ⟨h58,by rw [List.mem_singleton];exact fun e=>hc e.symm⟩
def q03_PartsG.f (a0:ByteArray):Option (ByteArray × ByteArray × Bool):=if a0.size≤9223372036854775807 then some (partsS a0) else none
theorem q03_PartsG.val {a0:ByteArray} {r1 r2:ByteArray} {r3:Bool} (h:q03_PartsG.f a0=some (r1,r2,r3)):∃ k,q03_Parts.f k a0=some (r1,r2,r3):=by
 unfold q03_PartsG.f at h
 by_cases hc:a0.size≤9223372036854775807
 ·rw [if_pos hc] at h
  rw [←h]
  exact ⟨_,parts_loop a0 hc a0.size 0 (a0.size+1) (by omega) (by simp) (by omega)⟩
 ·rw [if_neg hc] at h;cases h
theorem q03_PartsG.calls (a0:ByteArray) (r1:ByteArray) (r2:ByteArray) (r3:Bool) (w:World) (h:q03_PartsG.f a0=some (r1,r2,r3)) :
  Calls Tryz.prog 93 #[.string a0] w fun e w'=>e = .returned (.tuple #[.string r1,.string r2,.bool r3])∧Below w.heap.size w w':=by
 obtain ⟨k,hk⟩:=q03_PartsG.val h
 exact q03_Parts.calls k a0 r1 r2 r3 w hk
end Go.Proofs.YtocpcnmnhckcpaaGreat.Prt
namespace Go.Proofs.YtocpcnmnhckcpaaGreat.Prt
open RowKit YtocpcnmnhckcpaaGreatW.PrintWords YtocpcnmnhckcpaaGreatW.PrintLast YtocpcnmnhckcpaaGreatW.PrintMore
attribute [local go_sem] max2_int min2_int max_two min_two max_three min_three max_four min_four
def q04_Texts.l0:Nat→List ByteArray→List ByteArray→Int→Option (Bool)
 | 0,_,_,_=>none
 | k+1,x0,x1,x5=>if x5 < (x0.length:Int) then (if 0≤x5 then (if x5 < (x1.length:Int) then (if (rdOf ByteArray.empty x0 x5).toList=(rdOf ByteArray.empty x1 x5).toList then (q04_Texts.l0 k x0 x1 (wrap64 (x5+1))) else (some false)) else (none)) else (none)) else (some true)
def q04_Texts.f (k:Nat) (l0:List ByteArray) (l1:List ByteArray):Option (Bool):=if (l0.length:Int)=(l1.length:Int) then (q04_Texts.l0 k l0 l1 0) else (some false)
set_option maxHeartbeats 8000000 in
set_option maxRecDepth 100000 in
theorem q04_Texts.calls (k:Nat) (A0:Option Addr) (c0:Nat) (l0:List ByteArray) (A1:Option Addr) (c1:Nat) (l1:List ByteArray) (r:Bool) (w:World) (hr0:Kd.C Kd.string w A0 l0.length l0) (hc0:l0.length≤c0) (hr1:Kd.C Kd.string w A1 l1.length l1) (hc1:l1.length≤c1) (h:q04_Texts.f k l0 l1=some r) :
  Calls Tryz.prog 63 #[.slice A0 l0.length c0,.slice A1 l1.length c1] w fun e w'=>e = .returned (.bool r)∧Drawn0 w w':=by
 have HR0:=Ak hr0
 have HC0:=Ak hc0
 clear hr0 hc0
 have HR1:=Ak hr1
 have HC1:=Ak hc1
 clear hr1 hc1
 have H:(if (l0.length:Int)=(l1.length:Int) then (q04_Texts.l0 k l0 l1 0) else (some false))=some r:=h
 clear h
 by_cases c3:(l0.length:Int)=(l1.length:Int)
 ·rw [if_pos c3] at H
  have c3b0:((l0.length:Int) == (l1.length:Int))=true:=beq_iff_eq.mpr c3
  have c3b1:((l0.length:Int) != (l1.length:Int))=false:=bne_eq_false_iff_eq.mpr c3
  have c3b2:(l0.length == l1.length)=true:=by (simp at c3 ⊢;omega)
  clear c3
  have H':=Ak H
  clear H
  go_enter Tryz.func63,Tryz.ntmps63
  go_wp2
  repeat (go_quiet (fail))
  go_loopg [5] k (fun kq v5 w'=>∃ (x5_1:Int),v5 = .int .i64 x5_1∧Aside0 (q04_Texts.l0 kq l0 l1 x5_1=some r)∧Aside0 (kq≤k)∧Drawn0 w w')
  case atStart=>exact ⟨(0),(by rfl),H',⟨Nat.le_refl _⟩,by repeat (exact Drawn0.refl _)⟩
  case round=>
   clear H'
   try clear c3b0
   try clear c3b1
   try clear c3b2
   obtain ⟨x5_1,rfl,HA,HK1,⟨m1,rfl⟩⟩:=hrel
   cases gk with
   | zero=>exact absurd HA.out (by simp [q04_Texts.l0])
   | succ k1=>
    have H:=HA.out
    clear HA
    simp only [q04_Texts.l0] at H
    by_cases c4:x5_1 < (l0.length:Int)
    ·rw [if_pos c4] at H
     have c4b0:decide (x5_1 < (l0.length:Int))=true:=decide_eq_true c4
     clear c4
     by_cases c5:0≤x5_1
     ·rw [if_pos c5] at H
      have c5b0:decide (0≤x5_1)=true:=decide_eq_true c5
      clear c5
      by_cases c6:x5_1 < (l1.length:Int)
      ·rw [if_pos c6] at H
       have c6b0:decide (x5_1 < (l1.length:Int))=true:=decide_eq_true c6
       clear c6
       by_cases c7:(rdOf ByteArray.empty l0 x5_1).toList=(rdOf ByteArray.empty l1 x5_1).toList
       ·rw [if_pos c7] at H
        have c7b0:((rdOf ByteArray.empty l0 x5_1).toList == (rdOf ByteArray.empty l1 x5_1).toList)=true:=beq_iff_eq.mpr c7
        have c7b1:((rdOf ByteArray.empty l0 x5_1).toList != (rdOf ByteArray.empty l1 x5_1).toList)=false:=bne_eq_false_iff_eq.mpr c7
        clear c7
        have H':=Ak H
        clear H
        have p332:0≤(x5_1:Int):=of_decide_eq_true (by (with_reducible assumption))
        have q332:x5_1 < (l0.length:Int):=of_decide_eq_true (by (with_reducible assumption))
        obtain ⟨ad332,e332,hx332_0⟩:=Kd.at_string HR0.out x5_1 p332 q332
        cases e332
        replace p332:=eq_true p332
        replace q332:=eq_true q332
        have p333:0≤(x5_1:Int):=of_decide_eq_true (by (with_reducible assumption))
        have q333:x5_1 < (l1.length:Int):=of_decide_eq_true (by (with_reducible assumption))
        obtain ⟨ad333,e333,hx333_0⟩:=Kd.at_string HR1.out x5_1 p333 q333
        cases e333
        replace p333:=eq_true p333
        replace q333:=eq_true q333
        go_wp2
        repeat (go_quiet (fail);try go_wp2)
        go_roundg k1
        case measure=>have:=HK1.out;omega
        case rel=>exact ⟨(wrap64 (x5_1+1)),(by rfl),H',⟨by have:=HK1.out;omega⟩,by repeat (first | exact Drawn0.refl _ | apply Drawn0.step)⟩
       ·rw [if_neg c7] at H
        have c7b0:((rdOf ByteArray.empty l0 x5_1).toList == (rdOf ByteArray.empty l1 x5_1).toList)=false:=beq_eq_false_iff_ne.mpr c7
        have c7b1:((rdOf ByteArray.empty l0 x5_1).toList != (rdOf ByteArray.empty l1 x5_1).toList)=true:=bne_iff_ne.mpr c7
        obtain rfl:=Option.some.inj H
        have p332:0≤(x5_1:Int):=of_decide_eq_true (by (with_reducible assumption))
        have q332:x5_1 < (l0.length:Int):=of_decide_eq_true (by (with_reducible assumption))
        obtain ⟨ad332,e332,hx332_0⟩:=Kd.at_string HR0.out x5_1 p332 q332
        cases e332
        replace p332:=eq_true p332
        replace q332:=eq_true q332
        have p333:0≤(x5_1:Int):=of_decide_eq_true (by (with_reducible assumption))
        have q333:x5_1 < (l1.length:Int):=of_decide_eq_true (by (with_reducible assumption))
        obtain ⟨ad333,e333,hx333_0⟩:=Kd.at_string HR1.out x5_1 p333 q333
        cases e333
        replace p333:=eq_true p333
        replace q333:=eq_true q333
        go_wp2
        repeat (go_quiet (fail);try go_wp2)
        go_ret
        exact ⟨by rfl,by repeat (first | exact Drawn0.refl _ | apply Drawn0.step)⟩
      ·rw [if_neg c6] at H
       exact absurd H (by simp)
     ·rw [if_neg c5] at H
      exact absurd H (by simp)
    ·rw [if_neg c4] at H
     have c4b0:decide (x5_1 < (l0.length:Int))=false:=decide_eq_false c4
     clear c4
     obtain rfl:=Option.some.inj H
     go_wp2
     repeat (go_quiet (fail))
     go_ret
     exact ⟨by rfl,by repeat (first | exact Drawn0.refl _ | apply Drawn0.step)⟩
 ·rw [if_neg c3] at H
  have c3b0:((l0.length:Int) == (l1.length:Int))=false:=beq_eq_false_iff_ne.mpr c3
  have c3b1:((l0.length:Int) != (l1.length:Int))=true:=bne_iff_ne.mpr c3
  have c3b2:(l0.length == l1.length)=false:=by (simp at c3 ⊢;omega)
  obtain rfl:=Option.some.inj H
  go_enter Tryz.func63,Tryz.ntmps63
  go_wp2
  repeat (go_quiet (fail))
  go_ret
  exact ⟨by rfl,by repeat (exact Drawn0.refl _)⟩
end Go.Proofs.YtocpcnmnhckcpaaGreat.Prt
namespace Go.Proofs.YtocpcnmnhckcpaaGreat.Prt
open RowKit YtocpcnmnhckcpaaGreatW.PrintWords YtocpcnmnhckcpaaGreatW.PrintLast YtocpcnmnhckcpaaGreatW.PrintMore
attribute [local go_sem] max2_int min2_int max_two min_two max_three min_three max_four min_four
def q04_Rise.l0:Nat→List ByteArray→Int→Option (Bool)
 | 0,_,_=>none
 | k+1,x0,x3=>if x3 < (x0.length:Int) then (if 0≤(wrap64 (x3 - 1)) then (if (wrap64 (x3 - 1)) < (x0.length:Int) then (if 0≤x3 then (if ((Op.bytesLess ((rdOf ByteArray.empty x0 (wrap64 (x3 - 1))).toList) ((rdOf ByteArray.empty x0 x3).toList))=true) then (q04_Rise.l0 k x0 (wrap64 (x3+1))) else (some false)) else (none)) else (none)) else (none)) else (some true)
def q04_Rise.f (k:Nat) (l0:List ByteArray):Option (Bool):=q04_Rise.l0 k l0 1
set_option maxHeartbeats 8000000 in
set_option maxRecDepth 100000 in
theorem q04_Rise.calls (k:Nat) (A0:Option Addr) (c0:Nat) (l0:List ByteArray) (r:Bool) (w:World) (hr0:Kd.C Kd.string w A0 l0.length l0) (hc0:l0.length≤c0) (h:q04_Rise.f k l0=some r) :
  Calls Tryz.prog 92 #[.slice A0 l0.length c0] w fun e w'=>e = .returned (.bool r)∧Drawn0 w w':=by
 have HR0:=Ak hr0
 have HC0:=Ak hc0
 clear hr0 hc0
 have H:(q04_Rise.l0 k l0 1)=some r:=h
 clear h
 have H':=Ak H
 clear H
 go_enter Tryz.func92,Tryz.ntmps92
 go_wp2
 repeat (go_quiet (fail))
 go_loopg [3] k (fun kq v3 w'=>∃ (x3_1:Int),v3 = .int .i64 x3_1∧Aside0 (q04_Rise.l0 kq l0 x3_1=some r)∧Aside0 (kq≤k)∧Drawn0 w w')
 case atStart=>exact ⟨(1),(by rfl),H',⟨Nat.le_refl _⟩,by repeat (exact Drawn0.refl _)⟩
 case round=>
  clear H'
  obtain ⟨x3_1,rfl,HA,HK1,⟨m1,rfl⟩⟩:=hrel
  cases gk with
  | zero=>exact absurd HA.out (by simp [q04_Rise.l0])
  | succ k1=>
   have H:=HA.out
   clear HA
   simp only [q04_Rise.l0] at H
   by_cases c2:x3_1 < (l0.length:Int)
   ·rw [if_pos c2] at H
    have c2b0:decide (x3_1 < (l0.length:Int))=true:=decide_eq_true c2
    clear c2
    obtain ⟨ji3,hji3⟩:∃ j_:Int,(wrap64 (x3_1 - 1))=j_:=⟨_,rfl⟩
    replace H:(if 0≤(ji3) then (if (ji3) < (l0.length:Int) then (if 0≤x3_1 then (if ((Op.bytesLess ((rdOf ByteArray.empty l0 (ji3)).toList) ((rdOf ByteArray.empty l0 x3_1).toList))=true) then (q04_Rise.l0 k1 l0 (wrap64 (x3_1+1))) else (some false)) else (none)) else (none)) else (none))=some r:=by (rw [hji3] at H;exact H)
    have hji3w:(IntKind.i64.wrap (x3_1 - 1))=ji3:=(i64_w _).trans hji3
    by_cases c4:0≤(ji3)
    ·rw [if_pos c4] at H
     have c4b0:decide (0≤(ji3))=true:=decide_eq_true c4
     clear c4
     by_cases c5:(ji3) < (l0.length:Int)
     ·rw [if_pos c5] at H
      have c5b0:decide ((ji3) < (l0.length:Int))=true:=decide_eq_true c5
      clear c5
      by_cases c6:0≤x3_1
      ·rw [if_pos c6] at H
       have c6b0:decide (0≤x3_1)=true:=decide_eq_true c6
       clear c6
       by_cases c7:((Op.bytesLess ((rdOf ByteArray.empty l0 (ji3)).toList) ((rdOf ByteArray.empty l0 x3_1).toList))=true)
       ·rw [if_pos c7] at H
        have c7b0:(Op.bytesLess ((rdOf ByteArray.empty l0 (ji3)).toList) ((rdOf ByteArray.empty l0 x3_1).toList))=true:=c7
        clear c7
        have H':=Ak H
        clear H
        have p202:0≤((ji3):Int):=of_decide_eq_true (by (with_reducible assumption))
        have q202:(ji3) < (l0.length:Int):=of_decide_eq_true (by (with_reducible assumption))
        obtain ⟨ad202,e202,hx202_0⟩:=Kd.at_string HR0.out (ji3) p202 q202
        cases e202
        replace p202:=eq_true p202
        replace q202:=eq_true q202
        have p203:0≤(x3_1:Int):=of_decide_eq_true (by (with_reducible assumption))
        have q203:x3_1 < (l0.length:Int):=of_decide_eq_true (by (with_reducible assumption))
        obtain ⟨ad203,e203,hx203_0⟩:=Kd.at_string HR0.out x3_1 p203 q203
        obtain rfl:ad202=ad203:=(by injection e203)
        replace p203:=eq_true p203
        replace q203:=eq_true q203
        go_wp2
        repeat (go_quiet (fail);try go_wp2)
        go_roundg k1
        case measure=>have:=HK1.out;omega
        case rel=>exact ⟨(wrap64 (x3_1+1)),(by rfl),H',⟨by have:=HK1.out;omega⟩,by repeat (first | exact Drawn0.refl _ | apply Drawn0.step)⟩
       ·rw [if_neg c7] at H
        have c7b0:(Op.bytesLess ((rdOf ByteArray.empty l0 (ji3)).toList) ((rdOf ByteArray.empty l0 x3_1).toList))=false:=by simpa using c7
        clear c7
        obtain rfl:=Option.some.inj H
        have p202:0≤((ji3):Int):=of_decide_eq_true (by (with_reducible assumption))
        have q202:(ji3) < (l0.length:Int):=of_decide_eq_true (by (with_reducible assumption))
        obtain ⟨ad202,e202,hx202_0⟩:=Kd.at_string HR0.out (ji3) p202 q202
        cases e202
        replace p202:=eq_true p202
        replace q202:=eq_true q202
        have p203:0≤(x3_1:Int):=of_decide_eq_true (by (with_reducible assumption))
        have q203:x3_1 < (l0.length:Int):=of_decide_eq_true (by (with_reducible assumption))
        obtain ⟨ad203,e203,hx203_0⟩:=Kd.at_string HR0.out x3_1 p203 q203
        obtain rfl:ad202=ad203:=(by injection e203)
        replace p203:=eq_true p203
        replace q203:=eq_true q203
        go_wp2
        repeat (go_quiet (fail);try go_wp2)
        go_ret
        exact ⟨by rfl,by repeat (first | exact Drawn0.refl _ | apply Drawn0.step)⟩
      ·rw [if_neg c6] at H
       exact absurd H (by simp)
     ·rw [if_neg c5] at H
      exact absurd H (by simp)
    ·rw [if_neg c4] at H
     exact absurd H (by simp)
   ·rw [if_neg c2] at H
    have c2b0:decide (x3_1 < (l0.length:Int))=false:=decide_eq_false c2
    clear c2
    obtain rfl:=Option.some.inj H
    go_wp2
    repeat (go_quiet (fail))
    go_ret
    exact ⟨by rfl,by repeat (first | exact Drawn0.refl _ | apply Drawn0.step)⟩
end Go.Proofs.YtocpcnmnhckcpaaGreat.Prt
namespace Go.Proofs.YtocpcnmnhckcpaaGreat.Prt
open RowKit YtocpcnmnhckcpaaGreatW.PrintWords YtocpcnmnhckcpaaGreatW.PrintLast YtocpcnmnhckcpaaGreatW.PrintMore YtocpcnmnhckcpaaGreat.Num YtocpcnmnhckcpaaGreat.Nam
def fitS (l:List ByteArray):Bool:=l.all fun x=>decide (x.size≤9223372036854775807)
theorem fitS_iff {l:List ByteArray}:fitS l=true↔∀ x ∈ l,x.size≤9223372036854775807:=by
 unfold fitS;simp only [List.all_eq_true,decide_eq_true_eq]
theorem succW (i:Nat) (h:i < 9223372036854775807):wrap64 ((i:Int)+1)=((i+1:Nat):Int):=by rw [wrapI (by omega) (by omega)];omega
theorem rdOf_mem {l:List ByteArray} {i:Nat} (h:i < l.length):rdOf ByteArray.empty l (i:Int) ∈ l:=getD_mem' h _
theorem drop_rd (l:List ByteArray) (i:Nat) (h:i < l.length):l.drop i=rdOf ByteArray.empty l (i:Int) :: l.drop (i+1):=by
 rw [List.drop_eq_getElem_cons h]
 unfold rdOf
 rw [Int.toNat_natCast,List.getD_eq_getElem?_getD,List.getElem?_eq_getElem h];rfl
theorem partsS_tag (s:ByteArray):(partsS s).2.2=tagB s:=by
 unfold partsS
 cases tagB s <;> rfl
theorem rise04_loop (l:List ByteArray) (hl:l.length≤9223372036854775807):∀ (d i k:Nat),i+1+d=l.length→d < k→q04_Rise.l0 k l ((i+1:Nat):Int)=some (riseB (l.drop i)):=by
 intro d
 induction d with
 | zero=>
  intro i k hi hk
  obtain ⟨k,rfl⟩:∃ m,k=m+1:=⟨k - 1,by omega⟩
  rw [q04_Rise.l0,if_neg (by omega),rise_end l i (by omega)]
 | succ d ih=>
  intro i k hi hk
  obtain ⟨k,rfl⟩:∃ m,k=m+1:=⟨k - 1,by omega⟩
  have e1:wrap64 (((i+1:Nat):Int) - 1)=(i:Int):=by rw [wrapI (by omega) (by omega)];omega
  rw [q04_Rise.l0,if_pos (by omega),e1,succW (i+1) (by omega),if_pos (by omega),if_pos (by omega),if_pos (by omega),rise_step l i (by omega)]
  have e3:Op.bytesLess (rdOf ByteArray.empty l (i:Int)).toList (rdOf ByteArray.empty l ((i+1:Nat):Int)).toList=lessS (l.getD i ByteArray.empty) (l.getD (i+1) ByteArray.empty):=rfl
  rw [e3]
  cases hs:lessS (l.getD i ByteArray.empty) (l.getD (i+1) ByteArray.empty) with
  | true=>rw [if_pos rfl,ih (i+1) k (by omega) (by omega)];rfl
  | false=>rw [if_neg (by decide)];rfl
def q04_RiseG.f (l0:List ByteArray):Option (Bool):=if l0.length≤9223372036854775807 then some (riseB l0) else none
theorem q04_RiseG.val {l0:List ByteArray} {r:Bool} (h:q04_RiseG.f l0=some r):∃ k,q04_Rise.f k l0=some r:=by
 unfold q04_RiseG.f at h
 by_cases hc:l0.length≤9223372036854775807
 ·rw [if_pos hc] at h
  rw [←h]
  refine ⟨l0.length+1,?_⟩
  unfold q04_Rise.f
  cases hl:l0.length with
  | zero=>
   obtain rfl:=List.eq_nil_of_length_eq_zero hl
   rfl
  | succ n=>
   have:=rise04_loop l0 hc n 0 (n+1+1) (by omega) (by omega)
   rwa [List.drop_zero] at this
 ·rw [if_neg hc] at h;cases h
theorem q04_RiseG.calls (A0:Option Addr) (c0:Nat) (l0:List ByteArray) (r:Bool) (w:World) (hr0:Kd.C Kd.string w A0 l0.length l0) (hc0:l0.length≤c0) (h:q04_RiseG.f l0=some r) :
  Calls Tryz.prog 92 #[.slice A0 l0.length c0] w fun e w'=>e = .returned (.bool r)∧Drawn0 w w':=by
 obtain ⟨k,hk⟩:=q04_RiseG.val h
 exact q04_Rise.calls k A0 c0 l0 r w hr0 hc0 hk
def eqL {α:Type} (e:α→α→Bool):List α→List α→Bool
 | [],[]=>true
 | a :: r,b :: s=>e a b && eqL e r s
 | _,_=>false
theorem eqL_iff {α:Type} {e:α→α→Bool} (h:∀ x y,e x y=true↔x=y):∀ a b,eqL e a b=true↔a=b
 | [],[]=>by simp [eqL]
 | a :: r,b :: s=>by simp [eqL,h,eqL_iff h r s]
 | [],_ :: _=>by simp [eqL]
 | _ :: _,[]=>by simp [eqL]
theorem eqL_len {α:Type} {e:α→α→Bool}:∀ a b,a.length≠b.length→eqL e a b=false
 | [],[],h=>absurd rfl h
 | a :: r,b :: s,h=>by rw [eqL,eqL_len r s (fun h2=>h (by simp [h2])),Bool.and_false]
 | [],_ :: _,_=>rfl
 | _ :: _,[],_=>rfl
def eqS (a b:ByteArray):Bool:=a.toList == b.toList
theorem eqS_iff (a b:ByteArray):eqS a b=true↔a=b:=by unfold eqS;rw [beq_iff_eq];exact ⟨toList_inj,fun h=>by rw [h]⟩
theorem texts_loop (a b:List ByteArray) (hl:a.length≤9223372036854775807) (hab:a.length=b.length):∀ (n i k:Nat),i+n=a.length→n < k→q04_Texts.l0 k a b (i:Int)=some (eqL eqS (a.drop i) (b.drop i)):=by
 intro n
 induction n with
 | zero=>
  intro i k hi hk
  obtain ⟨k,rfl⟩:∃ m,k=m+1:=⟨k - 1,by omega⟩
  rw [q04_Texts.l0,if_neg (by omega),List.drop_eq_nil_of_le (by omega),List.drop_eq_nil_of_le (by omega)];rfl
 | succ n ih=>
  intro i k hi hk
  obtain ⟨k,rfl⟩:∃ m,k=m+1:=⟨k - 1,by omega⟩
  rw [q04_Texts.l0,if_pos (by omega),if_pos (by omega),if_pos (by omega),drop_rd a i (by omega),drop_rd b i (by omega),eqL]
  by_cases he:(rdOf ByteArray.empty a (i:Int)).toList=(rdOf ByteArray.empty b (i:Int)).toList
  ·rw [if_pos he,succW i (by omega),ih (i+1) k (by omega) (by omega)]
   have:eqS (rdOf ByteArray.empty a (i:Int)) (rdOf ByteArray.empty b (i:Int))=true:=beq_iff_eq.2 he
   rw [this];rfl
  ·rw [if_neg he]
   have:eqS (rdOf ByteArray.empty a (i:Int)) (rdOf ByteArray.empty b (i:Int))=false:=beq_eq_false_iff_ne.2 he
   rw [this];rfl
def q04_TextsG.f (l0:List ByteArray) (l1:List ByteArray):Option (Bool):=if l0.length≤9223372036854775807 then some (eqL eqS l0 l1) else none
theorem q04_TextsG.val {l0 l1:List ByteArray} {r:Bool} (h:q04_TextsG.f l0 l1=some r):∃ k,q04_Texts.f k l0 l1=some r:=by
 unfold q04_TextsG.f at h
 by_cases hc:l0.length≤9223372036854775807
 ·rw [if_pos hc] at h
  rw [←h]
  refine ⟨l0.length+1,?_⟩
  unfold q04_Texts.f
  by_cases hl:l0.length=l1.length
  ·rw [if_pos (by omega)]
   exact texts_loop l0 l1 hc hl l0.length 0 (l0.length+1) (by omega) (by omega)
  ·rw [if_neg (by omega),eqL_len _ _ hl]
 ·rw [if_neg hc] at h;cases h
theorem q04_TextsG.calls (A0:Option Addr) (c0:Nat) (l0:List ByteArray) (A1:Option Addr) (c1:Nat) (l1:List ByteArray) (r:Bool) (w:World) (hr0:Kd.C Kd.string w A0 l0.length l0) (hc0:l0.length≤c0) (hr1:Kd.C Kd.string w A1 l1.length l1) (hc1:l1.length≤c1) (h:q04_TextsG.f l0 l1=some r) :
  Calls Tryz.prog 63 #[.slice A0 l0.length c0,.slice A1 l1.length c1] w fun e w'=>e = .returned (.bool r)∧Drawn0 w w':=by
 obtain ⟨k,hk⟩:=q04_TextsG.val h
 exact q04_Texts.calls k A0 c0 l0 A1 c1 l1 r w hr0 hc0 hr1 hc1 hk
end Go.Proofs.YtocpcnmnhckcpaaGreat.Prt
namespace Go.Proofs.YtocpcnmnhckcpaaGreat.Num
open RowKit YtocpcnmnhckcpaaGreatW.PrintWords YtocpcnmnhckcpaaGreatW.PrintLast YtocpcnmnhckcpaaGreatW.PrintMore YtocpcnmnhckcpaaGreat.Prt YtocpcnmnhckcpaaGreat.Nam
theorem R_off' {α:Type} {d:Kd α} {e N B:Nat} {w w':World} {v:Value} {l:List α} (h:d.R e w N (fun _=>True) v l) (hB:B < N) (hk:KeepBut w w' B none):d.R e w' N (fun _=>True) v l:=
 Kd.R_mono (Kd.R_keep (Kd.R_bound h) hk (fun k hk=>by have:=hk.2.1;omega)) (fun _ _=>trivial)
theorem R_set {α:Type} {d:Kd α} {e N t E:Nat} {w:World} {v:Value} {l:List α} {cells:Array Value} (h:d.R e w N (fun _=>True) v l) (hb:w.heap[E]? = some (.cells cells t (0,0))) (ht:∀ q,q ∈ e :: d.E→q≠t) (i:Nat) (u:Value):d.R e (w.setCell ⟨E,i,none⟩ u) N (fun _=>True) v l:=
 Kd.R_mono (Kd.R_far (p:=⟨E,i,none⟩) (Kd.R_types h hb ht) (fun k hk=>hk.2) u) (fun _ _=>trivial)
theorem Rd.grown {T:Nat} {P:Nat→Prop} {W W1:World} {g:Nat} {l:List Int} {bad:Bool} {row:Option Nat} (h:Rd T P W g l bad) (hg:W.grownBy W1 row) (hne:some g≠row) (hP:∀ k,P k→some k≠row):Rd T P W1 g l bad:=by
 obtain ⟨A,c,h1,h2,h3,h4,h5⟩:=h
 refine ⟨A,c,blk_grown h1 hg hne,h2,?_,h4,h5⟩
 cases row with
 | none=>
  have hk:KeepBut W W1 g none:=KeepBut.of_grown hg g
  exact Kd.C_keep (0:Int) h3 hk (fun ad e hn he=>h5 (he ▸ h4 ad e hn))
 | some b=>
  have hk:KeepBut W W1 b none:=⟨hg.size,fun i hi hb _=>hg.block i hi (by simpa using hb)⟩
  exact Kd.C_keep (0:Int) h3 hk (fun ad e hn he=>by have:=hP _ (h4 ad e hn);rw [he] at this;exact this rfl)
theorem blk_ne {w:World} {a b t u:Nat} {cs ds:Array Value} (h:w.heap[a]? = some (.cells cs t (0,0))) (h2:w.heap[b]? = some (.cells ds u (0,0))) (ht:t≠u):a≠b:=by
 rintro rfl
 rw [h] at h2
 injection h2 with h2
 injection h2 with _ h3
 exact ht h3
theorem ne_base {N g:Nat} {v:Value} (hb:∀ k,v.ownBlock=some k→N≤k) (hg:g < N):some g≠v.ownBlock:=fun e=>by have:=hb g e.symm;omega
theorem info_str:(Tryz.prog.info? 9).map (fun i=>(i.zero,i.size,i.bytes))=some (some (.string ⟨#[]⟩),1,16):=by kernel_rfl
theorem aftT_bytes {l:List Int} (h:isBytes l):isBytes (aftT l):=by
 unfold aftT
 cases hd:decT l with
 | none=>intro c hc;simp at hc
 | some q=>
  obtain ⟨s,r⟩:=q
  have:=(decT_sound h hd).1
  rw [this] at h
  exact (isBytes_append.1 h).2
theorem aft_len (l:List Int) (hb:isBytes l):(aft l).length≤l.length:=by
 unfold aft
 cases hd:dec l with
 | none=>simp
 | some q=>
  obtain ⟨x,r⟩:=q
  have:=(dec_sound hb hd).1
  rw [this];simp
theorem aftT_len (l:List Int) (hb:isBytes l):(aftT l).length≤l.length:=by
 unfold aftT
 cases hd:decT l with
 | none=>simp
 | some q=>
  obtain ⟨x,r⟩:=q
  have:=(decT_sound hb hd).1
  rw [this];simp
theorem textOf_size (l:List Int) (hb:isBytes l):(textOf l).size≤l.length:=by
 unfold textOf
 cases hd:decT l with
 | none=>exact Nat.zero_le _
 | some q=>
  obtain ⟨x,r⟩:=q
  have h1:=(decT_sound hb hd).1
  have h2:(strOfNums x).size=x.length:=strOfNums_size' x
  show (strOfNums x).size≤_
  rw [h2,h1];unfold encT;simp;omega
def Out (w w':World) (P:Nat→Prop) (g:Nat) (l:List Int) (b:Bool):Prop:=Rd 85 P w' g l b∧Below g w w'∧KeepBut w w' g none
theorem Out.set {w w':World} {P:Nat→Prop} {g:Nat} {l:List Int} {bad:Bool} (h:Out w w' P g l bad) (hg:g < w.heap.size) (hP:∀ k,P k→k < w.heap.size) {Q:Nat} (hQ:w.heap.size≤Q) (i:Nat) (u:Value):Out w (w'.setCell ⟨Q,i,none⟩ u) P g l bad:=
 ⟨h.1.kept ((KeepBut.refl w' Q none).set_ i _) (by omega) (fun hp=>by have:=hP Q hp;omega),h.2.1.setCell (p:=⟨Q,i,none⟩) (by show g≤Q;omega) _,keep_far h.2.2 hQ _⟩
def takeTs:Nat→List Int→Bool→List ByteArray × List Int × Bool
 | 0,l,b=>([],l,b)
 | n+1,l,b=>((takeTs n l b).1++[textOf (takeTs n l b).2.1],aftT (takeTs n l b).2.1,badT (takeTs n l b).2.1 (takeTs n l b).2.2)
theorem takeTs_len (l:List Int) (b:Bool):∀ n,(takeTs n l b).1.length=n
 | 0=>rfl
 | n+1=>by simp only [takeTs,List.length_append,List.length_singleton,takeTs_len l b n]
theorem takeTs_left (l:List Int) (b:Bool) (hb:isBytes l):∀ n,isBytes (takeTs n l b).2.1∧(takeTs n l b).2.1.length≤l.length∧∀ x ∈ (takeTs n l b).1,x.size≤l.length
 | 0=>⟨hb,Nat.le_refl _,fun x hx=>by simp [takeTs] at hx⟩
 | n+1=>by
  obtain ⟨h1,h2,h3⟩:=takeTs_left l b hb n
  refine ⟨aftT_bytes h1,Nat.le_trans (aftT_len _ h1) h2,fun x hx=>?_⟩
  simp only [takeTs] at hx
  rcases List.mem_append.1 hx with hx | hx
  ·exact h3 x hx
  ·rw [List.mem_singleton.1 hx];exact Nat.le_trans (textOf_size _ h1) h2
end Go.Proofs.YtocpcnmnhckcpaaGreat.Num
namespace Go.Proofs.YtocpcnmnhckcpaaGreat.Prt
open RowKit YtocpcnmnhckcpaaGreatW.PrintWords YtocpcnmnhckcpaaGreatW.PrintLast YtocpcnmnhckcpaaGreatW.PrintMore YtocpcnmnhckcpaaGreat.Num YtocpcnmnhckcpaaGreat.Nam
theorem numOf_good {l:List Int} {b:Bool} (hb:isBytes l) (h:badOf l b=false):b=false∧l=enc (numOf l)++aft l∧i64 (numOf l):=by
 unfold badOf at h
 cases hd:dec l with
 | none=>rw [hd] at h;simp at h
 | some q=>
  obtain ⟨x,r⟩:=q
  rw [hd] at h
  obtain ⟨h1,h2⟩:=dec_sound hb hd
  have e1:numOf l=x:=by unfold numOf;rw [hd]
  have e2:aft l=r:=by unfold aft;rw [hd]
  rw [e1,e2]
  exact ⟨by simpa using h,h1,h2⟩
theorem textOf_good {l:List Int} {b:Bool} (hb:isBytes l) (h:badT l b=false):b=false∧l=encT (bytesOf (textOf l))++aftT l:=by
 unfold badT at h
 cases hd:decT l with
 | none=>rw [hd] at h;simp at h
 | some q=>
  obtain ⟨x,r⟩:=q
  rw [hd] at h
  obtain ⟨h1,h2⟩:=decT_sound hb hd
  have hx:isBytes x:=by rw [h1] at hb;unfold encT at hb;exact (isBytes_append.1 (isBytes_append.1 hb).1).2
  have e1:textOf l=strOfNums x:=by unfold textOf;rw [hd]
  have e2:aftT l=r:=by unfold aftT;rw [hd]
  rw [e1,e2,bytesOf_strOfNums hx]
  exact ⟨by simpa using h,h1⟩
theorem textOf_enc {s:ByteArray} (hs:s.size≤9223372036854775807) (r:List Int) (b:Bool):textOf (encT (bytesOf s)++r)=s∧aftT (encT (bytesOf s)++r)=r∧badT (encT (bytesOf s)++r) b=b:=by
 unfold textOf aftT badT
 rw [decT_encT (by rw [bytes_length];exact hs)]
 exact ⟨strOfNums_bytesOf s,rfl,by simp⟩
theorem numOf_enc {x:Int} (h:i64 x) (r:List Int) (b:Bool):numOf (enc x++r)=x∧aft (enc x++r)=r∧badOf (enc x++r) b=b:=by
 unfold numOf aft badOf
 rw [dec_enc h]
 exact ⟨rfl,rfl,by simp⟩
theorem encTs_snoc (a:List ByteArray) (x:ByteArray):encTs (a++[x])=encTs a++encT (bytesOf x):=by unfold encTs;simp
theorem takeTs_good (l:List Int) (b:Bool) (hb:isBytes l):∀ n,(takeTs n l b).2.2=false→b=false∧l=encTs (takeTs n l b).1++(takeTs n l b).2.1
 | 0,h=>⟨h,rfl⟩
 | n+1,h=>by
  simp only [takeTs] at h ⊢
  obtain ⟨h1,h2⟩:=textOf_good (takeTs_left l b hb n).1 h
  obtain ⟨h3,h4⟩:=takeTs_good l b hb n h1
  refine ⟨h3,?_⟩
  rw [encTs_snoc,List.append_assoc,←h2];exact h4
theorem takeTs_enc (a:List ByteArray) (ha:∀ x ∈ a,x.size≤9223372036854775807) (r:List Int) (b:Bool):∀ n,n≤a.length→takeTs n (encTs a++r) b=(a.take n,encTs (a.drop n)++r,b)
 | 0,_=>by simp [takeTs]
 | n+1,h=>by
  have ih:=takeTs_enc a ha r b n (by omega)
  have hd:=drop_rd a n (by omega)
  have hx:=ha _ (rdOf_mem (l:=a) (i:=n) (by omega))
  simp only [takeTs,ih]
  have e:encTs (a.drop n)++r=encT (bytesOf (rdOf ByteArray.empty a (n:Int)))++(encTs (a.drop (n+1))++r):=by
   rw [hd];unfold encTs;rw [List.flatMap_cons,List.append_assoc]
  rw [e]
  obtain ⟨h1,h2,h3⟩:=textOf_enc hx (encTs (a.drop (n+1))++r) b
  rw [h1,h2,h3]
  refine Prod.ext ?_ rfl
  show a.take n++[rdOf ByteArray.empty a (n:Int)]=a.take (n+1)
  rw [List.take_succ_eq_append_getElem (by omega)]
  unfold rdOf
  rw [Int.toNat_natCast,List.getD_eq_getElem?_getD,List.getElem?_eq_getElem (by omega)];rfl
theorem bytes_eq {a b:List Int} (ha:isBytes a) (hb:isBytes b):((strOfNums a).toList == (strOfNums b).toList)=decide (a=b):=str_beq ha hb
theorem equal_calls (A:Option Addr) (c:Nat) (l:List Int) (A':Option Addr) (c':Nat) (l':List Int) (w:World) (hr:Kd.C (Kd.int .u8) w A l.length l) (hc:l.length≤c) (hr':Kd.C (Kd.int .u8) w A' l'.length l') (hc':l'.length≤c') (hb:isBytes l) (hb':isBytes l') :
  Calls Tryz.prog 22 #[.slice A l.length c,.slice A' l'.length c'] w fun e w'=>e = .returned (.bool (decide (l=l')))∧w=w':=by
 have HR:=Ak hr
 have HR':=Ak hr'
 have HE:=Ak (bytes_eq hb hb')
 clear hr hr' hb hb' hc hc'
 go_enter Tryz.func22,Tryz.ntmps22
 go_wp2_with (first | ((with_reducible refine gate_dst (N:=6) rfl ?_);(try (refine gate_guard (by rfl) ?_;dsimp only));refine Gen.ev_string' (strOfNums l) rfl 23 9 5 (.tmp 5) rfl Tryz.underlying23 Tryz.underlying9 Tryz.underlying5 rfl HR.out rfl ?_) | ((with_reducible refine gate_dst (N:=8) rfl ?_);(try (refine gate_guard (by rfl) ?_;dsimp only));refine Gen.ev_string' (strOfNums l') rfl 23 9 5 (.tmp 7) rfl Tryz.underlying23 Tryz.underlying9 Tryz.underlying5 rfl HR'.out rfl ?_))
 go_ret
 exact ⟨by rw [←HE.out];rfl,rfl⟩
theorem S_set {α:Type} {d:Kd α} {e N t E:Nat} {w:World} {v:Value} {l:List α} {cells:Array Value} (h:Kd.S d e w N (fun _=>True) v l) (hb:w.heap[E]? = some (.cells cells t (0,0))) (ht:∀ q,q ∈ e :: d.E→q≠t) (i:Nat) (u:Value):Kd.S d e (w.setCell ⟨E,i,none⟩ u) N (fun _=>True) v l:=
 Kd.S_mono (Kd.S_far (p:=⟨E,i,none⟩) (Kd.S_types h hb ht) (fun k hk=>hk.2) u) (fun _ _=>trivial)
end Go.Proofs.YtocpcnmnhckcpaaGreat.Prt
