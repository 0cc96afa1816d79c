import Derived.Test.YtjeekocidaogoaaGreatDoorK7Addr
import Derived.Laws.Rows
import Derived.WalkLawsBesides
import Derived.Deep.LoopGhost
import Derived.Deep.RegionLaw
import Derived.Deep.RegionHeld3
import Derived.Test.YtjeekocidaogoaaGreatDoorProg
import Derived.KernelRfl
import Derived.Deep.QuietTactic
import Derived.Deep.RegionWith
import Derived.BigQuiet
import Derived.Lib.AppendStr
import Derived.Test.YtjeekocidaogoaaGreatDoorK7Hx9
import Derived.Test.YtjeekocidaogoaaGreatDoorK7Hx5
import Derived.Test.YtjeekocidaogoaaGreatDoorK7Mut
import Derived.Lib.ItoaLen
import Derived.Lib.ConvBytes
set_option linter.unusedVariables false
set_option linter.unusedSimpArgs false
set_option maxRecDepth 100000
set_option maxHeartbeats 8000000
open Go.Proofs.Tryz
namespace Go.Proofs.YtjeekocidaogoaaGreatDoor.Hand
open Go.RowKit Go.Proofs.YtjeekocidaogoaaGreatDoorW.PrintWords Go.Proofs.YtjeekocidaogoaaGreatDoorW.PrintLast Go.Proofs.YtjeekocidaogoaaGreatDoorW.PrintMore
section
theorem itoa_byte:∀ n:Fin 256,(Lib.itoa (n.val:Int)).length<=3:=by decide +kernel
theorem zfv {a:Int} (b:0<=a) (h1:a<256):(Lib.itoa a).length<=3:=by
 have:=itoa_byte ⟨a.toNat,kab⟩;rwa [show ((⟨a.toNat,kab⟩:Fin 256).val:Int)=a from by simp;omega] at this
abbrev tB (l:List UInt8):ByteArray:=⟨l.toArray⟩
def zto (a b c d:Int):List UInt8:=Lib.join [Lib.itoa a,Lib.itoa b,Lib.itoa c,Lib.itoa d] [46]
theorem zpy {a b c d:Int} (a0:0<=a) (a1:a<256) (e:0<=b) (b1:b<256) (c0:0<=c) (c1:c<256) (d0:0<=d) (d1:d<256):(zto a b c d).length<=15:=by
 have h1:=zfv a0 a1;have i:=zfv e b1;have j:=zfv c0 c1;have k:=zfv d0 d1;unfold zto;simp [Lib.join];omega
theorem zfe (n:Int) (b : -9223372036854775808<=n) (h1:n<=9223372036854775807) (w:World) (c:Inv w) :
  Calls prog 102 #[.int .i64 n] w fun e w'=>e = .returned (.string (tB (Lib.itoa n)))/\Below w.heap.size w w':=by
 refine (Tryz.strconv_Itoa n b h1 w c.pow10).mono ?_;rintro e w' ⟨rfl,k,os,rfl⟩;exact ⟨rfl,zkd (qan _ _) (qad _) k os⟩
theorem zmx (a b c d:Int) (w:World) (ad:Inv w) (a0:0<=a) (a1:a<256) (M:0<=b) (b1:b<256) (c0:0<=c) (c1:c<256) (d0:0<=d) (d1:d<256) :
  Calls prog 197 #[.agg #[.int .u8 a,.int .u8 b,.int .u8 c,.int .u8 d]] w fun e w'=>e = .returned (.string (tB (zto a b c d)))/\Below w.heap.size w w':=by
 have HL:=zq (zpy a0 a1 M b1 c0 c1 d0 d1);have i0:∀ w,(Instr.index 184 (.agg #[.int .u8 a,.int .u8 b,.int .u8 c,.int .u8 d]) (.int .i64 0)).run prog w = .ok (.int .u8 a) w:=fun _=>by kernel_rfl
 have i1:∀ w,(Instr.index 184 (.agg #[.int .u8 a,.int .u8 b,.int .u8 c,.int .u8 d]) (.int .i64 1)).run prog w = .ok (.int .u8 b) w:=fun _=>by kernel_rfl
 have i2:∀ w,(Instr.index 184 (.agg #[.int .u8 a,.int .u8 b,.int .u8 c,.int .u8 d]) (.int .i64 2)).run prog w = .ok (.int .u8 c) w:=fun _=>by kernel_rfl
 have i3:∀ w,(Instr.index 184 (.agg #[.int .u8 a,.int .u8 b,.int .u8 c,.int .u8 d]) (.int .i64 3)).run prog w = .ok (.int .u8 d) w:=fun _=>by kernel_rfl
 have I:=zq ad;have Y:=zq (And.intro a0 a1);have HB:=zq (And.intro M b1);have Z:=zq (And.intro c0 c1);have HD:=zq (And.intro d0 d1);have wa:wrap64 a=a:=by unfold wrap64;omega
 have wb:wrap64 b=b:=by unfold wrap64;omega
 have wc:wrap64 c=c:=by unfold wrap64;omega
 have wd:wrap64 d=d:=by unfold wrap64;omega
 clear ad a0 a1 M b1 c0 c1 d0 d1;go_enter func197,ntmps197;go_wp2
 go_loopw [3,7] (fun v i wr=>∃ k:Nat,∃ v',k<=4/\v=v'/\i = .int .i64 k/\Zq (Row wr w.heap.size 9 1 v' k ((([Lib.itoa a,Lib.itoa b,Lib.itoa c,Lib.itoa d]:List (List UInt8)).take k).map fun l=>Value.string (tB l)))/\Zq (Below w.heap.size w wr)) (fun _ i _=>4-(intOf i).toNat)
 case atStart=>exact ⟨0,_,kab,rfl,rfl,⟨Row.nil _ _ _ _⟩,⟨(qan _ _).alloc (qad _) _⟩⟩
 case round=>
  obtain ⟨k,v,hk,rfl,rfl,p,m⟩:=hrel;obtain ⟨A,cap,rfl,a7,af⟩:=p.o.form;have HP:=zq af;clear af;have a8:k=0\/k=1\/k=2\/k=3\/k=4:=kab;rcases a8 with rfl|rfl|rfl|rfl|rfl
  ·go_wp2_with (first
    | (go_at_call 102;refine (zfe a (by have:=Y.o;omega) (by have:=Y.o;omega) _ (I.o.below (Below.trans ⟨rfl,rfl,rfl,qad _,fun _ _=>rfl⟩ m.o))).mono ?_;rintro J w1 ⟨rfl,n⟩;have y:=zq (p.o.frame (w1:=w1) fun g hg=>n.block g (p.o.blk hg).2.1);have am:=zq (zbb m.o (by have:=m.o.size;exact this) n);clear n p m)
    | ((with_reducible refine zas (b := .append) (xs:=#[.tmp 10,.tmp 14]) rfl ?_);at_builtin;refine zbi (w0:=w) w.heap.size rfl (.tmp 10) (.tmp 14) 25 9 (.string ⟨#[]⟩) 1 16 rfl rfl rfl rfl kad (.slice A 0 cap) 0 _ [.string (tB (Lib.itoa a))] rfl rfl rfl ?aU y.o kbu ?aM ?aL ?_;(case aU=>intro u hu;simp at hu;subst hu;rfl);(case aM=>simp only [maxLen];omega);(case aL=>omega);intro v1 X r z D E _;have B:=zq r;have aj:=zq (am.o.grown z kbu (fun q G=>(y.o.blk G).1));obtain ⟨L,O,rfl,U,-⟩:=r.form;clear r z D E))
   go_roundw
   case rel=>exact ⟨1,_,kab,rfl,by go_num,B,aj⟩
   case measure=>simp [intOf]
  ·go_wp2_with (first
    | (go_at_call 102;refine (zfe b (by have:=HB.o;omega) (by have:=HB.o;omega) _ (I.o.below (Below.trans ⟨rfl,rfl,rfl,qad _,fun _ _=>rfl⟩ m.o))).mono ?_;rintro J w1 ⟨rfl,n⟩;have y:=zq (p.o.frame (w1:=w1) fun g hg=>n.block g (p.o.blk hg).2.1);have am:=zq (zbb m.o (by have:=m.o.size;exact this) n);clear n p m)
    | ((with_reducible refine zas (b := .append) (xs:=#[.tmp 10,.tmp 14]) rfl ?_);at_builtin;refine zbi (w0:=w) w.heap.size rfl (.tmp 10) (.tmp 14) 25 9 (.string ⟨#[]⟩) 1 16 rfl rfl rfl rfl kad (.slice A 1 cap) 1 _ [.string (tB (Lib.itoa b))] rfl rfl rfl ?aU y.o kbu ?aM ?aL ?_;(case aU=>intro u hu;simp at hu;subst hu;rfl);(case aM=>simp only [maxLen];omega);(case aL=>omega);intro v1 X r z D E _;have B:=zq r;have aj:=zq (am.o.grown z kbu (fun q G=>(y.o.blk G).1));obtain ⟨L,O,rfl,U,-⟩:=r.form;clear r z D E))
   go_roundw
   case rel=>exact ⟨2,_,kab,rfl,by go_num,B,aj⟩
   case measure=>simp [intOf]
  ·go_wp2_with (first
    | (go_at_call 102;refine (zfe c (by have:=Z.o;omega) (by have:=Z.o;omega) _ (I.o.below (Below.trans ⟨rfl,rfl,rfl,qad _,fun _ _=>rfl⟩ m.o))).mono ?_;rintro J w1 ⟨rfl,n⟩;have y:=zq (p.o.frame (w1:=w1) fun g hg=>n.block g (p.o.blk hg).2.1);have am:=zq (zbb m.o (by have:=m.o.size;exact this) n);clear n p m)
    | ((with_reducible refine zas (b := .append) (xs:=#[.tmp 10,.tmp 14]) rfl ?_);at_builtin;refine zbi (w0:=w) w.heap.size rfl (.tmp 10) (.tmp 14) 25 9 (.string ⟨#[]⟩) 1 16 rfl rfl rfl rfl kad (.slice A 2 cap) 2 _ [.string (tB (Lib.itoa c))] rfl rfl rfl ?aU y.o kbu ?aM ?aL ?_;(case aU=>intro u hu;simp at hu;subst hu;rfl);(case aM=>simp only [maxLen];omega);(case aL=>omega);intro v1 X r z D E _;have B:=zq r;have aj:=zq (am.o.grown z kbu (fun q G=>(y.o.blk G).1));obtain ⟨L,O,rfl,U,-⟩:=r.form;clear r z D E))
   go_roundw
   case rel=>exact ⟨3,_,kab,rfl,by go_num,B,aj⟩
   case measure=>simp [intOf]
  ·go_wp2_with (first
    | (go_at_call 102;refine (zfe d (by have:=HD.o;omega) (by have:=HD.o;omega) _ (I.o.below (Below.trans ⟨rfl,rfl,rfl,qad _,fun _ _=>rfl⟩ m.o))).mono ?_;rintro J w1 ⟨rfl,n⟩;have y:=zq (p.o.frame (w1:=w1) fun g hg=>n.block g (p.o.blk hg).2.1);have am:=zq (zbb m.o (by have:=m.o.size;exact this) n);clear n p m)
    | ((with_reducible refine zas (b := .append) (xs:=#[.tmp 10,.tmp 14]) rfl ?_);at_builtin;refine zbi (w0:=w) w.heap.size rfl (.tmp 10) (.tmp 14) 25 9 (.string ⟨#[]⟩) 1 16 rfl rfl rfl rfl kad (.slice A 3 cap) 3 _ [.string (tB (Lib.itoa d))] rfl rfl rfl ?aU y.o kbu ?aM ?aL ?_;(case aU=>intro u hu;simp at hu;subst hu;rfl);(case aM=>simp only [maxLen];omega);(case aL=>omega);intro v1 X r z D E _;have B:=zq r;have aj:=zq (am.o.grown z kbu (fun q G=>(y.o.blk G).1));obtain ⟨L,O,rfl,U,-⟩:=r.form;clear r z D E))
   go_roundw
   case rel=>exact ⟨4,_,kab,rfl,by go_num,B,aj⟩
   case measure=>simp [intOf]
  obtain ⟨g,cur,rfl,ho,a6,hh,hm,hc,ht⟩:=HP.o kad;have HJ:Zq (Calls prog 217 #[.slice (some ⟨g,0,none⟩) 4 cap,.string ⟨#[46]⟩] wr fun e w'=>e = .returned (.string (tB (zto a b c d)))/\Below wr.heap.size wr w'):=
   ⟨Tryz.strings_Join g 0 cap [tB (Lib.itoa a),tB (Lib.itoa b),tB (Lib.itoa c),tB (Lib.itoa d)] ⟨#[46]⟩ wr (fun j x hj=>by
    rw [Nat.zero_add];refine p.o.cell ho j _ ?_;rw [List.take_of_length_le (by simp)];have:([Lib.itoa a,Lib.itoa b,Lib.itoa c,Lib.itoa d].map fun l=>Value.string (tB l))=[tB (Lib.itoa a),tB (Lib.itoa b),tB (Lib.itoa c),tB (Lib.itoa d)].map Value.string:=rfl;rw [this,List.getElem?_map,hj];rfl) (zam hh) (by simp) a7 (by have:=HL.o;exact qas this kad)⟩
  clear HP ho a6 hh hm hc ht p;go_wp2_with (go_at_call 217;refine HJ.o.mono ?_;rintro J w1 ⟨rfl,n⟩);go_ret;exact ⟨rfl,zbb m.o (by have:=m.o.size;exact this) n⟩
def zmr (n:Int):List UInt8:=zto (n/16777216%256) (n/65536%256) (n/256%256) (n%256)
theorem zmn (n:Int):(zmr n).length<=15:=zpy kab kab kab kab kab kab kab kab
def zgq (n:Int):List UInt8×Int:=if n<0\/4294967295<n then ([],1) else (zmr n,0)
def zez (a p:Int):List UInt8×Int:=if addr_right.f a p=some true then (zmr a++[47]++Lib.itoa p,0) else ([],1)
theorem print_calls (n:Int) (w:World) (c:Inv w) :
  Calls prog 170 #[.int .i64 n] w fun e w'=>e = .returned (.tuple #[.string (tB (zgq n).1),.int .i64 (zgq n).2])/\Below w.heap.size w w':=by
 have d:=zq c;clear c;by_cases h:n<0\/4294967295<n
 ·rw [show zgq n=([],1) from if_pos h];rcases h with h|h
  ·go_enter func170,ntmps170;go_wp2
   go_ret2
   exact ⟨rfl,qan _ _⟩
  have l:¬n<0:=kab;go_enter func170,ntmps170;go_wp2
  go_ret2
  exact ⟨rfl,qan _ _⟩
 rw [show zgq n=(zmr n,0) from if_neg h];have h1:¬n<0:=kab;have m:n<=4294967295:=kab;have p:¬4294967295<n:=kab;clear h;go_enter func170,ntmps170;go_wp2_with (first
  | (go_at_call 161;refine (zuu n _).mono ?_;rintro j w1 ⟨rfl,b⟩;unfold zku)
  | (go_at_call 197;refine (zmx (n/16777216%256) (n/65536%256) (n/256%256) (n%256) _ (d.o.below b) kab kab kab kab kab kab kab kab).mono ?_;rintro k q ⟨rfl,i⟩))
 go_ret2
 exact ⟨rfl,zbb b b.size i⟩
theorem text_held (n:Int) (w:World) (j:Inv w) (a p:Int) (W:World) (h:W.cell? ⟨w.heap.size,0,none⟩=some (.int .i64 a)/\W.cell? ⟨w.heap.size,1,none⟩=some (.int .i64 p)/\Below w.heap.size w W/\w.heap.size<W.heap.size) :
  Calls prog 197 #[zku n] W fun e w'=>e = .returned (.string (tB (zmr n)))/\w'.cell? ⟨w.heap.size,0,none⟩=some (.int .i64 a)/\w'.cell? ⟨w.heap.size,1,none⟩=some (.int .i64 p)/\Below w.heap.size w w'/\w.heap.size<w'.heap.size:=by
 obtain ⟨i,h1,c,d⟩:=h;exact (zmx (n/16777216%256) (n/65536%256) (n/256%256) (n%256) W (j.below c) kab kab kab kab kab kab kab kab).mono fun e w' ⟨k,b⟩=>⟨k,(b.cell (p:=⟨w.heap.size,0,none⟩) d).trans i,(b.cell (p:=⟨w.heap.size,1,none⟩) d).trans h1,c.trans (b.mono kab),by have:=b.size;omega⟩
theorem itoa_held (n:Int) (l:0<=n) (m:n<=32) (w:World) (j:Inv w) (a p:Int) (W:World) (h:W.cell? ⟨w.heap.size,0,none⟩=some (.int .i64 a)/\W.cell? ⟨w.heap.size,1,none⟩=some (.int .i64 p)/\Below w.heap.size w W/\w.heap.size<W.heap.size) :
  Calls prog 102 #[.int .i64 n] W fun e w'=>e = .returned (.string (tB (Lib.itoa n)))/\w'.cell? ⟨w.heap.size,0,none⟩=some (.int .i64 a)/\w'.cell? ⟨w.heap.size,1,none⟩=some (.int .i64 p)/\Below w.heap.size w w'/\w.heap.size<w'.heap.size:=by
 obtain ⟨i,h1,c,d⟩:=h;exact (zfe n kab kab W (j.below c)).mono fun e w' ⟨k,b⟩=>⟨k,(b.cell (p:=⟨w.heap.size,0,none⟩) d).trans i,(b.cell (p:=⟨w.heap.size,1,none⟩) d).trans h1,c.trans (b.mono kab),by have:=b.size;omega⟩
theorem tB_cat (x y z:List UInt8):tB x++tB y++tB z=tB (x++y++z):=by
 apply ByteArray.ext;simp
theorem prefix_calls (a p:Int) (w:World) (m:Inv w) :
  Calls prog 169 #[.agg #[.int .i64 a,.int .i64 p]] w fun e w'=>e = .returned (.tuple #[.string (tB (zez a p).1),.int .i64 (zez a p).2])/\Below w.heap.size w w':=by
 have i:=zq m;have hr:∃ b,addr_right.f a p=some b:=⟨_,rfl⟩;obtain ⟨b,hr⟩:=hr;have k:=zq (fun w=>addr_right.calls a p b w hr);have z:zez a p=if b=true then (zmr a++[47]++Lib.itoa p,0) else ([],1):=by unfold zez;rw [hr];simp
 rw [z];have hp:b=true->0<=p/\p<=32:=fun J=>by
  subst J;unfold addr_right.f at hr;by_cases d:0<=p/\p<=32/\0<=a/\a<=4294967295
  ·exact ⟨d.1,d.2.1⟩
  rw [if_neg d] at hr;simp at hr
 clear z hr m;cases b with
 | false=>
  clear hp;go_enter func169,ntmps169;go_wp2_with (go_at_call 129;refine (k.o _).mono ?_;rintro G w1 ⟨rfl,c⟩)
  go_ret2
  exact ⟨rfl,((qan _ _).alloc (qad _) _).trans (c.mono (by simp))⟩
 | true=>
  obtain ⟨p0,p1⟩:=hp rfl;clear hp;have r:(tB (zmr a)).size<=15:=zmn a;have u:(tB (Lib.itoa p)).size<=3:=zfv p0 kab;have l:=zq (fun W h=>text_held a w i.o a p W h);have j:=zq (fun W h=>itoa_held p p0 p1 w i.o a p W h);have q:tB (zmr a)++⟨#[47]⟩++tB (Lib.itoa p)=tB (zmr a++[47]++Lib.itoa p):=tB_cat _ [47] _;simp only [if_true];rw [<-q];clear q;generalize tB (zmr a)=x at r l ⊢;generalize tB (Lib.itoa p)=y at u j ⊢;have O:¬9223372036854775807<x.size+1:=kab;have U:¬9223372036854775807<x.size+1+y.size:=kab;clear r u p0 p1;go_enter func169,ntmps169;go_wp2_with (go_at_call 129;refine (k.o _).mono ?_;rintro G w1 ⟨rfl,c⟩);have I:Below w.heap.size w w1:=((qan _ _).alloc (qad _) _).trans (c.mono (by simp));have n:w1.cell? ⟨w.heap.size,0,none⟩=some (.int .i64 a):=(c.cell (p:=⟨w.heap.size,0,none⟩) (by simp)).trans (by simp [go_sem]);have L:w1.cell? ⟨w.heap.size,1,none⟩=some (.int .i64 p):=(c.cell (p:=⟨w.heap.size,1,none⟩) (by simp)).trans (by simp [go_sem]);have M:w.heap.size<w1.heap.size:=qbs _ _ n;clear c
  go_region_held3 (fun w'=>w'.cell? ⟨w.heap.size,0,none⟩=some (.int .i64 a)/\w'.cell? ⟨w.heap.size,1,none⟩=some (.int .i64 p)/\Below w.heap.size w w'/\w.heap.size<w'.heap.size)
   (first|exact ⟨n,L,I.trans ⟨rfl,rfl,rfl,qad _,fun _ _=>rfl⟩,M⟩|exact ⟨‹_›,‹_›,‹_›,‹_›⟩|go_keep)
   (first
    | (go_at_call 161;refine (zta _ w a p _ ?_).mono ?_;(first|assumption|exact ⟨‹_›,‹_›,‹_›,‹_›⟩);rintro e w' ⟨rfl,A,B,D,E⟩)
    | (go_at_call 197;refine (l.o _ ?_).mono ?_;(first|assumption|exact ⟨‹_›,‹_›,‹_›,‹_›⟩);rintro e w' ⟨rfl,A,B,D,E⟩)
    | (go_at_call 102;refine (j.o _ ?_).mono ?_;(first|assumption|exact ⟨‹_›,‹_›,‹_›,‹_›⟩);rintro e w' ⟨rfl,A,B,D,E⟩))
  all_goals go_wp2
  all_goals go_ret2
  all_goals exact ⟨rfl,by first|assumption|exact (by assumption:_/\_/\Below w.heap.size w _/\_).2.2.1⟩
end
section
structure PQ where
 o:List UInt8
 word:Bool
 bad:Bool
def bC (l:List UInt8):List Value:=l.map fun b=>Value.int .u8 b.toNat
theorem bC_length (l:List UInt8):(bC l).length=l.length:=qci ..
theorem zqg (a b:List UInt8):bC (a++b)=bC a++bC b:=List.map_append ..
theorem bC_str (s:ByteArray):Lib.strCells s=bC s.data.toList:=rfl
def PQ.must (ok:Bool) (s:PQ):PQ:=⟨s.o,s.word,s.bad||!ok⟩
def PQ.signs (t:List UInt8) (s:PQ):PQ:=⟨s.o++t,false,s.bad⟩
def PQ.one (t:List UInt8) (s:PQ):PQ:=⟨(if s.word=true then s.o++[32] else s.o)++t,true,s.bad⟩
def PQ.words (l:List (List UInt8)) (s:PQ):PQ:=l.foldl (fun s t=>s.one t) s
structure PrS (W0 W:World) (g:Nat) (s:PQ):Prop where
 src:∃ v,W.heap[g]?=some (.cells #[v,.bool s.word,.bool s.bad] 116 (0,0))/\W.ownsRow W0.heap.size 5 1 v s.o.length (bC s.o)
 low:W0.heap.size<=g
 bel:Below W0.heap.size W0 W
def Mine (W:World) (g k:Nat):Prop:=k=g\/∃ v a b,W.heap[g]?=some (.cells #[v,a,b] 116 (0,0))/\v.ownBlock=some k
structure Stp (W W':World) (g:Nat):Prop where
 fr:Fr W W' (Mine W g)
 mine:∀ k,Mine W' g k->Mine W g k\/W.heap.size<=k
section
variable {W0 W W1 W2:World} {g:Nat} {s:PQ}
theorem Stp.refl (W:World) (g:Nat):Stp W W g:=⟨Fr.refl _ _,fun k h => .inl h⟩
theorem Stp.trans (h:Stp W W1 g) (k:Stp W1 W2 g):Stp W W2 g:=
 ⟨h.fr.then_ k.fr h.mine,fun i hi=>by
  rcases k.mine i hi with h1|h1
  ·exact h.mine i h1
  exact .inr (qas h.fr.size h1)⟩
theorem Mine.of {k:Nat} (h:W1.heap[g]?=W.heap[g]?):Mine W1 g k↔Mine W g k:=by unfold Mine;rw [h]
theorem Stp.alloc (h:Stp W W1 g) (hg:g<W1.heap.size) (o:Obj):Stp W (W1.alloc o) g:=
 h.trans ⟨(Fr.refl _ _).alloc o,fun k hk => .inl ((Mine.of (qbm W1 o g hg)).1 hk)⟩
theorem Stp.undrew (h:Stp W.drew W1 g):Stp W W1 g:=⟨h.fr.undrew,h.mine⟩
theorem Stp.of_below (b:Below W.heap.size W W1) (hg:g<W.heap.size):Stp W W1 g:=⟨Fr.of_below b,fun k hk => .inl ((Mine.of (b.block g hg)).1 hk)⟩
theorem Stp.below (h:Stp W W1 g) (hg:g<W1.heap.size) (b:Below W1.heap.size W1 W2):Stp W W2 g:=h.trans (.of_below b hg)
theorem PrS.lt (h:PrS W0 W g s):g<W.heap.size:=by obtain ⟨v,h1,_⟩:=h.src;exact zam h1
theorem PrS.move (h:PrS W0 W g s) (c:∀ k,Mine W g k->k<W.heap.size->W1.heap[k]?=W.heap[k]?) (d:Below W0.heap.size W0 W1):PrS W0 W1 g s:=by
 obtain ⟨v,h1,b⟩:=h.src;refine ⟨⟨v,(c g (.inl rfl) (zam h1)).trans h1,zjg b fun k hk=>c k (.inr ⟨v,_,_,h1,hk⟩) (zut b k hk)⟩,h.low,d⟩
theorem PrS.size (h:PrS W0 W g s):W0.heap.size<=W.heap.size:=h.bel.size
theorem PrS.below (h:PrS W0 W g s) (b:Below W.heap.size W W1):PrS W0 W1 g s:=
 h.move (fun k _ hk=>b.block k hk) (zbb h.bel h.size b)
theorem PrS.alloc (h:PrS W0 W g s) (o:Obj):PrS W0 (W.alloc o) g s:=h.below (zad (qan _ _) o)
theorem PrS.drewN (h:PrS W0 W g s) (n:Nat):PrS W0 (W.drewN n) g s:=⟨h.src,h.low,zaa h.bel n⟩
theorem PrS.drew (h:PrS W0 W g s):PrS W0 W.drew g s:=⟨h.src,h.low,zae h.bel⟩
theorem PrS.not_mine (h:PrS W0 W g s) {b t:Nat} {cs:Array Value} (i:W.heap[b]?=some (.cells cs t (0,0))) (h1:t≠5) (j:t≠116):¬Mine W g b:=by
 obtain ⟨u,d,k⟩:=h.src;rintro (rfl|⟨v,a,c,l,m⟩)
 ·rw [i] at d;simp only [qai,Obj.cells.injEq] at d;exact j d.2.1
 rw [l] at d;simp only [qai,Obj.cells.injEq,Array.mk.injEq,List.cons.injEq] at d;obtain ⟨⟨rfl,_⟩,_⟩:=d;obtain ⟨cells,e⟩:=zgc k b m;rw [i] at e;simp only [qai,Obj.cells.injEq] at e;exact h1 e.2.1
theorem Stp.keep (hs:Stp W W1 g) (h:PrS W0 W g s) {b t:Nat} {cs:Array Value} (c:W.heap[b]?=some (.cells cs t (0,0))) (h1:t≠5) (d:t≠116):W1.heap[b]?=some (.cells cs t (0,0)):=
 hs.fr.blk c (h.not_mine c h1 d)
theorem PrS.facts (h:PrS W0 W g s):∃ A c,W.cell? ⟨g,0,none⟩=some (.slice A s.o.length c)/\W.cell? ⟨g,1,none⟩=some (.bool s.word)/\W.cell? ⟨g,2,none⟩=some (.bool s.bad)/\W.frozen? ⟨g,0,none⟩=false/\W.frozen? ⟨g,1,none⟩=false/\W.frozen? ⟨g,2,none⟩=false /\
  W.ownsRow W0.heap.size 5 1 (.slice A s.o.length c) s.o.length (bC s.o)/\(∃ x y,W.heap[g]?=some (.cells #[.slice A s.o.length c,x,y] 116 (0,0))):=by
 obtain ⟨v,h1,b⟩:=h.src;have hf:∃ A c,v = .slice A s.o.length c:=by
  rcases b.2 with ⟨rfl,d⟩|⟨e,cap,cur,rfl,_⟩
  ·exact ⟨none,0,by rw [d]⟩
  exact ⟨_,_,rfl⟩
 obtain ⟨A,c,rfl⟩:=hf;exact ⟨A,c,zab h1 0,zab h1 1,zab h1 2,zac h1 0,zac h1 1,zac h1 2,b,_,_,h1⟩
theorem PrS.put_bad (h:PrS W0 W g s) (b:Bool):PrS W0 (W.setCell ⟨g,2,none⟩ (.bool b)) g ⟨s.o,s.word,b⟩/\Stp W (W.setCell ⟨g,2,none⟩ (.bool b)) g:=by
 obtain ⟨v,h1,j⟩:=h.src;have l:(W.setCell ⟨g,2,none⟩ (.bool b)).heap[g]?=some (.cells #[v,.bool s.word,.bool b] 116 (0,0)):=zan h1 2 _ rfl;have n:v.ownBlock≠some g:=fun e=>by
  obtain ⟨cs,d⟩:=zgc j g e;rw [h1] at d;simp only [qai,Obj.cells.injEq] at d;exact absurd d.2.1 kad
 refine ⟨⟨⟨v,l,zjg j fun k hk=>qbn W _ _ k (fun e=>n (by rw [hk,e]))⟩,h.low,h.bel.setCell h.low _⟩,Fr.setCell (Fr.refl _ _) (.inl (.inl rfl)) _,fun k hk=>?_⟩;rcases hk with rfl|⟨u,a,c,i,m⟩
 ·exact .inl (.inl rfl)
 rw [l] at i;simp only [qai,Obj.cells.injEq,Array.mk.injEq,List.cons.injEq] at i;obtain ⟨⟨rfl,_⟩,_⟩:=i;exact .inl (.inr ⟨_,_,_,h1,m⟩)
theorem PrS.put_word (h:PrS W0 W g s) (b:Bool):PrS W0 (W.setCell ⟨g,1,none⟩ (.bool b)) g ⟨s.o,b,s.bad⟩/\Stp W (W.setCell ⟨g,1,none⟩ (.bool b)) g:=by
 obtain ⟨v,h1,j⟩:=h.src;have l:(W.setCell ⟨g,1,none⟩ (.bool b)).heap[g]?=some (.cells #[v,.bool b,.bool s.bad] 116 (0,0)):=zan h1 1 _ rfl;have n:v.ownBlock≠some g:=fun e=>by
  obtain ⟨cs,d⟩:=zgc j g e;rw [h1] at d;simp only [qai,Obj.cells.injEq] at d;exact absurd d.2.1 kad
 refine ⟨⟨⟨v,l,zjg j fun k hk=>qbn W _ _ k (fun e=>n (by rw [hk,e]))⟩,h.low,h.bel.setCell h.low _⟩,Fr.setCell (Fr.refl _ _) (.inl (.inl rfl)) _,fun k hk=>?_⟩;rcases hk with rfl|⟨u,a,c,i,m⟩
 ·exact .inl (.inl rfl)
 rw [l] at i;simp only [qai,Obj.cells.injEq,Array.mk.injEq,List.cons.injEq] at i;obtain ⟨⟨rfl,_⟩,_⟩:=i;exact .inl (.inr ⟨_,_,_,h1,m⟩)
theorem PrS.put_out (h:PrS W0 W g s) {v v1 x y:Value} (h1:W.heap[g]?=some (.cells #[v,x,y] 116 (0,0))) {t:List UInt8} (m:W1.ownsRow W0.heap.size 5 1 v1 (s.o++t).length (bC (s.o++t))) (hg:W.grownBy W1 v.ownBlock)
  (r:∀ k,v1.ownBlock=some k->v.ownBlock=some k\/W.heap.size<=k):W1.cell? ⟨g,0,none⟩=some v/\W1.frozen? ⟨g,0,none⟩=false/\Zq (PrS W0 (W1.setCell ⟨g,0,none⟩ v1) g ⟨s.o++t,s.word,s.bad⟩/\Stp W (W1.setCell ⟨g,0,none⟩ v1) g):=by
 obtain ⟨u,d,n⟩:=h.src;rw [h1] at d;simp only [qai,Obj.cells.injEq,Array.mk.injEq,List.cons.injEq] at d;obtain ⟨⟨rfl,rfl,rfl,_⟩,_⟩:=d;have z:v.ownBlock≠some g:=fun e=>by
  obtain ⟨cs,b⟩:=zgc n g e;rw [h1] at b;simp only [qai,Obj.cells.injEq] at b;exact absurd b.2.1 kad
 have b:W1.heap[g]?=_:=(hg.block g (zam h1) (fun e=>z e.symm)).trans h1;have A:v1.ownBlock≠some g:=fun e=>by
  obtain ⟨cs,i⟩:=zgc m g e;rw [b] at i;simp only [qai,Obj.cells.injEq] at i;exact absurd i.2.1 kad
 have p:(W1.setCell ⟨g,0,none⟩ v1).heap[g]?=some (.cells #[v1,.bool s.word,.bool s.bad] 116 (0,0)):=zan b 0 v1 (by rcases m.2 with ⟨rfl,_⟩|⟨_,_,_,rfl,_⟩<;>rfl);have w:Below W0.heap.size W0 W1:=h.bel.grown hg h.size (zkz n);refine ⟨zab b 0,zac b 0,⟨⟨⟨v1,p,zjg m fun k hk=>qbn W1 _ _ k (fun e=>A (by rw [hk,e]))⟩,h.low,w.setCell h.low _⟩,Fr.setCell ((Fr.of_grown (S:=fun k=>some k=v.ownBlock) hg fun k hk=>hk.symm).mono (fun k hk => .inl (.inr ⟨v,_,_,h1,hk.symm⟩))) (.inl (.inl rfl)) _,fun k hk=>?_⟩⟩;rcases hk with rfl|⟨u,a,c,j,q⟩
 ·exact .inl (.inl rfl)
 rw [p] at j;simp only [qai,Obj.cells.injEq,Array.mk.injEq,List.cons.injEq] at j;obtain ⟨⟨rfl,_⟩,_⟩:=j;rcases r k q with l|l
 ·exact .inl (.inr ⟨v,_,_,h1,l⟩)
 exact .inr l
end
section
variable {P:Program} {W:World}
theorem append_str_at (base:Nat) (t u ty e:TypeId) (i:TypeInfo) (ht:P.underlying t=some (.slice e)) (hu:P.underlying u=some .string) (hi:P.info? e=some i) (q:i.zero=some (.int .u8 0))
  (l:i.size=1) (o:i.bytes=1) (v:Value) (n:Nat) (xs:List Value) (d:W.ownsRow base e 1 v n xs) (s:ByteArray) (m:n+s.size<=maxLen) (A:n+s.size<=140737488355328)
  {r:Value} {w':World} (hr:(Builtin.append_ #[t,u] ty #[v,.string s]).run P W = .ok r w'):∀ k,r.ownBlock=some k->v.ownBlock=some k\/W.heap.size<=k:=by
 have y:xs.length=n:=by simpa using d.1
 rcases d.2 with ⟨rfl,rfl⟩|⟨g,cap,cur,rfl,z,hg,E,B,w,G⟩
 ·by_cases p:s.size=0
  ·have hf:=Lib.run_firstCells_string (P:=P) W 1 s;rw [p] at hf;have b:(Builtin.append_ #[t,u] ty #[.slice none 0 0,.string s]).run P W = .ok (.slice none 0 0) W:=by
    simp [Builtin.append_,run_underlying ht,run_underlying hu,sizeOf,typeInfo,hi,l,Builtin.lenOf,p,hf]
   rw [b] at hr;injection hr with h1 c;subst h1;intro k hk;simp [Value.ownBlock] at hk
  have b:=run_append_nil_string (P:=P) W t u ty e i (.int .u8 0) ht hu hi q s kab (by simp only [maxLen] at m;omega) (by rw [o];omega);rw [b] at hr;injection hr with h1 c;subst h1;intro k hk;simp [Value.ownBlock] at hk;exact .inr kab
 by_cases x:n+s.size<=cap
 ·have D:cur.size=cap:=by simpa using w
  have b:=Lib.run_append_room_string (P:=P) W t u ty e i ht hu hi l g n cap cur hg s x kab;rw [b] at hr;injection hr with h1 c;subst h1;intro k hk;exact .inl hk
 have holds:∀ j u,xs[j]?=some u->W.cell? ((⟨g,0,none⟩:Addr).add j)=some u:=d.cells (g:=g) rfl;have b:=Lib.run_append_grow_string (P:=P) W t u ty e i (.int .u8 0) ht hu hi q ⟨g,0,none⟩ n cap xs (by rw [l];simpa using y) holds s kab (by simp only [maxLen] at m;omega) (by rw [o];exact growslice_fits kab kab);rw [b] at hr;injection hr with h1 c;subst h1;intro k hk;simp [Value.ownBlock] at hk;exact .inr kab
theorem zpo {w:World} {base:Nat} {e:TypeId} {size n:Nat} {v:Value} {xs:List Value} (h:w.ownsRow base e size v n xs):∃ A n c,v = .slice A n c:=by
 rcases h.2 with ⟨rfl,_⟩|⟨g,cap,cur,rfl,_⟩
 ·exact ⟨_,_,_,rfl⟩
 exact ⟨_,_,_,rfl⟩
theorem zgs {ops:Array Oper} {rest:List Oper} {o:Oper} {a:Act} {Q:Exit->Act->World->Prop} {W0:World} {g:Nat} {s:PQ} (H:Zq (PrS W0 W g s)) (D:o.guard=none) (sl x:Operand) (t u e:TypeId)
  (I:o.op = .call { callee := .builtin .append,args:=#[sl,x],argTypes:=#[t,u] })
  (ht:P.underlying t=some (.slice e)) (hu:P.underlying u=some .string) (E:(P.info? e).map (fun i=>(i.zero,i.size,i.bytes))=some (some (.int .u8 0),1,1)) (B:e=5)
  (v:Value) (y:ByteArray) (hs:a.eval sl=v) (M:a.eval x = .string y) (J:W.cell? ⟨g,0,none⟩=some v) (k:s.o.length+y.size<=140737488355328)
  (h:∀ b d c1 w1,w1.cell? ⟨g,0,none⟩=some v->w1.frozen? ⟨g,0,none⟩=false->Zq (PrS W0 (w1.setCell ⟨g,0,none⟩ (.slice b d c1)) g ⟨s.o++y.data.toList,s.word,s.bad⟩/\Stp W (w1.setCell ⟨g,0,none⟩ (.slice b d c1)) g)->wpList P ops Q rest (a.put o.dst (.slice b d c1)) w1):wpList P ops Q (o::rest) a W:=by
 subst B;obtain ⟨A,c,c0,c1,c2,f0,f1,f2,l,x',y',h1⟩:=H.o.facts;have L:v = .slice A s.o.length c:=qaa (J.symm.trans c0);subst L;obtain ⟨i0,hi,q⟩:=qbu.1 E;simp only [qap] at q;obtain ⟨m,n,p⟩:=q;refine wpList_plain D fun K w=>?_;obtain ⟨Y,w',hr,j,r,Z⟩:=Lib.run_append_own_string (P:=P) W W0.heap.size t u o.type 5 i0 ht hu hi m n p _ s.o.length (bC s.o) l y (by simp only [maxLen];omega) k H.o.size;have z:=append_str_at (P:=P) W0.heap.size t u o.type 5 i0 ht hu hi m n p _ s.o.length (bC s.o) l y (by simp only [maxLen];omega) k hr;unfold Oper.wp execOp;simp only [I,resolve,invoke,builtin,Sem.run_bind,Sem.run_pure,Result.andThen_ok,List.map_toArray,qcf,List.map_nil,hs,M,hr];have G:(s.o++y.data.toList).length=s.o.length+y.size:=by rw [qal,Array.length_toList];rfl
 obtain ⟨O,U,X⟩:=H.o.put_out h1 (t:=y.data.toList) (v1:=Y) (by rw [G,zqg,<-bC_str];exact j) r z;obtain ⟨b,d,c1,rfl⟩:=zpo j;exact w _ _ (h b d c1 w' O U X)
theorem pr_append_byte {ops:Array Oper} {rest:List Oper} {o:Oper} {a:Act} {Q:Exit->Act->World->Prop} {W0:World} {g:Nat} {s:PQ} (H:Zq (PrS W0 W g s)) (u:o.guard=none) (sl x:Operand) (t e:TypeId)
  (y:o.op = .call { callee := .builtin .append,args:=#[sl,x],argTypes:=#[t,t] })
  (ht:P.underlying t=some (.slice e)) (w:(P.info? e).map (fun i=>(i.zero,i.size,i.bytes))=some (some (.int .u8 0),1,1)) (p:e=5)
  (v:Value) (b:UInt8) (z:Int) (I:z=(b.toNat:Int)) (hs:a.eval sl=v) (G:a.eval x = .slice (some ⟨W.heap.size,0,none⟩) 1 1) (D:W.cell? ⟨g,0,none⟩=some v) (U:s.o.length+1<=140737488355328)
  (h:∀ d j c1 w1,w1.cell? ⟨g,0,none⟩=some v->w1.frozen? ⟨g,0,none⟩=false->Zq (PrS W0 (w1.setCell ⟨g,0,none⟩ (.slice d j c1)) g ⟨s.o++[b],s.word,s.bad⟩/\Stp W (w1.setCell ⟨g,0,none⟩ (.slice d j c1)) g)->wpList P ops Q rest (a.put o.dst (.slice d j c1)) w1):wpList P ops Q (o::rest) a (W.alloc (.cells #[.int .u8 z] e)):=by
 subst p;subst I;obtain ⟨A,c,c0,c1,c2,f0,f1,f2,B,Y,Z,h1⟩:=H.o.facts;have E:v = .slice A s.o.length c:=qaa (D.symm.trans c0);subst E;have l:(bC s.o).length=s.o.length:=bC_length _;refine print_append (w0:=W0) W0.heap.size u sl x t 5 (.int .u8 0) 1 y ht w rfl kad _ (bC s.o) (.int .u8 (b.toNat:Int)) hs G rfl (by rw [l];exact B) H.o.bel H.o.size (by rw [l];omega) fun v1 w1 m O r n=>?_;obtain ⟨J,L,M⟩:=H.o.put_out h1 (t:=[b]) (v1:=v1) (W1:=w1) (by rw [zqg];rw [qal,l] at m;rw [qal];exact m) r fun k hk=>by
  rcases n with e|⟨q,e,X⟩
  ·exact .inl (e ▸ hk)
  rw [e] at hk;exact .inr (by have:=qaa hk;omega)
 obtain ⟨d,j,c1,rfl⟩:=zpo m;exact h d j c1 w1 J L M
end
def PrE (W0 W:World) (g:Nat) (s:PQ) (e:Ending) (W':World):Prop:=e = .returned (.tuple #[])/\PrS W0 W' g s/\Stp W W' g
theorem zbu (W0 W:World) (g:Nat) (s:PQ) (b:Bool) (h:PrS W0 W g s) :
  Calls prog 65 #[.pointer (some ⟨g,0,none⟩),.bool b] W (PrE W0 W g (s.must b)):=by
 obtain ⟨A,c,c0,c1,c2,f0,f1,f2,-,-⟩:=h.facts;have H:=zq (h.put_bad (s.bad||!b));obtain ⟨out,word,bad⟩:=s;clear h;cases bad<;>cases b;all_goals
  go_enter func65,ntmps65;go_wp2;first|go_end0|(refine qaf (qbb rfl _ _ _) rfl ?_)
  exact ⟨rfl,H.o.1,H.o.2⟩
theorem zdi (W0 W:World) (g:Nat) (s:PQ) (h:PrS W0 W g s) (b:s.o.length<=140737488355328) :
  Calls prog 66 #[.pointer (some ⟨g,0,none⟩)] W fun e W'=>e = .returned (.bool (decide (8000<s.o.length)))/\W'=W:=by
 obtain ⟨A,c,c0,c1,c2,f0,f1,f2,-,-⟩:=h.facts;clear h;go_enter func66,ntmps66;go_wp2;go_ret;exact ⟨kbl,rfl⟩
theorem zcq (W0 W:World) (g:Nat) (s:PQ) (t:ByteArray) (h:PrS W0 W g s) (e:s.o.length+t.size<=140737488355328) :
  Calls prog 69 #[.pointer (some ⟨g,0,none⟩),.string t] W (PrE W0 W g (s.signs t.data.toList)):=by
 obtain ⟨A,c,c0,c1,c2,f0,f1,f2,-,-⟩:=h.facts;have H:=zq h;clear h;go_enter func69,ntmps69;go_wp2_with ((with_reducible refine zas (b := .append) (xs:=#[.tmp 8,.tmp 9]) rfl ?_);refine zgs H rfl (.tmp 8) (.tmp 9) 64 9 5 rfl rfl rfl rfl rfl (.slice A s.o.length c) t rfl rfl c0 e ?_;intro i x p1 w1 u w HX;obtain ⟨j,k,l,m,n,p,q,r,-,-⟩:=HX.o.1.facts;clear c0 c1 c2 f0 f1 f2);first|go_end0|(refine qaf (qbb rfl _ _ _) rfl ?_)
 have d:=HX.o.1.put_word false;exact ⟨rfl,d.1,HX.o.2.trans d.2⟩
def lenW:List (List UInt8)->Nat
 | []=>0
 | t::r=>t.length+1+lenW r
theorem zdz (t:List UInt8) (s:PQ):(s.one t).o.length<=s.o.length+t.length+1:=by
 unfold PQ.one;split<;>simp<;>omega
theorem words_snoc (l:List (List UInt8)) (t:List UInt8) (s:PQ):PQ.words (l++[t]) s=(PQ.words l s).one t:=by simp [PQ.words]
theorem zow:∀ (l:List (List UInt8)) (s:PQ),(PQ.words l s).o.length<=s.o.length+lenW l
 | [],s=>by simp [PQ.words,lenW]
 | t::r,s=>by
  have h1:=zdz t s;have b:=zow r (s.one t);simp only [lenW];show (PQ.words r (s.one t)).o.length<=_;omega
theorem lenW_take (l:List (List UInt8)) (k:Nat) (h:k<l.length):lenW (l.take k)+l[k].length+1<=lenW l:=by
 induction l generalizing k with
 | nil=>exact absurd h (by simp)
 | cons a l b=>
  cases k with
  | zero=>simp [lenW]
  | succ k=>
   have:=b k (by simpa using h);simp only [qby,lenW,List.getElem_cons_succ];omega
theorem zlf (W0 W:World) (g q:Nat) (s:PQ) (l:List ByteArray) (h:PrS W0 W g s) (J:W.heap[q]?=some (.cells (l.map Value.string).toArray 9 (0,0))) (hn:l.length<=1000) (G:s.o.length+lenW (l.map fun t:ByteArray=>t.data.toList)<=140737488355328) :
  Calls prog 67 #[.pointer (some ⟨g,0,none⟩),.slice (some ⟨q,0,none⟩) l.length l.length] W (PrE W0 W g (s.words (l.map fun t:ByteArray=>t.data.toList))):=by
 have H:=zq h;have Y:=zq J;have X:=zq G;clear h J G;go_enter func67,ntmps67;go_wp2
 go_loopw [8] (fun i wr=>∃ k:Nat,k<=l.length/\i = .int .i64 k/\Zq (PrS W0 wr g (s.words ((l.map fun t:ByteArray=>t.data.toList).take k)))/\Zq (Stp W wr g)) (fun i _=>l.length-(intOf i).toNat)
 case atStart=>exact ⟨0,qbx _,rfl,H,⟨Stp.refl _ _⟩⟩
 case round=>
  obtain ⟨k,hk,rfl,d,m⟩:=hrel;by_cases n:k<l.length
  ·have M:=words_snoc ((l.map fun t:ByteArray=>t.data.toList).take k) (l[k].data.toList) s;have L:(l.map fun t:ByteArray=>t.data.toList).take (k+1)=(l.map fun t:ByteArray=>t.data.toList).take k++[l[k].data.toList]:=by
    rw [List.take_succ_eq_append_getElem (by simpa using n)];simp
   have I:=zow ((l.map fun t:ByteArray=>t.data.toList).take k) s;have ad:=lenW_take (l.map fun t:ByteArray=>t.data.toList) k (by simpa using n);have af:((l.map fun t:ByteArray=>t.data.toList)[k]'(by simpa using n)).length=l[k].size:=(by simp);have Z:=X.o;have e:=zq (And.intro L M);clear L M;generalize hS:s.words ((l.map fun t:ByteArray=>t.data.toList).take k)=O at d e I;have HB:O.o.length+l[k].size+1<=140737488355328:=kab;have w:=m.o.keep H.o Y.o kad kad;have q0:wr.cell? ⟨q,k,none⟩=some (.string l[k]):=(zab w k).trans (by simp [n]);obtain ⟨A,c,c0,c1,c2,f0,f1,f2,-,-⟩:=d.o.facts;have a6:((l.map fun t:ByteArray=>t.data.toList).length)=l.length:=(by simp);clear ad af Z I hS w;obtain ⟨out,word,bad⟩:=O;simp only at HB;cases word
   ·go_wp2_with ((with_reducible refine zas (b := .append) (xs:=#[.tmp 29,.tmp 30]) rfl ?_);refine zgs d rfl (.tmp 29) (.tmp 30) 64 9 5 rfl rfl rfl rfl rfl (.slice A out.length c) l[k] rfl rfl c0 (by simp only;omega) ?_;intro U n1 p1 w1 k0 k1 HX;obtain ⟨u,x,r,y,z,B,D,E,-,-⟩:=HX.o.1.facts;clear c0 c1 c2 f0 f1 f2)
    go_roundw
    case rel=>
     have j:=HX.o.1.put_word true;exact ⟨k+1,kab,by go_num,⟨by rw [e.o.1,e.o.2];exact j.1⟩,⟨(m.o.trans HX.o.2).trans j.2⟩⟩
    case measure=>simp [intOf];omega
   go_wp2_with (first
    | ((with_reducible refine zas (b := .append) (xs:=#[.tmp 20,.tmp 21]) rfl ?_);refine pr_append_byte d rfl (.tmp 20) (.tmp 21) 64 5 rfl rfl rfl rfl (.slice A out.length c) 32 32 rfl rfl rfl c0 (by simp only;omega) ?_;intro U n1 p1 w1 k0 k1 HX;obtain ⟨u,x,r,y,z,B,D,E,-,-⟩:=HX.o.1.facts;clear c0 c1 c2 f0 f1 f2)
    | ((with_reducible refine zas (b := .append) (xs:=#[.tmp 29,.tmp 30]) rfl ?_);refine zgs ⟨HX.o.1⟩ rfl (.tmp 29) (.tmp 30) 64 9 5 rfl rfl rfl rfl rfl (.slice u (out.length+1) x) l[k] rfl rfl (by simpa using r) kbl ?_;intro A3 n3 p3 w3 k2 k3 p;obtain ⟨A4,a1,j0,j1,j2,j3,j4,j5,-,-⟩:=p.o.1.facts;clear r y z B D E))
   go_roundw
   case rel=>
    have j:=p.o.1.put_word true;exact ⟨k+1,kab,by go_num,⟨by rw [e.o.1,e.o.2];exact j.1⟩,⟨((m.o.trans HX.o.2).trans p.o.2).trans j.2⟩⟩
   case measure=>simp [intOf];omega
  obtain rfl:k=l.length:=kab;go_wp2;first|go_end0|(refine qaf (qbb rfl _ _ _) rfl ?_)
  exact ⟨rfl,by have:=d.o;rwa [List.take_of_length_le (by simp)] at this,m.o⟩
end
section
theorem zdj (W0 W:World) (g:Nat) (s:PQ) (t:ByteArray) (h:PrS W0 W g s) (c:s.o.length+t.size+1<=140737488355328) :
    Calls prog 67 #[.pointer (some ⟨g,0,none⟩),.slice (some ⟨W.heap.size,0,none⟩) 1 1] (W.alloc (.cells #[.string t] 9)) (PrE W0 W g (s.one t.data.toList)):=by
  refine (zlf W0 _ g W.heap.size s [t] (h.alloc _) (qab W _) (by simp) (by simp [lenW];omega)).mono ?_;rintro e w' ⟨rfl,h1,b⟩;exact ⟨rfl,h1,((Stp.refl W g).alloc h.lt _).trans b⟩
theorem words2_calls (W0 W:World) (g:Nat) (s:PQ) (t u:ByteArray) (h:PrS W0 W g s) (c:s.o.length+t.size+u.size+2<=140737488355328) :
    Calls prog 67 #[.pointer (some ⟨g,0,none⟩),.slice (some ⟨W.heap.size,0,none⟩) 2 2] (W.alloc (.cells #[.string t,.string u] 9)) (PrE W0 W g ((s.one t.data.toList).one u.data.toList)):=by
  refine (zlf W0 _ g W.heap.size s [t,u] (h.alloc _) (qab W _) (by simp) (by simp [lenW];omega)).mono ?_;rintro e w' ⟨rfl,h1,b⟩;exact ⟨rfl,h1,((Stp.refl W g).alloc h.lt _).trans b⟩
theorem zdb {P:Program} (f:Nat) {xs:Array Value} {W:World} {Q:Ending->World->Prop} (h:Calls P f xs W Q):Calls P f xs W Q:=h
def zom (one:Nat->PQ->PQ):Nat->Nat->PQ->PQ
  | 0,_,s=>s
  | m+1,i,s=>if s.bad=true then s else zom one m (i+1) (one i (if i=0 then s else s.signs [44]))
def zoh (word:List UInt8) (n:Nat) (one:Nat->PQ->PQ) (s:PQ):PQ:=
  (zom one n 0 ((((s.must (decide (1<=n)&&decide (n<=32))).one word).one [105,110]).signs [123])).signs [125]
theorem zbz (s:PQ) (b:Bool):(s.must b).o=s.o:=rfl
theorem zcu (s:PQ) (t:List UInt8):(s.signs t).o.length=s.o.length+t.length:=by simp [PQ.signs]
theorem plist_calls (W0 W:World) (g:Nat) (s:PQ) (word:ByteArray) (n fn:Nat) (a1 a2:Value) (one:Nat->PQ->PQ) (cs R:Nat->Nat) (I:World->Prop)
    (aY:∀ (i:Int) w,(callFunc fn #[.int .i64 i,a1,a2]).run prog w = .ok (.enter fn #[.int .i64 i,a1,a2]) w)
    (hI:∀ w w' s,PrS W0 w g s->I w->Stp w w' g->I w')
    (aS:∀ i w s,i<n->PrS W0 w g s->I w->s.o.length+cs i<=140737488351232->Calls prog fn #[.int .i64 i,a1,a2] w (PrE W0 w g (one i s)))
    (aR:∀ i s,i<n->(one i s).o.length<=s.o.length+cs i) (hR:∀ i,i<n->cs i+1+R (i+1)<=R i)
    (hn:n<=140737488355328) (h:PrS W0 W g s) (hi:I W) (z:s.o.length+word.size+10+R 0<=140737488351232) :
    Calls prog 134 #[.pointer (some ⟨g,0,none⟩),.string word,.int .i64 n,.func (.func fn) #[] #[a1,a2]] W (PrE W0 W g (zoh word.data.toList n one s)):=by
  have HS:=zq h;have M:=zq hI;have HO:=zq aS;have HL:=zq aR;have HR:=zq hR;have HJ:=zq hi;have HZ:=zq z;clear h hI aS aR hR hi z;generalize aU:zoh word.data.toList n one s=sf;have B:=zq aU;clear aU;have O:∀ b,b=(decide (1<=n)&&decide (n<=32))->Zq (Calls prog 65 #[.pointer (some ⟨g,0,none⟩),.bool b] W (PrE W0 W g (s.must (decide (1<=n)&&decide (n<=32))))):=fun b q=>⟨q ▸ zbu W0 W g s _ HS.o⟩;have aQ:(1<=n/\decide ((n:Int)<=32)=true/\Zq (Calls prog 65 #[.pointer (some ⟨g,0,none⟩),.bool true] W (PrE W0 W g (s.must (decide (1<=n)&&decide (n<=32)))))) \/
      (n<1/\True/\Zq (Calls prog 65 #[.pointer (some ⟨g,0,none⟩),.bool false] W (PrE W0 W g (s.must (decide (1<=n)&&decide (n<=32)))))) \/
      (1<=n/\decide ((n:Int)<=32)=false/\Zq (Calls prog 65 #[.pointer (some ⟨g,0,none⟩),.bool false] W (PrE W0 W g (s.must (decide (1<=n)&&decide (n<=32)))))):=by
    by_cases h1:1<=n
    · by_cases e:n<=32
      · exact .inl ⟨h1,kbl,O true (by simp [h1,e])⟩
      exact .inr (.inr ⟨h1,kbl,O false (by simp [e])⟩)
    exact .inr (.inl ⟨kab,trivial,O false (by simp [h1])⟩)
  clear O;unfold zoh at B;have L:(s.must (decide (1<=n)&&decide (n<=32))).o=s.o:=rfl;generalize s.must (decide (1<=n)&&decide (n<=32))=j at B aQ L;have aO:Zq (j.o.length+word.size+(⟨#[105,110]⟩:ByteArray).size+2<=140737488355328):=⟨by
    have e:(⟨#[105,110]⟩:ByteArray).size=2:=rfl;rw [L,e];have:=HZ.o;omega⟩
  have aP:Zq (((j.one word.data.toList).one [105,110]).o.length+(⟨#[123]⟩:ByteArray).size<=140737488355328):=⟨by
    have e:(⟨#[123]⟩:ByteArray).size=1:=rfl;have h3:=zdz word.data.toList j;have h4:=zdz [105,110] (j.one word.data.toList);have h5:word.data.toList.length=word.size:=rfl;have h6:([105,110]:List UInt8).length=2:=rfl;have:=HZ.o;rw [L] at h3;omega⟩
  have a7:Zq ((((j.one word.data.toList).one [105,110]).signs [123]).o.length+1+R 0<=140737488351232):=⟨by
    rw [zcu];have e:([123]:List UInt8).length=1:=rfl;have h3:=zdz word.data.toList j;have h4:=zdz [105,110] (j.one word.data.toList);have h5:word.data.toList.length=word.size:=rfl;have h6:([105,110]:List UInt8).length=2:=rfl;have:=HZ.o;rw [L] at h3;omega⟩
  have aI:=zq (fun w (h:PrS W0 w g j)=>words2_calls W0 w g j word ⟨#[105,110]⟩ h aO.o);have HG:=zq (fun w (h:PrS W0 w g ((j.one word.data.toList).one [105,110]))=>zcq W0 w g _ ⟨#[123]⟩ h aP.o);clear L aO aP;generalize aT:((j.one word.data.toList).one [105,110]).signs [123]=s3 at B a7;have aC:Zq (∀ w,PrS W0 w g ((j.one word.data.toList).one [105,110])->Calls prog 69 #[.pointer (some ⟨g,0,none⟩),.string ⟨#[123]⟩] w (PrE W0 w g s3)):=⟨fun w h=>aT ▸ HG.o w h⟩;clear HG aT;have HC:=zq (fun w d (h:PrS W0 w g d) z=>zcq W0 w g d ⟨#[44]⟩ h z);have HE:=zq (fun w d (h:PrS W0 w g d) z=>zcq W0 w g d ⟨#[125]⟩ h z);rcases aQ with ⟨h1,e,U⟩|⟨h1,e,U⟩|⟨h1,e,U⟩;all_goals
    go_enter func134,ntmps134;go_wp2_with (first
      | (go_at_call 65;refine U.o.mono ?_;rintro e1 w1 ⟨rfl,aK,aM⟩;have aE:=zq aK;have aG:=zq aM;clear aK aM U)
      | (go_at_call 67;refine (aI.o _ aE.o).mono ?_;rintro e2 w2 ⟨rfl,aL,aN⟩;have aF:=zq aL;have aH:=zq (aG.o.trans aN);clear aL aN)
      | (go_at_call 69;refine (aC.o _ aF.o).mono ?_;rintro e3 w3 ⟨rfl,G,y⟩;have D:=zq G;have E:=zq (aH.o.trans y);clear G y))
    have H1:=zq h1;clear h1 e
    go_loopw [8] (fun i wr=>∃ k:Nat,∃ d,k<=n/\i = .int .i64 k/\Zq (PrS W0 wr g d)/\Zq (Stp W wr g)/\Zq (I wr)/\Zq ((zom one (n-k) k d).signs [125]=sf)/\Zq (d.o.length+1+R k<=140737488351232)) (fun i _=>n-(intOf i).toNat)
    case atStart=>exact ⟨0,s3,qbx _,rfl,D,E,⟨M.o _ _ _ HS.o HJ.o E.o⟩,B,a7⟩
    case round=>
      clear aE aF D aG aH E B a7 aI aC HJ;obtain ⟨k,d,hk,rfl,u,X,ad,x,r⟩:=hrel;obtain ⟨A,c,c0,c1,c2,f0,f1,f2,-,-⟩:=u.o.facts;by_cases J:k<n
      · first
          | exact absurd H1.o kab
          | (obtain ⟨m,Y⟩:∃ m,n-k=m+1:=⟨n-k-1,kab⟩
             have hf:=x.o;rw [Y,zom] at hf;cases q:d.bad with
             | true=>
               rw [q] at c2;rw [if_pos q] at hf;subst hf;have a8:Zq (d.o.length+(⟨#[125]⟩:ByteArray).size<=140737488355328):=⟨by have:=r.o;have e:(⟨#[125]⟩:ByteArray).size=1:=rfl;omega⟩;clear q x Y;go_wp2_with (go_at_call 69;refine (HE.o _ _ u.o a8.o).mono ?_;rintro e4 w4 ⟨rfl,p,l⟩);(first|go_end0|(refine qaf (qbb rfl _ _ _) rfl ?_));exact ⟨rfl,p,X.o.trans l⟩
             | false=>
               rw [q] at c2;rw [if_neg (by rw [q];decide)] at hf;have aW:m=n-(k+1):=kab;subst aW;have aJ:=HR.o k J;have hf:=zq hf;by_cases h0:k=0
               · subst h0;have aA:Zq (d.o.length+cs 0<=140737488351232):=⟨by have:=r.o;omega⟩;have aB:Zq ((one 0 d).o.length+1+R (0+1)<=140737488351232):=⟨by have:=r.o;have:=HL.o 0 d J;omega⟩;have hf:Zq ((zom one (n-(0+1)) (0+1) (one 0 d)).signs [125]=sf):=⟨by have:=hf.o;rwa [if_pos rfl] at this⟩;clear q x Y aJ;go_wp2_with ((with_reducible refine zdb fn ?_);refine (HO.o 0 _ _ J u.o ad.o aA.o).mono ?_;rintro e4 w4 ⟨rfl,p,l⟩;have af:=zq p;have Z:=zq (M.o _ _ _ u.o ad.o l);have a6:=zq (X.o.trans l);clear p l)
                 go_roundw
                 case rel=>exact ⟨0+1,_,kab,by go_num,af,a6,Z,hf,aB⟩
                 case measure=>simp [intOf];omega
               have aX:0<k:=kab;have aA:Zq ((d.signs [44]).o.length+cs k<=140737488351232):=⟨by rw [zcu];have e:([44]:List UInt8).length=1:=rfl;have:=r.o;omega⟩;have aB:Zq ((one k (d.signs [44])).o.length+1+R (k+1)<=140737488351232):=⟨by have h1:=zcu d [44];have e:([44]:List UInt8).length=1:=rfl;have:=r.o;have:=HL.o k (d.signs [44]) J;omega⟩;have aV:Zq (d.o.length+(⟨#[44]⟩:ByteArray).size<=140737488355328):=⟨by have:=r.o;have e:(⟨#[44]⟩:ByteArray).size=1:=rfl;omega⟩;rw [if_neg h0] at hf;clear q x Y aJ h0;go_wp2_with (first
                 | (go_at_call 69;refine (HC.o _ _ u.o aV.o).mono ?_;rintro e3 w3 ⟨rfl,G,y⟩;have D:=zq G;have aD:=zq (M.o _ _ _ u.o ad.o y);have E:=zq (X.o.trans y);clear G y c0 c1 c2 f0 f1 f2)
                 | ((with_reducible refine zdb fn ?_);refine (HO.o k _ _ J D.o aD.o aA.o).mono ?_;rintro e4 w4 ⟨rfl,p,l⟩;have af:=zq p;have Z:=zq (M.o _ _ _ D.o aD.o l);have a6:=zq (E.o.trans l);clear p l))
               go_roundw
               case rel=>exact ⟨k+1,_,kab,by go_num,af,a6,Z,hf,aB⟩
               case measure=>simp [intOf];omega)
      obtain rfl:k=n:=kab;have hf:=x.o;rw [Nat.sub_self,zom] at hf;subst hf;have a8:Zq (d.o.length+(⟨#[125]⟩:ByteArray).size<=140737488355328):=⟨by have:=r.o;have e:(⟨#[125]⟩:ByteArray).size=1:=rfl;omega⟩;clear x;go_wp2_with (go_at_call 69;refine (HE.o _ _ u.o a8.o).mono ?_;rintro e4 w4 ⟨rfl,p,l⟩);(first|go_end0|(refine qaf (qbb rfl _ _ _) rfl ?_));exact ⟨rfl,p,X.o.trans l⟩
end
end Go.Proofs.YtjeekocidaogoaaGreatDoor.Hand
namespace Go.Proofs.YtjeekocidaogoaaGreatDoor.H
open Go.RowKit Go.Proofs.YtjeekocidaogoaaGreatDoor.Hand Go.Proofs.YtjeekocidaogoaaGreatDoorW.PrintWords Go.Proofs.YtjeekocidaogoaaGreatDoorW.PrintLast Go.Proofs.YtjeekocidaogoaaGreatDoorW.PrintMore
section
attribute [local go_sem] zdv zdt zel zek zcz zcy zdu zds
def lychgateref08_number.l0:Nat->ByteArray->Int->Int->Option (Int×Bool)
 | 0,_,_,_=>none
 | k+1,b,d,c=>if c<(b.size:Int) then (if 0<=c then ((lychgateref08_digit.f (bt b c)).bind fun e=>(if e=true then (if c>9 then (some (0,false)) else (lychgateref08_number.l0 k b (wrap64 ((wrap64 (10*d))+(((bt b c)-48)%256))) (wrap64 (c+1)))) else (some (0,false)))) else (none)) else (if d<=4294967295 then (if 0<(b.size:Int) then (if (bt b 0)=48 then (some (d,((b.size:Int)==1))) else (some (d,true))) else (none)) else (some (d,false)))
def lychgateref08_number.f (k:Nat) (a0:ByteArray):Option (Int×Bool):=lychgateref08_number.l0 k a0 0 0
theorem lychgateref08_number.calls (k:Nat) (a0:ByteArray) (r1:Int) (r2:Bool) (w:World) (h:lychgateref08_number.f k a0=some (r1,r2)) :
  Calls prog 118 #[.string a0] w fun e w'=>e = .returned (.tuple #[.int .i64 r1,.bool r2])/\Drawn0 w w':=by
 have H:(lychgateref08_number.l0 k a0 0 0)=some (r1,r2):=h;clear h;have j:=zq H;clear H;go_enter func118,ntmps118;go_wp2;go_loopg [4,5] k (fun q v4 v5 w'=>∃ (d:Int) (b:Int),v4 = .int .i64 d/\v5 = .int .i64 b/\Zq (lychgateref08_number.l0 q a0 d b=some (r1,r2))/\Zq (q<=k)/\Drawn0 w w');case atStart=>exact ⟨(0),(0),kaf,kaf,j,⟨qad _⟩,by repeat (first|exact Drawn0.refl _|apply Drawn0.step)⟩
 case round=>
  clear j;try clear c1
  obtain ⟨d,b,rfl,rfl,l,n,⟨m1,rfl⟩⟩:=hrel;cases gk with
  | zero=>exact absurd l.o (by simp [lychgateref08_number.l0])
  | succ G=>
   have H:=l.o;clear l;simp only [lychgateref08_number.l0] at H;by_cases c2:b<(a0.size:Int)
   ·rw [if_pos c2] at H;have A:decide (b<(a0.size:Int))=true:=qac c2;clear c2;by_cases c3:0<=b
    ·rw [if_pos c3] at H;have O:decide (0<=b)=true:=qac c3;clear c3;obtain ⟨J,A5,H⟩:=kbd H;(try dsimp only at H);by_cases c6:J=true
     ·subst c6;rw [if_pos rfl] at H;by_cases c7:b>9
      ·rw [if_pos c7] at H;have B:decide (9<b)=true:=qac c7;clear c7;simp only [qai,qap] at H;obtain ⟨rfl,rfl⟩:=H;have p4:0<=(b:Int):=kao;have c:b<(a0.size:Int):=kao;have p:=zcs a0 b;replace p4:=eq_true p4;replace c:=eq_true c;go_wp2_with (first|((with_reducible refine zar (f:=83) rfl ?_);refine zbs (some 16) rfl rfl func83 kae rfl #[.int .u8 (bt a0 b)] rfl kac ?_;(with_reducible refine (lychgateref08_digit.calls (bt a0 b) _ _ A5.o).mono ?_);rintro e w' ⟨rfl,⟨r,rfl⟩⟩;refine ⟨_,rfl,?_⟩))
       go_ret2
       exact ⟨kaf,by repeat (first|exact Drawn0.refl _|apply Drawn0.step)⟩
      rw [if_neg c7] at H;have B:decide (9<b)=false:=qak c7;clear c7;have j:=zq H;clear H;have p4:0<=(b:Int):=kao;have c:b<(a0.size:Int):=kao;have p:=zcs a0 b;replace p4:=eq_true p4;replace c:=eq_true c;go_wp2_with (first|((with_reducible refine zar (f:=83) rfl ?_);refine zbs (some 16) rfl rfl func83 kae rfl #[.int .u8 (bt a0 b)] rfl kac ?_;(with_reducible refine (lychgateref08_digit.calls (bt a0 b) _ _ A5.o).mono ?_);rintro e w' ⟨rfl,⟨r,rfl⟩⟩;refine ⟨_,rfl,?_⟩;have u:0<=(b:Int):=qbo (by first|(with_reducible assumption)|assumption);have x:b<(a0.size:Int):=qbo (by first|(with_reducible assumption)|assumption);have U:=zcs a0 b;replace u:=eq_true u;replace x:=eq_true x))
      go_roundg G
      case measure=>have:=n.o;omega
      case rel=>exact ⟨(wrap64 ((wrap64 (10*d))+(((bt a0 b)-48)%256))),(wrap64 (b+1)),kaf,kaf,j,⟨by have:=n.o;omega⟩,by repeat (first|exact Drawn0.refl _|apply Drawn0.step)⟩
     replace c6:=qbf.mpr c6;subst c6;rw [if_neg (show ¬(false=true) by decide)] at H;simp only [qai,qap] at H;obtain ⟨rfl,rfl⟩:=H;have p4:0<=(b:Int):=kao;have c:b<(a0.size:Int):=kao;have p:=zcs a0 b;replace p4:=eq_true p4;replace c:=eq_true c;go_wp2_with (first|((with_reducible refine zar (f:=83) rfl ?_);refine zbs (some 16) rfl rfl func83 kae rfl #[.int .u8 (bt a0 b)] rfl kac ?_;(with_reducible refine (lychgateref08_digit.calls (bt a0 b) _ _ A5.o).mono ?_);rintro e w' ⟨rfl,⟨r,rfl⟩⟩;refine ⟨_,rfl,?_⟩))
     go_ret2
     exact ⟨kaf,by repeat (first|exact Drawn0.refl _|apply Drawn0.step)⟩
    rw [if_neg c3] at H;exact absurd H (by simp)
   rw [if_neg c2] at H;have A:decide (b<(a0.size:Int))=false:=qak c2;clear c2;by_cases c9:d<=4294967295
   ·rw [if_pos c9] at H;have D:decide (d<=4294967295)=true:=qac c9;clear c9;by_cases c10:0<(a0.size:Int)
    ·rw [if_pos c10] at H;have L:decide (0<(a0.size:Int))=true:=qac c10;have M:decide (0<a0.size)=true:=qac kab;clear c10;by_cases c12:(bt a0 0)=48
     ·rw [if_pos c12] at H;have y:((bt a0 0)==48)=true:=qar.mpr c12;have z:((bt a0 0)!=48)=false:=qaq.mpr c12;clear c12;simp only [qai,qap] at H;obtain ⟨rfl,rfl⟩:=H;have m:0<=(0:Int):=kab;have i:0<a0.size:=kat;have E:∀ h:0<a0.size,((a0[0]'h).toNat:Int)=bt a0 0:=zcs a0 0;clear m;have I:(0<(a0.size:Int))=True:=eq_true (kao);replace i:=eq_true i;go_wp2
      go_ret2
      exact ⟨kaf,by repeat (first|exact Drawn0.refl _|apply Drawn0.step)⟩
     rw [if_neg c12] at H;have y:((bt a0 0)==48)=false:=qah.mpr c12;have z:((bt a0 0)!=48)=true:=qbc.mpr c12;simp only [qai,qap] at H;obtain ⟨rfl,rfl⟩:=H;have m:0<=(0:Int):=kab;have i:0<a0.size:=kat;have E:∀ h:0<a0.size,((a0[0]'h).toNat:Int)=bt a0 0:=zcs a0 0;clear m;have I:(0<(a0.size:Int))=True:=eq_true (kao);replace i:=eq_true i;go_wp2
     go_ret2
     exact ⟨kaf,by repeat (first|exact Drawn0.refl _|apply Drawn0.step)⟩
    rw [if_neg c10] at H;exact absurd H (by simp)
   rw [if_neg c9] at H;have D:decide (d<=4294967295)=false:=qak c9;clear c9;simp only [qai,qap] at H;obtain ⟨rfl,rfl⟩:=H;go_wp2
   go_ret2
   exact ⟨kaf,by repeat (first|exact Drawn0.refl _|apply Drawn0.step)⟩
def lychgateref03_cut.l0:Nat->ByteArray->Int->Int->Option (ByteArray×ByteArray×Bool)
 | 0,_,_,_=>none
 | k+1,b,d,c=>if c<(b.size:Int) then (if 0<=c then (if (bt b c)=d then (if c<=(b.size:Int) then (if 0<=(wrap64 (c+1)) then (if (wrap64 (c+1))<=(b.size:Int) then (some (b.extract 0 (c:Int).toNat,b.extract ((wrap64 (c+1)):Int).toNat b.size,true)) else (none)) else (none)) else (none)) else (lychgateref03_cut.l0 k b d (wrap64 (c+1)))) else (none)) else (some (b,(⟨#[]⟩:ByteArray),false))
def lychgateref03_cut.f (k:Nat) (a0:ByteArray) (a1:Int):Option (ByteArray×ByteArray×Bool):=lychgateref03_cut.l0 k a0 a1 0
theorem lychgateref03_cut.calls (k:Nat) (a0:ByteArray) (a1:Int) (r1:ByteArray) (r2:ByteArray) (r3:Bool) (w:World) (h:lychgateref03_cut.f k a0 a1=some (r1,r2,r3)) :
  Calls prog 145 #[.string a0,.int .u8 a1] w fun e w'=>e = .returned (.tuple #[.string r1,.string r2,.bool r3])/\Drawn0 w w':=by
 have H:(lychgateref03_cut.l0 k a0 a1 0)=some (r1,r2,r3):=h;clear h;have l:=zq H;clear H;go_enter func145,ntmps145;go_wp2;repeat (go_quiet (fail);try go_wp2)
 go_loopg [7] k (fun q B w'=>∃ (b:Int),B = .int .i64 b/\Zq (lychgateref03_cut.l0 q a0 a1 b=some (r1,r2,r3))/\Zq (q<=k)/\Drawn0 w w');case atStart=>exact ⟨(0),kaf,l,⟨qad _⟩,by repeat (first|exact Drawn0.refl _|apply Drawn0.step)⟩
 case round=>
  clear l;try clear c1
  try clear p2
  obtain ⟨b,rfl,n,p,⟨m1,rfl⟩⟩:=hrel;cases gk with
  | zero=>exact absurd n.o (by simp [lychgateref03_cut.l0])
  | succ A=>
   have H:=n.o;clear n;simp only [lychgateref03_cut.l0] at H;by_cases c3:b<(a0.size:Int)
   ·rw [if_pos c3] at H;have r:decide (b<(a0.size:Int))=true:=qac c3;clear c3;by_cases c4:0<=b
    ·rw [if_pos c4] at H;have J:decide (0<=b)=true:=qac c4;clear c4;by_cases c6:(bt a0 b)=a1
     ·rw [if_pos c6] at H;have u:((bt a0 b)==a1)=true:=qar.mpr c6;have x:((bt a0 b)!=a1)=false:=qaq.mpr c6;clear c6;have L:=eq_true (kao:0<=b);by_cases c8:b<=(a0.size:Int)
      ·rw [if_pos c8] at H;have M:=eq_true c8;have O:decide (b<=(a0.size:Int))=true:=qac c8;clear c8;obtain ⟨c,m⟩:∃ z:Int,(wrap64 (b+1))=z:=⟨_,rfl⟩;replace H:(if 0<=(c) then (if (c)<=(a0.size:Int) then (some (a0.extract 0 (b:Int).toNat,a0.extract ((c):Int).toNat a0.size,true)) else (none)) else (none))=some (r1,r2,r3):=(by first|(rw [m] at H;exact H)|(simp only [m] at H ⊢;exact H));have U:(IntKind.i64.wrap (b+1))=c:=(zjm _).trans m;by_cases c10:0<=(c)
       ·rw [if_pos c10] at H;have D:=eq_true c10;have E:decide (0<=(c))=true:=qac c10;clear c10;by_cases d:(c)<=(a0.size:Int)
        ·rw [if_pos d] at H;have G:=eq_true d;have I:decide ((c)<=(a0.size:Int))=true:=qac d;clear d;simp only [qai,qap] at H;obtain ⟨rfl,rfl,rfl⟩:=H;have i:0<=(b:Int):=kao;have j:b<(a0.size:Int):=kao;have y:=zcs a0 b;replace i:=eq_true i;replace j:=eq_true j;go_wp2;repeat (go_quiet (fail);try go_wp2)
         go_ret3
         exact ⟨by first|rfl|(simp;done)|(simp only [<-m]<;>(first|rfl|simp))|(simp [*];done),by repeat (first|exact Drawn0.refl _|apply Drawn0.step)⟩
        rw [if_neg d] at H;exact absurd H (by simp)
       rw [if_neg c10] at H;exact absurd H (by simp)
      rw [if_neg c8] at H;exact absurd H (by simp)
     rw [if_neg c6] at H;have u:((bt a0 b)==a1)=false:=qah.mpr c6;have x:((bt a0 b)!=a1)=true:=qbc.mpr c6;have l:=zq H;clear H;have i:0<=(b:Int):=kao;have j:b<(a0.size:Int):=kao;have y:=zcs a0 b;replace i:=eq_true i;replace j:=eq_true j;go_wp2;repeat (go_quiet (fail);try go_wp2)
     go_roundg A
     case measure=>have:=p.o;omega
     case rel=>exact ⟨(wrap64 (b+1)),kaf,l,⟨by have:=p.o;omega⟩,by repeat (first|exact Drawn0.refl _|apply Drawn0.step)⟩
    rw [if_neg c4] at H;exact absurd H (by simp)
   rw [if_neg c3] at H;have r:decide (b<(a0.size:Int))=false:=qak c3;clear c3;simp only [qai,qap] at H;obtain ⟨rfl,rfl,rfl⟩:=H;go_wp2;repeat (go_quiet (fail);try go_wp2)
   go_ret3
   exact ⟨kaf,by repeat (first|exact Drawn0.refl _|apply Drawn0.step)⟩
mutual
def lychgateref03_number.j0:Nat->ByteArray->Int->Bool->Option (Int×Bool)
 | 0,_,_,_=>none
 | k+1,x0,x1,x25=>if x25=true then (some (0,false)) else (lychgateref03_number.l0 k x0 x1 0 0)
def lychgateref03_number.l0:Nat->ByteArray->Int->Int->Int->Option (Int×Bool)
 | 0,_,_,_,_=>none
 | k+1,x0,x1,x6,x7=>if x7<(x0.size:Int) then (if 0<=x7 then (if (bt x0 x7)<48 then (some (0,false)) else (if (bt x0 x7)>57 then (some (0,false)) else (lychgateref03_number.l0 k x0 x1 (wrap64 ((wrap64 (10*x6))+(((bt x0 x7)-48)%256))) (wrap64 (x7+1))))) else (none)) else (some (x6,decide (x6<=x1)))
end
def lychgateref03_number.f (k:Nat) (a0:ByteArray) (a1:Int):Option (Int×Bool):=if (a0.size:Int)<1 then (lychgateref03_number.j0 k a0 a1 true) else (if (a0.size:Int)>3 then (lychgateref03_number.j0 k a0 a1 true) else (if (a0.size:Int)>1 then (if 0<(a0.size:Int) then (lychgateref03_number.j0 k a0 a1 ((bt a0 0)==48)) else (none)) else (lychgateref03_number.j0 k a0 a1 false)))
theorem lychgateref03_number.calls (k:Nat) (a0:ByteArray) (a1:Int) (r1:Int) (r2:Bool) (w:World) (h:lychgateref03_number.f k a0 a1=some (r1,r2)) :
  Calls prog 147 #[.string a0,.int .i64 a1] w fun e w'=>e = .returned (.tuple #[.int .i64 r1,.bool r2])/\Drawn0 w w':=by
 have H:(if (a0.size:Int)<1 then (lychgateref03_number.j0 k a0 a1 true) else (if (a0.size:Int)>3 then (lychgateref03_number.j0 k a0 a1 true) else (if (a0.size:Int)>1 then (if 0<(a0.size:Int) then (lychgateref03_number.j0 k a0 a1 ((bt a0 0)==48)) else (none)) else (lychgateref03_number.j0 k a0 a1 false))))=some (r1,r2):=h;clear h;have B:=zq H;clear H;go_enter func147,ntmps147;go_upto_region 1 with (fail)
 go_cut [25] (fun aC wc=>∃ (m:Nat) (z:Bool),aC = .bool z/\Zq (lychgateref03_number.j0 m a0 a1 z=some (r1,r2))/\Zq (m<=k)/\Drawn0 w wc)
 case first=>
  have H:=B.o;clear B;by_cases c4:(a0.size:Int)<1
  ·rw [if_pos c4] at H;have l:decide ((a0.size:Int)<1)=true:=qac c4;have D:decide (a0.size<1)=true:=qac kab;clear c4
   (first|rw [l]|(simp only [zjm,zpt];rw [l])|skip)
   have c:=zq H;clear H;go_wp2
   go_meet
   case rel=>exact ⟨_,(true),kaf,c,⟨by first|omega|exact qad _⟩,by repeat (first|exact Drawn0.refl _|apply Drawn0.step)⟩
  rw [if_neg c4] at H;have l:decide ((a0.size:Int)<1)=false:=qak c4;have D:decide (a0.size<1)=false:=qak kab;clear c4
  (first|rw [l]|(simp only [zjm,zpt];rw [l])|skip)
  by_cases c5:(a0.size:Int)>3
  ·rw [if_pos c5] at H;have E:decide (3<(a0.size:Int))=true:=qac c5;have G:decide (3<a0.size)=true:=qac kab;clear c5;have c:=zq H;clear H;go_wp2
   go_meet
   case rel=>exact ⟨_,(true),kaf,c,⟨by first|omega|exact qad _⟩,by repeat (first|exact Drawn0.refl _|apply Drawn0.step)⟩
  rw [if_neg c5] at H;have E:decide (3<(a0.size:Int))=false:=qak c5;have G:decide (3<a0.size)=false:=qak kab;clear c5;by_cases c6:(a0.size:Int)>1
  ·rw [if_pos c6] at H;have I:decide (1<(a0.size:Int))=true:=qac c6;have J:decide (1<a0.size)=true:=qac kab;clear c6;by_cases c7:0<(a0.size:Int)
   ·rw [if_pos c7] at H;have O:decide (0<(a0.size:Int))=true:=qac c7;have U:decide (0<a0.size)=true:=qac kab;clear c7;have c:=zq H;clear H;have u:0<=(0:Int):=kab;have q:0<a0.size:=kat;have Y:∀ h:0<a0.size,((a0[0]'h).toNat:Int)=bt a0 0:=zcs a0 0;clear u;have a6:(0<(a0.size:Int))=True:=eq_true (kao);replace q:=eq_true q;go_wp2
    go_meet
    case rel=>exact ⟨_,(((bt a0 0)==48)),kaf,c,⟨by first|omega|exact qad _⟩,by repeat (first|exact Drawn0.refl _|apply Drawn0.step)⟩
   rw [if_neg c7] at H;exact absurd H (by simp)
  rw [if_neg c6] at H;have I:decide (1<(a0.size:Int))=false:=qak c6;have J:decide (1<a0.size)=false:=qak kab;clear c6;have c:=zq H;clear H;go_wp2
  go_meet
  case rel=>exact ⟨_,(false),kaf,c,⟨by first|omega|exact qad _⟩,by repeat (first|exact Drawn0.refl _|apply Drawn0.step)⟩
 case rest=>
  clear B;try clear c1
  try clear p2
  try clear c4
  try clear l
  try clear D
  try clear c5
  try clear E
  try clear G
  try clear c6
  try clear I
  try clear J
  try clear c7
  try clear O
  try clear U
  try clear u
  try clear q
  try clear Y
  try clear a6
  try clear u
  try clear q
  obtain ⟨m,z,rfl,j,L,⟨aF,rfl⟩⟩:=hcut;cases m with
  | zero=>exact absurd j.o (by simp [lychgateref03_number.j0])
  | succ Z=>
   have H:=j.o;clear j;simp only [lychgateref03_number.j0] at H;by_cases c9:z=true
   ·subst c9;rw [if_pos rfl] at H;simp only [qai,qap] at H;obtain ⟨rfl,rfl⟩:=H;go_wp2
    go_ret2
    exact ⟨kaf,by repeat (first|exact Drawn0.refl _|apply Drawn0.step)⟩
   replace c9:=qbf.mpr c9;subst c9;rw [if_neg (show ¬(false=true) by decide)] at H;have c:=zq H;clear H;go_wp2;go_loopg [6,7] Z (fun m v6 v7 w'=>∃ (A:Int) (b:Int),v6 = .int .i64 A/\v7 = .int .i64 b/\Zq (lychgateref03_number.l0 m a0 a1 A b=some (r1,r2))/\Zq (m<=Z)/\Drawn0 w w');case atStart=>exact ⟨(0),(0),kaf,kaf,c,⟨qad _⟩,by repeat (first|exact Drawn0.refl _|apply Drawn0.step)⟩
   case round=>
    clear c;(try clear c1);(try clear c2);(try clear p2);(try clear c4);(try clear l);(try clear D);(try clear c5);(try clear E);(try clear G);(try clear c6);(try clear I);(try clear J);(try clear c7);(try clear O);(try clear U);(try clear u);(try clear q);(try clear Y);(try clear a6);(try clear c9);(try clear p2);(try clear u);(try clear q);obtain ⟨A,b,rfl,rfl,j,M,⟨m2,rfl⟩⟩:=hrel;cases gk with
    | zero=>exact absurd j.o (by simp [lychgateref03_number.l0])
    | succ k2=>
     have H:=j.o;clear j;simp only [lychgateref03_number.l0] at H;by_cases c10:b<(a0.size:Int)
     ·rw [if_pos c10] at H;have a7:decide (b<(a0.size:Int))=true:=qac c10;clear c10;by_cases y:0<=b
      ·rw [if_pos y] at H;have aD:decide (0<=b)=true:=qac y;clear y;by_cases n:(bt a0 b)<48
       ·rw [if_pos n] at H;have a8:decide ((bt a0 b)<48)=true:=qac n;clear n;simp only [qai,qap] at H;obtain ⟨rfl,rfl⟩:=H;have d:0<=(b:Int):=kao;have i:b<(a0.size:Int):=kao;have X:=zcs a0 b;replace d:=eq_true d;replace i:=eq_true i;go_wp2
        go_ret2
        exact ⟨kaf,by repeat (first|exact Drawn0.refl _|apply Drawn0.step)⟩
       rw [if_neg n] at H;have a8:decide ((bt a0 b)<48)=false:=qak n;clear n;by_cases p:(bt a0 b)>57
       ·rw [if_pos p] at H;have aA:decide (57<(bt a0 b))=true:=qac p;clear p;simp only [qai,qap] at H;obtain ⟨rfl,rfl⟩:=H;have d:0<=(b:Int):=kao;have i:b<(a0.size:Int):=kao;have X:=zcs a0 b;replace d:=eq_true d;replace i:=eq_true i;have r:0<=(b:Int):=kao;have x:b<(a0.size:Int):=kao;have aB:=zcs a0 b;replace r:=eq_true r;replace x:=eq_true x;go_wp2
        go_ret2
        exact ⟨kaf,by repeat (first|exact Drawn0.refl _|apply Drawn0.step)⟩
       rw [if_neg p] at H;have aA:decide (57<(bt a0 b))=false:=qak p;clear p;have c:=zq H;clear H;have d:0<=(b:Int):=kao;have i:b<(a0.size:Int):=kao;have X:=zcs a0 b;replace d:=eq_true d;replace i:=eq_true i;have r:0<=(b:Int):=kao;have x:b<(a0.size:Int):=kao;have aB:=zcs a0 b;replace r:=eq_true r;replace x:=eq_true x;have ad:0<=(b:Int):=kao;have af:b<(a0.size:Int):=kao;have aE:=zcs a0 b;replace ad:=eq_true ad;replace af:=eq_true af;go_wp2
       go_roundg k2
       case measure=>have:=L.o;have:=M.o;omega
       case rel=>exact ⟨(wrap64 ((wrap64 (10*A))+(((bt a0 b)-48)%256))),(wrap64 (b+1)),kaf,kaf,c,⟨by have:=L.o;have:=M.o;omega⟩,by repeat (first|exact Drawn0.refl _|apply Drawn0.step)⟩
      rw [if_neg y] at H;exact absurd H (by simp)
     rw [if_neg c10] at H;have a7:decide (b<(a0.size:Int))=false:=qak c10;clear c10;simp only [qai,qap] at H;obtain ⟨rfl,rfl⟩:=H;go_wp2
     go_ret2
     exact ⟨kaf,by repeat (first|exact Drawn0.refl _|apply Drawn0.step)⟩
def lychgateref03_Parse.l0:Nat->Int->ByteArray->Int->Option (Int×Int)
 | 0,_,_,_=>none
 | k+1,d,e,b=>if b<4 then (if b<3 then ((lychgateref03_cut.f k e 46).bind fun c=>(if c.2.2=true then ((lychgateref03_number.f k c.1 255).bind fun i=>(if i.2=true then (lychgateref03_Parse.l0 k (wrap64 ((wrap64 (256*d))+i.1)) c.2.1 (wrap64 (b+1))) else (some (0,30)))) else (some (0,30)))) else ((lychgateref03_number.f k e 255).bind fun j=>(if j.2=true then (lychgateref03_Parse.l0 k (wrap64 ((wrap64 (256*d))+j.1)) e (wrap64 (b+1))) else (some (0,30))))) else (some (d,0))
def lychgateref03_Parse.f (k:Nat) (a0:ByteArray):Option (Int×Int):=lychgateref03_Parse.l0 k 0 a0 0
theorem lychgateref03_Parse.calls (k:Nat) (a0:ByteArray) (r1:Int) (r2:Int) (w:World) (h:lychgateref03_Parse.f k a0=some (r1,r2)) :
  Calls prog 146 #[.string a0] w fun e w'=>e = .returned (.tuple #[.int .i64 r1,.int .i64 r2])/\Drawn0 w w':=by
 have H:(lychgateref03_Parse.l0 k 0 a0 0)=some (r1,r2):=h;clear h;have j:=zq H;clear H;go_enter func146,ntmps146;go_wp2;go_loopg [4,5,6] k (fun y v4 v5 G w'=>∃ (m:Int) (b:ByteArray) (c:Int),v4 = .int .i64 m/\v5 = .string b/\G = .int .i64 c/\Zq (lychgateref03_Parse.l0 y m b c=some (r1,r2))/\Zq (y<=k)/\Drawn0 w w');case atStart=>exact ⟨(0),(a0),(0),kaf,kaf,kaf,j,⟨qad _⟩,by repeat (first|exact Drawn0.refl _|apply Drawn0.step)⟩
 case round=>
  clear j;try clear c1
  obtain ⟨m,b,c,rfl,rfl,rfl,r,n,⟨m1,rfl⟩⟩:=hrel;cases gk with
  | zero=>exact absurd r.o (by simp [lychgateref03_Parse.l0])
  | succ d=>
   have H:=r.o;clear r;simp only [lychgateref03_Parse.l0] at H;by_cases c2:c<4
   ·rw [if_pos c2] at H;have z:decide (c<4)=true:=qac c2;clear c2;by_cases c3:c<3
    ·rw [if_pos c3] at H;have A:decide (c<3)=true:=qac c3;clear c3;obtain ⟨⟨i,p,B⟩,q,H⟩:=kbd H;(try dsimp only at H);by_cases c5:B=true
     ·subst c5;rw [if_pos rfl] at H;obtain ⟨⟨u,D⟩,A6,H⟩:=kbd H;(try dsimp only at H);by_cases c7:D=true
      ·subst c7;rw [if_pos rfl] at H;have j:=zq H;clear H;go_wp2_with (first|((with_reducible refine zar (f:=145) rfl ?_);refine zbs (some 21) rfl rfl func145 kae rfl #[.string b,.int .u8 46] rfl kac ?_;(with_reducible refine (lychgateref03_cut.calls d b 46 i p _ _ q.o).mono ?_);rintro e w' ⟨rfl,⟨l,rfl⟩⟩;refine ⟨_,rfl,?_⟩)|((with_reducible refine zar (f:=147) rfl ?_);refine zbs (some 29) rfl rfl func147 kae rfl #[.string i,.int .i64 255] rfl kac ?_;(with_reducible refine (lychgateref03_number.calls d i 255 u _ _ A6.o).mono ?_);rintro e w' ⟨rfl,⟨l,rfl⟩⟩;refine ⟨_,rfl,?_⟩))
       go_roundg d
       case measure=>have:=n.o;omega
       case rel=>exact ⟨(wrap64 ((wrap64 (256*m))+u)),(p),(wrap64 (c+1)),kaf,kaf,kaf,j,⟨by have:=n.o;omega⟩,by repeat (first|exact Drawn0.refl _|apply Drawn0.step)⟩
      replace c7:=qbf.mpr c7;subst c7;rw [if_neg (show ¬(false=true) by decide)] at H;simp only [qai,qap] at H;obtain ⟨rfl,rfl⟩:=H;go_wp2_with (first|((with_reducible refine zar (f:=145) rfl ?_);refine zbs (some 21) rfl rfl func145 kae rfl #[.string b,.int .u8 46] rfl kac ?_;(with_reducible refine (lychgateref03_cut.calls d b 46 i p _ _ q.o).mono ?_);rintro e w' ⟨rfl,⟨l,rfl⟩⟩;refine ⟨_,rfl,?_⟩)|((with_reducible refine zar (f:=147) rfl ?_);refine zbs (some 29) rfl rfl func147 kae rfl #[.string i,.int .i64 255] rfl kac ?_;(with_reducible refine (lychgateref03_number.calls d i 255 u _ _ A6.o).mono ?_);rintro e w' ⟨rfl,⟨l,rfl⟩⟩;refine ⟨_,rfl,?_⟩))
      go_ret2
      exact ⟨kaf,by repeat (first|exact Drawn0.refl _|apply Drawn0.step)⟩
     replace c5:=qbf.mpr c5;subst c5;rw [if_neg (show ¬(false=true) by decide)] at H;simp only [qai,qap] at H;obtain ⟨rfl,rfl⟩:=H;go_wp2_with (first|((with_reducible refine zar (f:=145) rfl ?_);refine zbs (some 21) rfl rfl func145 kae rfl #[.string b,.int .u8 46] rfl kac ?_;(with_reducible refine (lychgateref03_cut.calls d b 46 i p _ _ q.o).mono ?_);rintro e w' ⟨rfl,⟨l,rfl⟩⟩;refine ⟨_,rfl,?_⟩))
     go_ret2
     exact ⟨kaf,by repeat (first|exact Drawn0.refl _|apply Drawn0.step)⟩
    rw [if_neg c3] at H;have A:decide (c<3)=false:=qak c3;clear c3;obtain ⟨⟨x,E⟩,A8,H⟩:=kbd H;(try dsimp only at H);by_cases c9:E=true
    ·subst c9;rw [if_pos rfl] at H;have j:=zq H;clear H;go_wp2_with (first|((with_reducible refine zar (f:=147) rfl ?_);refine zbs (some 29) rfl rfl func147 kae rfl #[.string b,.int .i64 255] rfl kac ?_;(with_reducible refine (lychgateref03_number.calls d b 255 x _ _ A8.o).mono ?_);rintro e w' ⟨rfl,⟨l,rfl⟩⟩;refine ⟨_,rfl,?_⟩))
     go_roundg d
     case measure=>have:=n.o;omega
     case rel=>exact ⟨(wrap64 ((wrap64 (256*m))+x)),(b),(wrap64 (c+1)),kaf,kaf,kaf,j,⟨by have:=n.o;omega⟩,by repeat (first|exact Drawn0.refl _|apply Drawn0.step)⟩
    replace c9:=qbf.mpr c9;subst c9;rw [if_neg (show ¬(false=true) by decide)] at H;simp only [qai,qap] at H;obtain ⟨rfl,rfl⟩:=H;go_wp2_with (first|((with_reducible refine zar (f:=147) rfl ?_);refine zbs (some 29) rfl rfl func147 kae rfl #[.string b,.int .i64 255] rfl kac ?_;(with_reducible refine (lychgateref03_number.calls d b 255 x _ _ A8.o).mono ?_);rintro e w' ⟨rfl,⟨l,rfl⟩⟩;refine ⟨_,rfl,?_⟩))
    go_ret2
    exact ⟨kaf,by repeat (first|exact Drawn0.refl _|apply Drawn0.step)⟩
   rw [if_neg c2] at H;have z:decide (c<4)=false:=qak c2;clear c2;simp only [qai,qap] at H;obtain ⟨rfl,rfl⟩:=H;go_wp2
   go_ret2
   exact ⟨kaf,by repeat (first|exact Drawn0.refl _|apply Drawn0.step)⟩
def lychgateref03_Size.f (a0:Int):Option (Int):=if 0<=(wrap64 (32-a0)) then (some (shl .i64 1 (wrap64 (32-a0)))) else (none)
theorem lychgateref03_Size.calls (a0:Int) (r:Int) (w:World) (h:lychgateref03_Size.f a0=some r) :
  Calls prog 183 #[.int .i64 a0] w fun e w'=>e = .returned (.int .i64 r)/\Drawn0 w w':=by
 have H:(if 0<=(wrap64 (32-a0)) then (some (shl .i64 1 (wrap64 (32-a0)))) else (none))=some r:=h;clear h;obtain ⟨b,j⟩:∃ k:Int,(wrap64 (32-a0))=k:=⟨_,rfl⟩;replace H:(if 0<=(b) then (some (shl .i64 1 (b))) else (none))=some r:=by first|(rw [j] at H;exact H)|(simp only [j] at H ⊢;exact H)
 have q:(IntKind.i64.wrap (32-a0))=b:=(zjm _).trans j;by_cases c3:0<=(b)
 ·rw [if_pos c3] at H;have o:=eq_true c3;have p:decide (0<=(b))=true:=qac c3;clear c3;obtain ⟨d,i⟩:∃ k:Int,(shl .i64 1 (b))=k:=⟨_,rfl⟩;replace H:(some d)=some r:=by first|(rw [i] at H;exact H)|(simp only [i] at H ⊢;exact H)
  have l:(IntKind.i64.wrap (1*2 ^ min (b).toNat 64))=d:=i;have m:(b)<=64->(IntKind.i64.wrap (1*2 ^ (b).toNat))=d:=shl_small i;have u:(IntKind.i64.wrap (2 ^ min (b).toNat 64))=d:=by have c:=l;rw [Int.one_mul] at c;exact c
  have x:(b)<=64->(IntKind.i64.wrap (2 ^ (b).toNat))=d:=fun n=>by have c:=m n;rw [Int.one_mul] at c;exact c
  have z:(wrap64 (1*2 ^ min (b).toNat 64))=d:=(zjm _).symm.trans l;have y:(b)<=64->(wrap64 (1*2 ^ (b).toNat))=d:=fun c=>(zjm _).symm.trans (m c);obtain rfl:=qaa H;go_enter func183,ntmps183;go_wp2;go_ret;exact ⟨by first|rfl|(simp;done)|(simp only [<-j,<-i]<;>(first|rfl|simp))|(simp [*];done),by repeat (first|exact Drawn0.refl _|apply Drawn0.step)⟩
 rw [if_neg c3] at H;exact absurd H (by simp)
def lychgateref03_Right.f (b:Int) (c:Int):Option (Bool):=if c>=0 then (if c<=32 then (if b>=0 then (if b<=4294967295 then ((lychgateref03_Size.f c).bind fun d=>(if d=0 then (none) else (some ((Int.tmod b d)==0)))) else (some false)) else (some false)) else (some false)) else (some false)
theorem lychgateref03_Right.calls (d:Int) (c:Int) (r:Bool) (w:World) (h:lychgateref03_Right.f d c=some r) :
  Calls prog 148 #[.agg #[.int .i64 d,.int .i64 c]] w fun e w'=>e = .returned (.bool r)/\Below w.heap.size w w':=by
 have Y:=underlying47;have HB:=zq (qan w.heap.size w);have H:(if c>=0 then (if c<=32 then (if d>=0 then (if d<=4294967295 then ((lychgateref03_Size.f c).bind fun m=>(if m=0 then (none) else (some ((Int.tmod d m)==0)))) else (some false)) else (some false)) else (some false)) else (some false))=some r:=h;clear h;by_cases c2:c>=0
 focus
  rw [if_pos c2] at H;have B:decide (0<=c)=true:=qac c2;clear c2;by_cases c3:c<=32
  focus
   rw [if_pos c3] at H;have D:decide (c<=32)=true:=qac c3;clear c3;by_cases c4:d>=0
   focus
    rw [if_pos c4] at H;have E:decide (0<=d)=true:=qac c4;clear c4;by_cases c5:d<=4294967295
    focus
     rw [if_pos c5] at H;have G:decide (d<=4294967295)=true:=qac c5;clear c5;replace H:=qba.mp H;obtain ⟨m,z,H⟩:=H;replace H:(if m=0 then (none) else (some ((Int.tmod d m)==0)))=some r:=H;have A6:=zq z;clear z;by_cases c7:m=0
     focus
      rw [if_pos c7] at H;exact absurd H (by simp)
     rotate_right
     focus
      rw [if_neg c7] at H;have U:(m==0)=false:=qah.mpr c7;have X:(m !=0)=true:=qbc.mpr c7;obtain rfl:=qaa H;have I:=trivial
    rotate_right
    focus
     rw [if_neg c5] at H;have G:decide (d<=4294967295)=false:=qak c5;clear c5;obtain rfl:=qaa H;have J:=trivial
   rotate_right
   focus
    rw [if_neg c4] at H;have E:decide (0<=d)=false:=qak c4;clear c4;obtain rfl:=qaa H;have L:=trivial
  rotate_right
  focus
   rw [if_neg c3] at H;have D:decide (c<=32)=false:=qak c3;clear c3;obtain rfl:=qaa H;have M:=trivial
 rotate_right
 focus
  rw [if_neg c2] at H;have B:decide (0<=c)=false:=qak c2;clear c2;obtain rfl:=qaa H;have O:=trivial
 all_goals (go_enter func148,ntmps148;go_wp2_with (first|((with_reducible refine zcf (N:=1) rfl ?_);refine zcb ?hg (N:=1) ?hd (cs:=#[.int .i64 d,.int .i64 c]) (t:=47) ?hr ?_;(case hd=>rfl);(case hg=>rfl);(case hr=>first|(go_simp;done)|(go_simp;rfl));intro i hg l k j;have b:=zq k;have n:=zq (kge hg (zat kaa):w.heap.size<=i);replace HB:=zq (zau kaa j);clear j k hg;have p:l.cell? ⟨i,0,none⟩=some (.int .i64 d):=(zab b.o 0).trans rfl;have q:l.cell? ⟨i,1,none⟩=some (.int .i64 c):=(zab b.o 1).trans rfl;have u:=zac b.o 0;have x:=zac b.o 1)|(go_at_call 183;(with_reducible refine (lychgateref03_Size.calls c m _ A6.o).mono ?_);rintro e w' ⟨rfl,⟨A,rfl⟩⟩;(try first|exact ⟨rfl,_,World.drewN_drewN _ _ _⟩|exact ⟨rfl,_,Eq.trans (World.drewN_drewN _ _ _) (congrArg (World.drewN _) (Nat.add_assoc _ _ _))⟩)));(first|(have y:=I;(repeat (go_quiet (first|((with_reducible refine zcf (N:=1) rfl ?_);refine zcb ?hg (N:=1) ?hd (cs:=#[.int .i64 d,.int .i64 c]) (t:=47) ?hr ?_;(case hd=>rfl);(case hg=>rfl);(case hr=>first|(go_simp;done)|(go_simp;rfl));intro i hg l k j;have b:=zq k;have n:=zq (kge hg (zat kaa):w.heap.size<=i);replace HB:=zq (zau kaa j);clear j k hg;have p:l.cell? ⟨i,0,none⟩=some (.int .i64 d):=(zab b.o 0).trans rfl;have q:l.cell? ⟨i,1,none⟩=some (.int .i64 c):=(zab b.o 1).trans rfl;have u:=zac b.o 0;have x:=zac b.o 1)|(go_at_call 183;(with_reducible refine (lychgateref03_Size.calls c m _ A6.o).mono ?_);rintro e w' ⟨rfl,⟨A,rfl⟩⟩;(try first|exact ⟨rfl,_,World.drewN_drewN _ _ _⟩|exact ⟨rfl,_,Eq.trans (World.drewN_drewN _ _ _) (congrArg (World.drewN _) (Nat.add_assoc _ _ _))⟩)));try go_wp2_with (first|((with_reducible refine zcf (N:=1) rfl ?_);refine zcb ?hg (N:=1) ?hd (cs:=#[.int .i64 d,.int .i64 c]) (t:=47) ?hr ?_;(case hd=>rfl);(case hg=>rfl);(case hr=>first|(go_simp;done)|(go_simp;rfl));intro i hg l k j;have b:=zq k;have n:=zq (kge hg (zat kaa):w.heap.size<=i);replace HB:=zq (zau kaa j);clear j k hg;have p:l.cell? ⟨i,0,none⟩=some (.int .i64 d):=(zab b.o 0).trans rfl;have q:l.cell? ⟨i,1,none⟩=some (.int .i64 c):=(zab b.o 1).trans rfl;have u:=zac b.o 0;have x:=zac b.o 1)|(go_at_call 183;(with_reducible refine (lychgateref03_Size.calls c m _ A6.o).mono ?_);rintro e w' ⟨rfl,⟨A,rfl⟩⟩;(try first|exact ⟨rfl,_,World.drewN_drewN _ _ _⟩|exact ⟨rfl,_,Eq.trans (World.drewN_drewN _ _ _) (congrArg (World.drewN _) (Nat.add_assoc _ _ _))⟩)))));(go_ret);(exact ⟨by first|rfl|(simp [zap,zao]<;>rfl)|(simp [*,zap,zao]<;>rfl),by repeat (first|(with_reducible first|exact HB.o|apply zad|apply zaa|apply zae|refine zaj ?_ n.o)|exact HB.o)⟩))|((first|have y:=J|have y:=L|have y:=M|have y:=O);(repeat (go_quiet (first|((with_reducible refine zcf (N:=1) rfl ?_);refine zcb ?hg (N:=1) ?hd (cs:=#[.int .i64 d,.int .i64 c]) (t:=47) ?hr ?_;(case hd=>rfl);(case hg=>rfl);(case hr=>first|(go_simp;done)|(go_simp;rfl));intro i hg l k j;have b:=zq k;have n:=zq (kge hg (zat kaa):w.heap.size<=i);replace HB:=zq (zau kaa j);clear j k hg;have p:l.cell? ⟨i,0,none⟩=some (.int .i64 d):=(zab b.o 0).trans rfl;have q:l.cell? ⟨i,1,none⟩=some (.int .i64 c):=(zab b.o 1).trans rfl;have u:=zac b.o 0;have x:=zac b.o 1));try go_wp2_with (first|((with_reducible refine zcf (N:=1) rfl ?_);refine zcb ?hg (N:=1) ?hd (cs:=#[.int .i64 d,.int .i64 c]) (t:=47) ?hr ?_;(case hd=>rfl);(case hg=>rfl);(case hr=>first|(go_simp;done)|(go_simp;rfl));intro i hg l k j;have b:=zq k;have n:=zq (kge hg (zat kaa):w.heap.size<=i);replace HB:=zq (zau kaa j);clear j k hg;have p:l.cell? ⟨i,0,none⟩=some (.int .i64 d):=(zab b.o 0).trans rfl;have q:l.cell? ⟨i,1,none⟩=some (.int .i64 c):=(zab b.o 1).trans rfl;have u:=zac b.o 0;have x:=zac b.o 1))));(go_ret);(exact ⟨by first|rfl|(simp [zap,zao]<;>rfl)|(simp [*,zap,zao]<;>rfl),by repeat (first|(with_reducible first|exact HB.o|apply zad|apply zaa|apply zae|refine zaj ?_ n.o)|exact HB.o)⟩))))
end
section
attribute [local go_sem] zdv zdt zel zek zcz zcy zdu zds
def lychgateref03_digits.B3:List Nat:=[0,1,3,0,8,0,32,96,248,511,1023]
end
section
def qBad (b:UInt8):Bool:=decide (b.toNat<32)||decide (126<b.toNat)
def qEsc (b:UInt8):List Int:=if b.toNat=34\/b.toNat=92 then [92,(b.toNat:Int)] else [(b.toNat:Int)]
def qRes (l:List UInt8) (acc:List Int):ByteArray×Int:=if l.any qBad=true then (⟨#[]⟩,1) else (strOfNums (acc++l.flatMap qEsc++[34]),0)
def zur (s:ByteArray):ByteArray×Int:=if (s.size:Int)>200 then (⟨#[]⟩,1) else qRes (bl s) [34]
end
section
end
section
def zbp (t:ByteArray) (s:PQ):PQ:=(s.must (ziv t)).one (bl t)
def znz (t:ByteArray) (s:PQ):PQ:=(s.must (decide ((zur t).2=0))).signs (bl (zur t).1)
def zqq (a p:Int) (s:PQ):PQ:=
 if p=32 then ((s.must (decide ((zez a p).2=0))).must (decide ((zgq a).2=0))).signs (zgq a).1 else (s.must (decide ((zez a p).2=0))).signs (zez a p).1
def zjl (n:Int):Bool:=decide (0<=n)&&decide (n<=4294967295)
def zpj (lo hi:Int) (s:PQ):PQ:=
 if hi=lo then (s.must (zjl lo&&zjl hi)).signs (Lib.itoa lo) else ((s.must (zjl lo&&zjl hi)).signs (Lib.itoa lo)).signs (45::Lib.itoa hi)
def methodQ (t:ByteArray) (s:PQ):PQ:=((s.must (decide (1<=t.size)&&decide (t.size<=16))).must ((bl t).all fun b=>decide (65<=b.toNat)&&decide (b.toNat<=90))).one (bl t)
theorem zgv (W0 W:World) (g:Nat) (s:PQ) (t:ByteArray) (k:Inv W0) (h:PrS W0 W g s) (y:s.o.length+t.size+1<=140737488351232) :
  Calls prog 68 #[.pointer (some ⟨g,0,none⟩),.string t] W (PrE W0 W g (zbp t s)):=by
 have d:=zq (lex_IsName.calls 100 t _ W (k.below h.bel) (lex_isname_eq t kab 100 (qad _)));have c:=zq (fun w (h:PrS W0 w g s)=>zbu W0 w g s (ziv t) h);have j:=zq (fun w (h:PrS W0 w g (s.must (ziv t)))=>zdj W0 w g _ t h (by rw [zbz];omega));have i:=zq h;unfold zbp;generalize ziv t=b at d c j ⊢;clear h k y;go_enter func68,ntmps68;go_wp2_with (first
  | (go_at_call 103;refine d.o.mono ?_;rintro z w1 ⟨rfl,e⟩;have n:=zq (i.o.below e);have q:=zq (Stp.of_below e i.o.lt);clear e d)
  | (go_at_call 65;refine (c.o _ n.o).mono ?_;rintro A D ⟨rfl,l,m⟩;have p:=zq l;have r:=zq (q.o.trans m);clear l m c)
  | (go_at_call 67;refine (j.o _ p.o).mono ?_;rintro B E ⟨rfl,u,x⟩))
 first|go_end0|(refine qaf (qbb rfl _ _ _) rfl ?_)
 exact ⟨rfl,u,r.o.trans x⟩
theorem pprefix_one (W0 W:World) (g:Nat) (s:PQ) (a p:Int) (B:Inv W0) (h:PrS W0 W g s) (hl:s.o.length+20<=140737488351232) :
  Calls prog 136 #[.pointer (some ⟨g,0,none⟩),.agg #[.int .i64 a,.int .i64 p]] W (PrE W0 W g (zqq a p s)):=by
 have aA:(zez a p).1.length<=19:=by
  unfold zez;split
  ·rename_i X;have hp:0<=p/\p<=32:=by
    unfold addr_right.f at X;split at X
    ·rename_i I;exact ⟨I.1,I.2.1⟩
    simp at X
   have h1:=zmn a;have I:=zfv hp.1 kab;simp;omega
  simp
 have aB:(zgq a).1.length<=15:=by
  unfold zgq;split
  ·simp
  exact zmn a
 have HI:=zq B;have j:=zq (fun w (h:PrS W0 w g s)=>prefix_calls a p w (B.below h.bel));have k:=zq (fun w (h:PrS W0 w g (s.must (decide ((zez a p).2=0))))=>print_calls a w (B.below h.bel));have i:=zq (fun w b (O:b=decide ((zez a p).2=0)) (h:PrS W0 w g s)=>show Calls prog 65 #[.pointer (some ⟨g,0,none⟩),.bool b] w (PrE W0 w g (s.must (decide ((zez a p).2=0)))) from O ▸ zbu W0 w g s _ h);have l:=zq (fun w b (O:b=decide ((zgq a).2=0)) (h:PrS W0 w g (s.must (decide ((zez a p).2=0))))=>show Calls prog 65 #[.pointer (some ⟨g,0,none⟩),.bool b] w (PrE W0 w g ((s.must (decide ((zez a p).2=0))).must (decide ((zgq a).2=0)))) from O ▸ zbu W0 w g _ _ h);have y:=zq (fun w (h:PrS W0 w g (s.must (decide ((zez a p).2=0))))=>zcq W0 w g _ (tB (zez a p).1) h (by rw [zbz];show _+(zez a p).1.length<=_;omega));have A:=zq (fun w (h:PrS W0 w g ((s.must (decide ((zez a p).2=0))).must (decide ((zgq a).2=0))))=>zcq W0 w g _ (tB (zgq a).1) h (by rw [zbz,zbz];show _+(zgq a).1.length<=_;omega));have Y:=zq h;unfold zqq;have af:=h.lt;clear h hl aA aB B;change Zq (∀ w,PrS W0 w g (s.must (decide ((zez a p).2=0)))->Calls prog 69 #[.pointer (some ⟨g,0,none⟩),.string (tB (zez a p).1)] w (PrE W0 w g ((s.must (decide ((zez a p).2=0))).signs (zez a p).1))) at y;change Zq (∀ w,PrS W0 w g ((s.must (decide ((zez a p).2=0))).must (decide ((zgq a).2=0)))->Calls prog 69 #[.pointer (some ⟨g,0,none⟩),.string (tB (zgq a).1)] w (PrE W0 w g (((s.must (decide ((zez a p).2=0))).must (decide ((zgq a).2=0))).signs (zgq a).1))) at A;generalize (s.must (decide ((zez a p).2=0))).must (decide ((zgq a).2=0))=s2 at l A ⊢;generalize s.must (decide ((zez a p).2=0))=s1 at k i l y ⊢;generalize (zez a p).2=z at j i;generalize (zez a p).1=q at j y ⊢;generalize (zgq a).2=z2 at k l;generalize (zgq a).1=q2 at k A ⊢;by_cases J:p=32
 ·rw [if_pos J];subst J;go_enter func136,ntmps136;have x:=Y.o.alloc (.cells #[.int .i64 a,.int .i64 32] 47);have HX:=zq x;have G:=zq ((Stp.refl W g).alloc af (.cells #[.int .i64 a,.int .i64 32] 47));have r:=qab W (.cells #[.int .i64 a,.int .i64 32] 47);have HB:=zq r;clear x r;go_wp2_with (first
   | (go_at_call 169;refine (j.o _ HX.o).mono ?_;rintro e1 w1 ⟨rfl,c⟩;have m:=zq (HX.o.below c);have D:=zq (G.o.below HX.o.lt c);have am:=zq ((c.block _ (zam HB.o)).trans HB.o);clear c j)
   | (go_at_call 65;refine (i.o _ _ (by first|rfl|simp) m.o).mono ?_;rintro e2 w2 ⟨rfl,u,d⟩;have n:=zq u;have e:=d.keep m.o am.o kad kad;have E:=zq (D.o.trans d);have d0:=zab e 0;have d1:=zab e 1;clear u d i e)
   | (go_at_call 170;refine (k.o _ n.o).mono ?_;rintro e3 w3 ⟨rfl,U⟩;have a1:=zq (n.o.below U);have a7:=zq (E.o.below n.o.lt U);clear U k d0 d1)
   | (go_at_call 65;refine (l.o _ _ (by first|rfl|simp) a1.o).mono ?_;rintro e4 w4 ⟨rfl,Z,ad⟩;have a6:=zq Z;have a8:=zq (a7.o.trans ad);clear Z ad l)
   | (go_at_call 69;refine (A.o _ a6.o).mono ?_;rintro e5 w5 ⟨rfl,L,M⟩))
  first|go_end0|(refine qaf (qbb rfl _ _ _) rfl ?_)
  exact ⟨rfl,L,a8.o.trans M⟩
 rw [if_neg J];go_enter func136,ntmps136;have x:=Y.o.alloc (.cells #[.int .i64 a,.int .i64 p] 47);have HX:=zq x;have G:=zq ((Stp.refl W g).alloc af (.cells #[.int .i64 a,.int .i64 p] 47));have r:=qab W (.cells #[.int .i64 a,.int .i64 p] 47);have HB:=zq r;clear x r;go_wp2_with (first
  | (go_at_call 169;refine (j.o _ HX.o).mono ?_;rintro e1 w1 ⟨rfl,c⟩;have m:=zq (HX.o.below c);have D:=zq (G.o.below HX.o.lt c);have am:=zq ((c.block _ (zam HB.o)).trans HB.o);clear c j)
  | (go_at_call 65;refine (i.o _ _ (by first|rfl|simp) m.o).mono ?_;rintro e2 w2 ⟨rfl,u,d⟩;have n:=zq u;have e:=d.keep m.o am.o kad kad;have E:=zq (D.o.trans d);have d0:=zab e 0;have d1:=zab e 1;clear u d i e)
  | (go_at_call 69;refine (y.o _ n.o).mono ?_;rintro e5 w5 ⟨rfl,L,M⟩))
 first|go_end0|(refine qaf (qbb rfl _ _ _) rfl ?_)
 exact ⟨rfl,L,E.o.trans M⟩
theorem zry (n:Int) (w:World):Calls prog 171 #[.int .i64 n] w fun e w'=>e = .returned (.bool (zjl n))/\w'=w:=by
 unfold zjl;by_cases h1:0<=n
 ·by_cases b:n<=4294967295
  ·go_enter func171,ntmps171;go_wp2;go_ret;exact ⟨by simp [h1,b],rfl⟩
  go_enter func171,ntmps171;go_wp2;all_goals go_ret
  all_goals exact ⟨by simp [h1,b],rfl⟩
 go_enter func171,ntmps171;go_wp2;all_goals go_ret
 all_goals exact ⟨kbl,rfl⟩
theorem ztf {w:World} {Q:Ending->World->Prop} {n:Int} (h:Calls prog 171 #[.int .i64 n] w Q):Calls prog 171 #[.int .i64 n] w Q:=h
theorem zjj {w:World} {Q:Ending->World->Prop} {n:Int} (h:Calls prog 102 #[.int .i64 n] w Q):Calls prog 102 #[.int .i64 n] w Q:=h
theorem pports_one (W0 W:World) (g:Nat) (s:PQ) (lo hi:Int) (ad:Inv W0) (h:PrS W0 W g s) (hl:s.o.length+80<=140737488351232) (l0 : -9223372036854775808<=lo) (l1:lo<=9223372036854775807) (h0 : -9223372036854775808<=hi) (h1:hi<=9223372036854775807) :
  Calls prog 138 #[.pointer (some ⟨g,0,none⟩),.agg #[.int .i64 lo,.int .i64 hi]] W (PrE W0 W g (zpj lo hi s)):=by
 have HS:=zq h;have a6:=h.lt;have HX:=zq (HS.o.alloc (.cells #[.int .i64 lo,.int .i64 hi] 68));have O:=zq ((Stp.refl W g).alloc a6 (.cells #[.int .i64 lo,.int .i64 hi] 68));have HB:=zq (qab W (.cells #[.int .i64 lo,.int .i64 hi] 68));have a8:=Lib.itoa_length_le lo l0 l1;have aA:=Lib.itoa_length_le hi h0 h1;have M:=zq (zry lo);have J:=zq (zry hi);have z:=zq (fun w b (h:PrS W0 w g s)=>zbu W0 w g s b h);have u:=zq (fun w (h:Below W0.heap.size W0 w)=>zfe lo l0 l1 w (ad.below h));have L:=zq (fun w (h:Below W0.heap.size W0 w)=>zfe hi h0 h1 w (ad.below h));have l:=zq (fun w b (h:PrS W0 w g (s.must b))=>zcq W0 w g _ (tB (Lib.itoa lo)) h (by rw [zbz];show _+(Lib.itoa lo).length<=_;omega));have I:=zq (fun w b (h:PrS W0 w g ((s.must b).signs (Lib.itoa lo)))=>zcq W0 w g _ (⟨#[45]⟩++tB (Lib.itoa hi)) h (by rw [zcu,zbz,ByteArray.size_append];show _+(1+(Lib.itoa hi).length)<=_;omega));have hc:(⟨#[45]⟩++tB (Lib.itoa hi)).data.toList=45::Lib.itoa hi:=by simp
 rw [hc] at I;have a7:¬9223372036854775807<1+(tB (Lib.itoa hi)).size:=by show ¬9223372036854775807<1+(Lib.itoa hi).length;omega
 change Zq (∀ w b,PrS W0 w g (s.must b)->Calls prog 69 #[.pointer (some ⟨g,0,none⟩),.string (tB (Lib.itoa lo))] w (PrE W0 w g ((s.must b).signs (Lib.itoa lo)))) at l;generalize tB (Lib.itoa hi)=y at L I a7;generalize tB (Lib.itoa lo)=x at u l;unfold zpj;clear h a6 a8 aA hc hl l0 l1 h0 h1 ad;generalize Lib.itoa lo=xl at l I ⊢;generalize 45::Lib.itoa hi=yl at I ⊢;by_cases he:hi=lo
 ·rw [if_pos he];subst he;rw [Bool.and_self];generalize zjl hi=a at M J ⊢;cases a with
  | false=>
   go_enter func138,ntmps138;go_wp2_with (first
    | ((with_reducible refine zdb 171 ?_);refine (J.o _).mono ?_;rintro U w1 ⟨rfl,rfl⟩)
    | (go_at_call 65;refine (z.o _ _ HX.o).mono ?_;rintro Z w2 ⟨rfl,q,i⟩;have e:=zq q;have c:=i.keep HX.o HB.o kad kad;have B:=zq (O.o.trans i);have aj:=zq c;have d0:=zab c 0;have d1:=zab c 1;clear q i c z)
    | (go_at_call 102;(with_reducible refine zjj (n:=hi) ?_);refine (u.o _ e.o.bel).mono ?_;rintro e3 w3 ⟨rfl,d⟩;have m:=zq (e.o.below d);have D:=zq (B.o.below e.o.lt d);have A:=zq ((d.block _ (zam aj.o)).trans aj.o);clear d u d0 d1)
    | (go_at_call 69;refine (l.o _ _ m.o).mono ?_;rintro e4 w4 ⟨rfl,r,j⟩;have k:=j.keep m.o A.o kad kad;have p:=zq r;have E:=zq (D.o.trans j);have d0:=zab k 0;have d1:=zab k 1;clear r j k l))
   (first|go_end0|(refine qaf (qbb rfl _ _ _) rfl ?_));exact ⟨rfl,p.o,E.o⟩
  | true=>
   go_enter func138,ntmps138;go_wp2_with (first
    | ((with_reducible refine zdb 171 ?_);refine (J.o _).mono ?_;rintro U w1 ⟨rfl,rfl⟩)
    | (go_at_call 65;refine (z.o _ _ HX.o).mono ?_;rintro Z w2 ⟨rfl,q,i⟩;have e:=zq q;have c:=i.keep HX.o HB.o kad kad;have B:=zq (O.o.trans i);have aj:=zq c;have d0:=zab c 0;have d1:=zab c 1;clear q i c z)
    | (go_at_call 102;(with_reducible refine zjj (n:=hi) ?_);refine (u.o _ e.o.bel).mono ?_;rintro e3 w3 ⟨rfl,d⟩;have m:=zq (e.o.below d);have D:=zq (B.o.below e.o.lt d);have A:=zq ((d.block _ (zam aj.o)).trans aj.o);clear d u d0 d1)
    | (go_at_call 69;refine (l.o _ _ m.o).mono ?_;rintro e4 w4 ⟨rfl,r,j⟩;have k:=j.keep m.o A.o kad kad;have p:=zq r;have E:=zq (D.o.trans j);have d0:=zab k 0;have d1:=zab k 1;clear r j k l))
   (first|go_end0|(refine qaf (qbb rfl _ _ _) rfl ?_));exact ⟨rfl,p.o,E.o⟩
 rw [if_neg he];generalize zjl lo=a at M ⊢;generalize zjl hi=b at J ⊢;cases a with
 | false=>
  rw [Bool.false_and];go_enter func138,ntmps138;go_wp2_with (first
   | ((with_reducible refine zdb 171 ?_);(with_reducible refine ztf (n:=lo) ?_);refine (M.o _).mono ?_;rintro U w1 ⟨rfl,rfl⟩)
   | (go_at_call 65;refine (z.o _ _ HX.o).mono ?_;rintro Z w2 ⟨rfl,q,i⟩;have e:=zq q;have c:=i.keep HX.o HB.o kad kad;have B:=zq (O.o.trans i);have aj:=zq c;have d0:=zab c 0;have d1:=zab c 1;clear q i c z)
   | (go_at_call 102;(with_reducible refine zjj (n:=lo) ?_);refine (u.o _ e.o.bel).mono ?_;rintro e3 w3 ⟨rfl,d⟩;have m:=zq (e.o.below d);have D:=zq (B.o.below e.o.lt d);have A:=zq ((d.block _ (zam aj.o)).trans aj.o);clear d u d0 d1)
   | (go_at_call 69;refine (l.o _ _ m.o).mono ?_;rintro e4 w4 ⟨rfl,r,j⟩;have k:=j.keep m.o A.o kad kad;have p:=zq r;have E:=zq (D.o.trans j);have d0:=zab k 0;have d1:=zab k 1;clear r j k l)
   | (go_at_call 102;refine (L.o _ p.o.bel).mono ?_;rintro e5 w5 ⟨rfl,G⟩;have X:=zq (p.o.below G);have Y:=zq (E.o.below p.o.lt G);clear G L)
   | (go_at_call 69;refine (I.o _ _ X.o).mono ?_;rintro e6 w6 ⟨rfl,af,a1⟩))
  first|go_end0|(refine qaf (qbb rfl _ _ _) rfl ?_)
  exact ⟨rfl,af,Y.o.trans a1⟩
 | true=>
  rw [Bool.true_and];go_enter func138,ntmps138;go_wp2_with (first
   | ((with_reducible refine zdb 171 ?_);(with_reducible refine ztf (n:=lo) ?_);refine (M.o _).mono ?_;rintro U w1 ⟨rfl,rfl⟩)
   | ((with_reducible refine zdb 171 ?_);refine (J.o _).mono ?_;rintro U w1 ⟨rfl,rfl⟩)
   | (go_at_call 65;refine (z.o _ _ HX.o).mono ?_;rintro Z w2 ⟨rfl,q,i⟩;have e:=zq q;have c:=i.keep HX.o HB.o kad kad;have B:=zq (O.o.trans i);have aj:=zq c;have d0:=zab c 0;have d1:=zab c 1;clear q i c z)
   | (go_at_call 102;(with_reducible refine zjj (n:=lo) ?_);refine (u.o _ e.o.bel).mono ?_;rintro e3 w3 ⟨rfl,d⟩;have m:=zq (e.o.below d);have D:=zq (B.o.below e.o.lt d);have A:=zq ((d.block _ (zam aj.o)).trans aj.o);clear d u d0 d1)
   | (go_at_call 69;refine (l.o _ _ m.o).mono ?_;rintro e4 w4 ⟨rfl,r,j⟩;have k:=j.keep m.o A.o kad kad;have p:=zq r;have E:=zq (D.o.trans j);have d0:=zab k 0;have d1:=zab k 1;clear r j k l)
   | (go_at_call 102;refine (L.o _ p.o.bel).mono ?_;rintro e5 w5 ⟨rfl,G⟩;have X:=zq (p.o.below G);have Y:=zq (E.o.below p.o.lt G);clear G L)
   | (go_at_call 69;refine (I.o _ _ X.o).mono ?_;rintro e6 w6 ⟨rfl,af,a1⟩))
  first|go_end0|(refine qaf (qbb rfl _ _ _) rfl ?_)
  exact ⟨rfl,af,Y.o.trans a1⟩
theorem zfj (s:PQ):s.must true=s:=by simp [PQ.must]
end
section
def zdd (x:S60) (b1 b2 b3 b4 b c:Bool):Bool:=
 (b1||x.f1.toList.isEmpty)&&((b2||x.f2.toList.isEmpty)&&((b3||x.f3.isEmpty)&&((b4||x.f4.isEmpty)&&((b||x.f5.isEmpty)&&(c||x.f6.isEmpty)))))
def zkp (k:Int):Int:=if k=6 then 0 else if k=5 then 1 else if k=4 then 2 else 3
theorem len0 {α:Type} (l:List α):((l.length:Int)==0)=l.isEmpty:=by cases l<;>simp<;>omega
theorem zso (b t:Bool):b=true\/(b=false/\t=true)\/(b=false/\t=false):=by cases b<;>cases t<;>simp
theorem zpp {α:Type} [BEq α] (l:List α):(l==[])=l.isEmpty:=by cases l<;>rfl
theorem binds_eq (x:S60):syntax_binds.f x.f0 x.f1 x.f2 x.f3 x.f4 x.f5 x.f6 x.f7=some (zkp x.f0):=by
 unfold syntax_binds.f zkp
 repeat' split
 all_goals simp_all
def zes (W:World) (x:S60) (v:Value):Prop:=∃ cs,k60.K W x cs/\v = .agg cs.toArray
theorem zfy (W:World) (x:S60) (v:Value) (h:zes W x v) (b1 b2 b3 b4 c d:Bool) :
  Calls prog 104 #[v,.bool b1,.bool b2,.bool b3,.bool b4,.bool c,.bool d] W fun e W'=>e = .returned (.bool (zdd x b1 b2 b3 b4 c d))/\Below W.heap.size W W':=by
 obtain ⟨cs,p,rfl⟩:=h;obtain ⟨i,c3,j,c4,A5,c5,A6,c6,rfl,-,-,-,-,-,-,-,-⟩:=zci p;have b:=qab W (.cells #[.int .i64 x.f0,.string x.f1,.string x.f2,.slice i x.f3.length c3,.slice j x.f4.length c4,.slice A5 x.f5.length c5,.slice A6 x.f6.length c6,.int .i64 x.f7] 60);have r:=zab b 1;have u:=zab b 2;have w:=zab b 3;have y:=zab b 4;have z:=zab b 5;have A:=zab b 6;have HB:=zq (zad (qan W.heap.size W) (.cells #[.int .i64 x.f0,.string x.f1,.string x.f2,.slice i x.f3.length c3,.slice j x.f4.length c4,.slice A5 x.f5.length c5,.slice A6 x.f6.length c6,.int .i64 x.f7] 60));unfold zdd;rw [<-zpp x.f1.toList,<-zpp x.f2.toList,<-len0 x.f3,<-len0 x.f4,<-len0 x.f5,<-len0 x.f6];clear p b;obtain ⟨t1,h1⟩:∃ t,(x.f1.toList==[])=t:=⟨_,rfl⟩;rw [h1];obtain ⟨t2,k⟩:∃ t,(x.f2.toList==[])=t:=⟨_,rfl⟩;rw [k];obtain ⟨t3,l⟩:∃ t,((x.f3.length:Int)==0)=t:=⟨_,rfl⟩;rw [l];obtain ⟨t4,m⟩:∃ t,((x.f4.length:Int)==0)=t:=⟨_,rfl⟩;rw [m];obtain ⟨t5,n⟩:∃ t,((x.f5.length:Int)==0)=t:=⟨_,rfl⟩;rw [n];obtain ⟨t6,q⟩:∃ t,((x.f6.length:Int)==0)=t:=⟨_,rfl⟩;rw [q];all_goals (rcases zso b1 t1 with rfl|⟨rfl,rfl⟩|⟨rfl,rfl⟩)
 all_goals (try (have:=(h1:(x.f1.toList==[])=false);(go_enter func104,ntmps104;go_wp2;go_ret;exact ⟨rfl,HB.o⟩)))
 all_goals (rcases zso b2 t2 with rfl|⟨rfl,rfl⟩|⟨rfl,rfl⟩)
 all_goals (try (have:=(k:(x.f2.toList==[])=false);(go_enter func104,ntmps104;go_wp2;go_ret;exact ⟨rfl,HB.o⟩)))
 all_goals (rcases zso b3 t3 with rfl|⟨rfl,rfl⟩|⟨rfl,rfl⟩)
 all_goals (try (have:=(l:((x.f3.length:Int)==0)=false);(go_enter func104,ntmps104;go_wp2;go_ret;exact ⟨rfl,HB.o⟩)))
 all_goals (rcases zso b4 t4 with rfl|⟨rfl,rfl⟩|⟨rfl,rfl⟩)
 all_goals (try (have:=(m:((x.f4.length:Int)==0)=false);(go_enter func104,ntmps104;go_wp2;go_ret;exact ⟨rfl,HB.o⟩)))
 all_goals (rcases zso c t5 with rfl|⟨rfl,rfl⟩|⟨rfl,rfl⟩)
 all_goals (try (have:=(n:((x.f5.length:Int)==0)=false);(go_enter func104,ntmps104;go_wp2;go_ret;exact ⟨rfl,HB.o⟩)))
 all_goals (cases d)
 all_goals (go_enter func104,ntmps104;go_wp2;go_ret;exact ⟨rfl,HB.o⟩)
theorem binds_calls (W:World) (x:S60) (v:Value) (h:zes W x v) :
  Calls prog 133 #[v] W fun e W'=>e = .returned (.int .i64 (zkp x.f0))/\Below W.heap.size W W':=by
 obtain ⟨cs,d,rfl⟩:=h;obtain ⟨b,c3,c,c4,A5,c5,A6,c6,rfl,l3,g3,l4,g4,i,g5,j,g6⟩:=zci d;exact syntax_binds.calls _ _ _ b c3 _ c c4 _ A5 c5 _ A6 c6 _ _ _ W g3 l3 g4 l4 g5 i g6 j (binds_eq x)
theorem zes.below {W W1:World} {x:S60} {v:Value} (h:zes W x v) (c:Below W.heap.size W W1):zes W1 x v:=by
 obtain ⟨cs,b,rfl⟩:=h;exact ⟨cs,k60.K_below c b,rfl⟩
def zeq (s:PQ):Bool:=decide (8000<s.o.length)
def zie (f:S60->PQ->PQ) (least:Int) (x:S60) (s:PQ):PQ:=
 if (s.bad||zeq s)=true then s else if least<=zkp x.f0 then f x s else (f x (s.signs [40])).signs [41]
def zjf (f:S60->PQ->PQ) (word:List UInt8) (least:Int):List S60->Bool->PQ->PQ
 | [],_,s=>s
 | x::r,first,s=>zjf f word least r false (zie f least x (if first=true then s else s.one word))
def rowQ (f:S60->PQ->PQ) (word:List UInt8) (least:Int) (x:S60) (s:PQ):PQ:=
 zjf f word least x.f6 true (s.must (zdd x false false false false false true&&(decide (2<=x.f6.length)&&decide (x.f6.length<=32))))
def zvg (x:S60) (i:Nat) (s:PQ):PQ:=zqq (x.f3.getD i z47).f0 (x.f3.getD i z47).f1 s
def znf (x:S60) (i:Nat) (s:PQ):PQ:=zpj (x.f4.getD i z68).f0 (x.f4.getD i z68).f1 s
def methods (x:S60) (i:Nat) (s:PQ):PQ:=methodQ (x.f5.getD i ⟨#[]⟩) s
def wAddr:List UInt8:=[97,100,100,114]
def zvk:List UInt8:=[112,111,114,116]
def wMethod:List UInt8:=[109,101,116,104,111,100]
def wPath:List UInt8:=[112,97,116,104]
def wHeader:List UInt8:=[104,101,97,100,101,114]
def wHas:List UInt8:=[104,97,115]
def zuf:List UInt8:=[116,114,117,101]
def zrd:List UInt8:=[102,97,108,115,101]
def wNot:List UInt8:=[110,111,116]
def wAnd:List UInt8:=[97,110,100]
def wOr:List UInt8:=[111,114]
def zml (x:S60) (s:PQ):PQ:=
 if x.f0=7 then zoh wAddr x.f3.length (zvg x) (s.must (zdd x false false true false false false))
 else if x.f0=8 then zoh zvk x.f4.length (znf x) (s.must (zdd x false false false true false false))
 else if x.f0=9 then zoh wMethod x.f5.length (methods x) (s.must (zdd x false false false false true false))
 else if x.f0=10 then znz x.f2 (((s.must (zdd x false true false false false false)).one wPath).signs [126])
 else if x.f0=11 then znz x.f2 ((znz x.f1 ((s.must (zdd x true true false false false false)).one wHeader)).signs [126])
 else if x.f0=12 then znz x.f1 ((s.must (zdd x true false false false false false)).one wHas)
 else s.must false
def zbq:Nat->S60->PQ->PQ
 | 0,_,s=>s.must false
 | k+1,x,s=>
  if (s.bad||zeq s)=true then s
  else if x.f0=1 then (s.must (zdd x false false false false false false)).one zuf
  else if x.f0=2 then (s.must (zdd x false false false false false false)).one zrd
  else if x.f0=3 then zbp x.f1 (s.must (zdd x true false false false false false))
  else if x.f0=4 then
   (if (s.must (zdd x false false false false false true&&decide (x.f6.length=1))).bad=true then s.must (zdd x false false false false false true&&decide (x.f6.length=1))
   else zie (zbq k) 2 (x.f6.getD 0 z60) ((s.must (zdd x false false false false false true&&decide (x.f6.length=1))).one wNot))
  else if x.f0=5 then rowQ (zbq k) wAnd 2 x s
  else if x.f0=6 then rowQ (zbq k) wOr 1 x s
  else zml x s
def zdc:Nat->S60->Nat
 | 0,_=>0
 | k+1,x=>1000+x.f1.size+30*x.f3.length+90*x.f4.length+(x.f5.map fun t=>t.size+10).sum+(x.f6.map fun y=>zdc k y+10).sum
end
section
attribute [local go_sem] zdv zdt zel zek zcz zcy zdu zds
theorem eqA47 (d:Nat) (w:World) (b e:Int) (c i:Int) :
  (Op.equalIn (d+2) 47 (.agg #[.int .i64 b,.int .i64 c]) (.agg #[.int .i64 e,.int .i64 i])).run prog w = .ok (b==e&&(c==i)) w:=by
 refine zuy underlying47 kae ?_;refine zsc (by rfl) (by go_simp;rfl) (by go_simp;rfl) (by go_simp) ?_;exact zsb (by rfl) (by go_simp;rfl) (by go_simp;rfl) (by go_simp)
end
section
attribute [local go_sem] zdv zdt zel zek zcz zcy zdu zds
theorem eqA68 (d:Nat) (w:World) (b e:Int) (c i:Int) :
  (Op.equalIn (d+2) 68 (.agg #[.int .i64 b,.int .i64 c]) (.agg #[.int .i64 e,.int .i64 i])).run prog w = .ok (b==e&&(c==i)) w:=by
 refine zuy underlying68 kae ?_;refine zsc (by rfl) (by go_simp;rfl) (by go_simp;rfl) (by go_simp) ?_;exact zsb (by rfl) (by go_simp;rfl) (by go_simp;rfl) (by go_simp)
end
end Go.Proofs.YtjeekocidaogoaaGreatDoor.H
