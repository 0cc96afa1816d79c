import Derived.Test.YtjeekocidaogoaaGreatDoorK6RefJ
import Derived.Test.YtjeekocidaogoaaGreatDoorK6Mut
import Derived.Test.YtjeekocidaogoaaGreatDoorK6Hx12
import Derived.Test.YtjeekocidaogoaaGreatDoorK6Hx9
import Derived.Test.YtjeekocidaogoaaGreatDoorK6PsG
import Derived.Test.YtjeekocidaogoaaGreatDoorK6Atoms
set_option linter.unusedVariables false
set_option linter.unusedSimpArgs false
set_option maxRecDepth 100000
set_option maxHeartbeats 8000000
open Go.Proofs.Tryz
namespace Go.Proofs.YtjeekocidaogoaaGreatDoor.H
open Go.RowKit Go.Proofs.YtjeekocidaogoaaGreatDoor.Hand Go.Proofs.YtjeekocidaogoaaGreatDoorW.PrintWords Go.Proofs.YtjeekocidaogoaaGreatDoorW.PrintLast Go.Proofs.YtjeekocidaogoaaGreatDoorW.PrintMore
section
def PolR (W:World) (b:Nat) (l:List S62) (v:Value):Prop:=∃ cells L,Row W b 62 11 v l.length cells/\zgh W b l cells L/\∀ k,v.ownBlock=some k->k∉L
def RefQ (W:World) (l:List S62) (b at_:Int) (e:Ending) (W':World):Prop:=
 ∃ v,e = .returned (.tuple #[.agg #[v],.int .i64 b,.int .i64 at_])/\PolR W' W.heap.size l v/\Below W.heap.size W W'
theorem PolR.nil (W:World) (b:Nat):PolR W b [] (.slice none 0 0):=⟨[],[],Row.nil _ _ _ _,⟨rfl,rfl⟩,fun k h=>by simp [Value.ownBlock] at h⟩
theorem PolR.frame {W W1:World} {b:Nat} {l:List S62} {v:Value} (h:PolR W b l v) (hh:∀ k,b<=k->k<W.heap.size->W1.heap[k]?=W.heap[k]?):PolR W1 b l v:=by
 obtain ⟨cells,L,h1,d,e⟩:=h;exact ⟨cells,L,h1.frame fun g hg=>hh g (h1.blk hg).1 (h1.blk hg).2.1,d.frame fun g hg=>hh g (d.lt g hg).1 (d.lt g hg).2,e⟩
theorem PolR.lower {W:World} {b b':Nat} {l:List S62} {v:Value} (d:b'<=b) (h:PolR W b l v):PolR W b' l v:=by
 obtain ⟨cells,L,h1,e,j⟩:=h;exact ⟨cells,L,h1.lower d,e.lower d,j⟩
structure QInv (W:World) (g T c:Nat) (toks:List Tok) (st:RS) (l:List S62) (v:Value) (W':World):Prop where
 st:RSt W' g T c toks st
 bel:Below W.heap.size W W'
 res:W'.heap[W.heap.size]?=some (.cells #[.slice none 0 0] 36 (0,0))
 pol:W'.heap[g+1]?=some (.cells #[v] 36 (0,0))
 row:PolR W' (g+2) l v
 far:W.heap.size<T/\T<g
 many:l.length<=101
section
variable {W W1 W2:World} {g T c:Nat} {toks:List Tok} {st ay:RS} {l:List S62} {v:Value}
theorem QInv.move (h:QInv W g T c toks st l v W1) (d:RSt W2 g T c toks ay) (hF:Fr W1 W2 (·=g)):QInv W g T c toks ay l v W2:=by
 have e:=h.far;exact ⟨d,hF.below (fun k hk=>by omega) h.bel.size h.bel,hF.blk h.res kab,hF.blk h.pol kab,h.row.frame fun k h1 b=>hF.block k b kab,h.far,h.many⟩
theorem QInv.snoc {x:S62} {cs cells:List Value} {L M:List Nat} {v1:Value} {w1:World} (h:QInv W g T c toks st l v W2) (X:l.length<=100)
  (I:Row W2 (g+2) 62 11 v l.length cells) (hit:zgh W2 (g+2) l cells L) (r:∀ b,v.ownBlock=some b->b∉L) {q:Nat} (B:g+2<=q) (u:∀ b,v.ownBlock=some b->b<q)
  (n:Tree W2 q x.f2 cs M)
  (G:Row w1 (g+2) 62 11 v1 (l.length+1) (cells++(([Value.int .i64 x.f0,Value.string x.f1]:List Value)++cs++[Value.int .i64 x.f3]))) (s:W2.grownBy w1 v.ownBlock) (d:v1.ownBlock=v.ownBlock\/v1.ownBlock=some (W2.heap.size+1)) :
  QInv W g T c toks st (l++[x]) v1 (w1.setCell ⟨g+1,0,none⟩ v1):=by
 have O:=h.far;have w:∀ b,v.ownBlock=some b->g+2<=b:=fun b m=>(I.blk m).1;have far:∀ k,k<W2.heap.size->v.ownBlock≠some k->w1.heap[k]?=W2.heap[k]?:=fun k hk hn=>s.block k hk (fun e=>hn e.symm);have o:∀ k,k<W2.heap.size->k<=g+1->w1.heap[k]?=W2.heap[k]?:=fun k hk U=>far k hk fun e=>by have:=w k e;omega
 have D:=h.st.lts.1;have A:=h.st.lts.2.1;have y:Fr W2 w1 (fun k=>some k=v.ownBlock):=Fr.of_grown s (fun k hk=>hk.symm);have z:PolR w1 (g+2) (l++[x]) v1:=by
  refine ⟨_,L++M,by rw [qas];exact G,zgh.snoc (hit.frame fun k hk=>far k (hit.lt k hk).2 fun e=>r k e hk) (Tree.lower B (n.frame fun k hk=>far k (n.lt k hk).2 fun e=>?_)),?_⟩
  ·have:=u k e;have:=(n.lt k hk).1;omega
  intro b m j;rcases qbg.1 j with j|j
  ·rcases d with d|d
   ·exact r b (d ▸ m) j
   have h1:=(hit.lt b j).2;rw [m] at d;have:=qaa d;omega
  rcases d with d|d
  ·have:=u b (d ▸ m);have:=(n.lt b j).1;omega
  have h1:=(n.lt b j).2;rw [m] at d;have:=qaa d;omega
 have E:=zam h.pol;refine ⟨(h.st.blk (o g D kab) (o T A kab)).far (by show g≠g+1;omega) (by show T≠g+1;omega) _,(y.below (fun k hk=>by have:=w k hk.symm;omega) h.bel.size h.bel).setCell (p:=⟨g+1,0,none⟩) (by show W.heap.size<=g+1;omega) _,
  zat ((o _ (zam h.res) kab).trans h.res) (by show W.heap.size≠g+1;omega) _,zan ((o _ E (qad _)).trans h.pol) 0 v1 rfl,
  z.frame fun k h1 J=>qbk w1 _ _ k (by show k≠g+1;omega),h.far,kbv⟩
end
def ItG (toks:List Tok) (K:Nat) (res:PR (List S62)) (k:Nat) (st:RS) (l:List S62):Prop:=
 (∃ i,st=⟨i,0,0⟩/\l.length<=100/\zey toks K k i l=some res)\/(st.e≠0/\res = .bad st.e st.p)
section
variable {toks:List Tok} (aw:∀ i,(tk toks i).kind=7->(tk toks i).text.size=1)
include aw
theorem word_is (i:Nat):(isT (tk toks i) sLet||isT (tk toks i) zde||isT (tk toks i) zet)=(if (tk toks i).kind=1 then zfj (tk toks i) else none).isSome:=by
 have n:sLet.size=3:=kae;have o:zde.size=5:=kae;have p:zet.size=4:=kae;by_cases h1:(tk toks i).kind=1
 ·rw [if_pos h1,zgx h1,zgx h1,zgx h1];unfold zfj;by_cases b:(tk toks i).text.toList=sLet.toList
  ·rw [if_pos b,b];simp
  rw [if_neg b,qag.2 b];by_cases d:(tk toks i).text.toList=zde.toList
  ·rw [if_pos d,d];simp
  rw [if_neg d,qag.2 d];by_cases e:(tk toks i).text.toList=zet.toList
  ·rw [if_pos e,e];simp
  rw [if_neg e,qag.2 e];rfl
 have k:∀ w:ByteArray,w.size≠1->isT (tk toks i) w=false:=fun w m=>by
  cases j:isT (tk toks i) w with
  | false=>rfl
  | true=>
   unfold isT at j;rw [qbd,Bool.or_eq_true,qaq,qaq,qaq] at j;have:=aw i kab;rw [zch j.2] at this;exact absurd this m
 rw [if_neg h1,k _ kab,k _ kab,k _ kab];rfl
omit aw in
theorem items_step {K k i:Nat} {res:PR (List S62)} {l:List S62} {x:S62} {st:RS} {r:PR S62} (p:l.length<100) (hr:zfq toks K l.length i=some r) (h:zey toks K (k+1) i l=some res) (m:(tk toks i).kind≠8) (b:OkI r 0 x st):ItG toks K res k st (l++[x]):=by
 unfold zey at h;rw [if_neg m,hr] at h;cases r with
 | bad e q=>
  obtain ⟨d,n,o⟩:=b;exact .inr ⟨by rw [d];exact o,by rw [d,n];exact (qaa h).symm⟩
 | ok y j=>
  obtain ⟨rfl,rfl⟩:=b;exact .inl ⟨j,rfl,by rw [qas,qbb];omega,h⟩
end
end
section
theorem PolR.form {W:World} {b:Nat} {l:List S62} {v:Value} (h:PolR W b l v):∃ A cap,v = .slice A l.length cap/\l.length<=cap:=by
 obtain ⟨cells,L,h1,-,-⟩:=h;obtain ⟨A,cap,e,d,-⟩:=h1.form;exact ⟨A,cap,e,d⟩
theorem QInv.drewN {W W1:World} {g T c:Nat} {toks:List Tok} {st:RS} {l:List S62} {v:Value} (h:QInv W g T c toks st l v W1) (n:Nat):QInv W g T c toks st l v (W1.drewN n):=
 ⟨h.st.drewN n,zaa h.bel n,h.res,h.pol,h.row.frame fun _ _ _=>rfl,h.far,h.many⟩
theorem QInv.rows {W W1 W2:World} {g T c:Nat} {toks:List Tok} {st:RS} {l:List S62} {v:Value} (h:QInv W g T c toks st l v W1) (hF:Fr W1 W2 (·=g)) :
  ∃ cells L,Row W2 (g+2) 62 11 v l.length cells/\zgh W2 (g+2) l cells L/\(∀ b,v.ownBlock=some b->b∉L)/\(∀ b,v.ownBlock=some b->b<W1.heap.size)/\g+1<W1.heap.size/\W1.heap.size<=W2.heap.size:=by
 obtain ⟨cells,L,h1,d,j⟩:=h.row;exact ⟨cells,L,h1.fr hF fun o n e=>by have:=(h1.blk n).1;omega,d.frame fun k hk=>hF.block k (d.lt k hk).2 (by have:=(d.lt k hk).1;show ¬k=g;omega),j,fun b m=>(h1.blk m).2.1,zam h.pol,hF.size⟩
def RefE (W:World) (r:PR (List S62)):Ending->World->Prop:=match r with
 | .ok x _=>RefQ W x 0 0
 | .bad e p=>RefQ W [] e p
theorem sign_tok {L:List S49} (h:∀ t∈L,t.f0=7->t.f1.size=1):∀ i,(tk (L.map zha) i).kind=7->(tk (L.map zha) i).text.size=1:=by
 intro i b;unfold tk at b ⊢;rw [qar,qcd] at b ⊢;cases ht:L[i]? with
 | none=>rw [ht] at b;exact absurd b (by show ¬(8:Int)=7;decide)
 | some t=>
  rw [ht] at b;exact h t (List.mem_of_getElem? ht) b
theorem refparse_items (s:ByteArray) (W:World) (hf:(zbv s).2.1=0) (res:PR (List S62)) (z:zil ((zbv s).1.map zha)=some res) :
  Calls prog 12 #[.string s] W (RefE W res):=by
 obtain ⟨rr,qq,bs,bu⟩:=zft s hf;have aa:=zme bs;have aw:=sign_tok (scanA_sign s);have bv:0<(zbv s).1.length:=by rw [bs];simp
 have bd:lychgateref08_Scan.f 60000 s=some ((zbv s).1,0,(zbv s).2.2):=by rw [zlq s 60000 (qad _),<-hf]
 obtain ⟨L,hL⟩:∃ L,(zbv s).1=L:=⟨_,rfl⟩;rw [hL] at z aa aw bv bd bu;obtain ⟨toks,bw⟩:∃ toks,L.map zha=toks:=⟨_,rfl⟩;have b9:L.length=toks.length:=by rw [<-bw,qcc]
 rw [bw] at z aa aw;rw [b9] at bu;unfold zil at z;have bk:=zq (lychgateref08_Scan.calls 60000 s L 0 (zbv s).2.2 (W.alloc (.cells #[.slice none 0 0] 36)) bd);have bx:=zq (zad (qam W.heap.size W) (.cells #[.slice none 0 0] 36));have b6:=zq (qac W (.cells #[.slice none 0 0] 36));have aW:=zq aa;have bo:=zq aw;have b1:=zq z;have b0:=zq bv;have b4:=zq bw;generalize (zbv s).2.2=pz at bk bd;clear bs hf aa aw z bv bd hL;go_enter func12,ntmps12;go_upto_region 6 with (go_at_call 31;refine bk.o.mono ?_;rintro J w1 ⟨v0,rfl,hR,d⟩;obtain ⟨T,c,rfl,bp,bb⟩:=zql hR b0.o;rw [b4.o] at bb;simp only [b4.o];have b8:T<w1.heap.size:=(by obtain ⟨cs,h1,-⟩:=bb;exact zam h1);have bp:W.heap.size<T:=(by rw [qae] at bp;omega);have bq:=qac (w1.alloc (.cells #[.slice (some ⟨T,0,none⟩) toks.length c,.int .i64 0,.int .i64 0,.int .i64 0] 79)) (.cells #[.slice none 0 0] 36);rw [qae] at bq;have ah:=zq (QInv.mk (W:=W) (l:=[]) (st:=⟨0,0,0⟩) (v := .slice none 0 0) (((RSt.mk (s:=⟨0,0,0⟩) (qac w1 (.cells #[.slice (some ⟨T,0,none⟩) toks.length c,.int .i64 0,.int .i64 0,.int .i64 0] 79)) (by obtain ⟨cs,h1,h2⟩:=bb;exact ⟨cs,zaf h1 _,h2⟩) bu (by have:=b0.o;show 0<toks.length;omega)).alloc (.cells #[.slice none 0 0] 36))) (zad (zad (zaz bx.o bx.o.size d) _) _) (zaf (zaf (zaq b6.o d) _) _) bq (PolR.nil _ _) ⟨bp,b8⟩ (by simp));clear hR d bb bq);obtain ⟨g,hg⟩:∃ g,w1.heap.size=g:=⟨_,rfl⟩;simp only [hg] at ah ⊢;clear hg;go_loopg [10] (toks.length+1) (fun k t10 wr=>∃ st:RS,∃ l:List S62,∃ v:Value,Zq (QInv W g T c toks st l v wr)/\Zq (ItG toks (5*toks.length+4) res k st l));case atStart=>exact ⟨⟨0,0,0⟩,[],_,ah,⟨.inl ⟨0,rfl,by simp,b1.o⟩⟩⟩
 case round=>
  obtain ⟨st,l,v,HX,HG⟩:=hrel;clear ah b1 bk;obtain ⟨A,cap,rfl,bD⟩:=HX.o.row.form;obtain ⟨u0,u1,u2,e0,J,U,X,e4,O⟩:=HX.o.st.look;have b5:=HX.o.st.here;have m:=zab HX.o.pol 0;simp only [qal,qaj] at m;rcases HG.o with ⟨i,rfl,hl,hr⟩|⟨he,hr⟩
  ·cases gk with
   | zero=>cases hr
   | succ k=>
   dsimp only at u0 u1 u2 e0 J U X e4 O b5;by_cases h8:(tk toks i).kind=8
   ·have b7:((tk toks i).kind !=8)=false:=(by rw [h8];decide);have z:res = .ok l i:=by
     unfold zey at hr;rw [if_pos h8] at hr;exact (qaa hr).symm
    have aI:=zq z;have r0:=zab HX.o.res 0;have rf:=zac HX.o.res 0;simp only [qal,qaj] at r0;clear h8 hr z HG;go_wp2
    go_quiet (fail)
    go_wp2;refine qaf (zbh rfl _ _ W.heap.size 36 #[.slice A l.length cap] (0,0) _ rfl (by first|exact zan (cs':=#[.slice A l.length cap]) HX.o.res 0 _ rfl|exact zan (cs':=#[.slice A l.length cap]) (HX.o.drewN _).res 0 _ rfl) underlying36 rfl kae) rfl ?_;rw [aI.o];refine ⟨_,rfl,?_,?_⟩
    ·exact ((HX.o.drewN _).row.frame fun k h1 h2=>qbk _ ⟨W.heap.size,0,none⟩ _ k (by have:=HX.o.far;show k≠W.heap.size;omega)).lower (by have:=HX.o.far;have:=HX.o.st.lts;omega)
    first|exact (HX.o.bel).setCell (p:=⟨W.heap.size,0,none⟩) (qad _) _|exact ((HX.o.drewN _).bel).setCell (p:=⟨W.heap.size,0,none⟩) (qad _) _|exact (((HX.o.drewN _).bel).setCell (p:=⟨W.heap.size,0,none⟩) (qad _) _).drew
   have b7:((tk toks i).kind !=8)=true:=qax.2 h8;have HH:=zq (And.intro hr (And.intro h8 hl));have aY:=h8;clear HG hr;by_cases aR:l.length=100
   ·have hA:((l.length:Int)==100)=true:=qaq.2 kab;have bi:=zq (show (100:Nat)=l.length by omega);have Y:=zq hl;have aT:=word_is bo.o i;by_cases a6:isT (tk toks i) sLet=true
    ·have hw:(if (tk toks i).kind=1 then zfj (tk toks i) else none).isSome=true:=(by rw [<-aT];simp [a6]);have aH:zfq toks (5*toks.length+4) l.length i=some (.bad 92 (tk toks i).place):=by
      unfold zfq;cases hk:(if (tk toks i).kind=1 then zfj (tk toks i) else none) with
      | none=>rw [hk] at hw;cases hw
      | some kd=>exact if_pos aR
     have z:res = .bad 92 (tk toks i).place:=by
      have hr:=HH.o.1;unfold zey at hr;rw [if_neg HH.o.2.1,aH] at hr;exact (qaa hr).symm
     have aI:=zq z;have aV:(⟨i,92,(tk toks i).place⟩:RS).e≠0:=(by show (92:Int)≠0;decide);have ad:=zq (fun W' (j:RSt W' g T c toks ⟨i,92,(tk toks i).place⟩)=>zve g T c toks aW.o W' _ aV j);have aX:=zq (fun W' (j:RSt W' g T c toks ⟨i,0,0⟩)=>zdl W' g T c toks ⟨i,0,0⟩ 92 (tk toks i).place j);have aJ:=zq (fun W' (j:RSt W' g T c toks ⟨i,0,0⟩)=>(show Calls prog 32 #[.pointer (some ⟨g,0,none⟩),.string sLet] W' fun e y=>e = .returned (.bool true)/\Below W'.heap.size W' y from by have:=zbs W' g T c toks ⟨i,0,0⟩ sLet j;rw [zdx,a6] at this;exact this));obtain ⟨b2,a7⟩:∃ b,isT (tk toks i) zde=b:=⟨_,rfl⟩;have aK:=zq (fun W' (j:RSt W' g T c toks ⟨i,0,0⟩)=>(show Calls prog 32 #[.pointer (some ⟨g,0,none⟩),.string zde] W' fun e y=>e = .returned (.bool b2)/\Below W'.heap.size W' y from by have:=zbs W' g T c toks ⟨i,0,0⟩ zde j;rw [zdx,a7] at this;exact this));obtain ⟨b3,a8⟩:∃ b,isT (tk toks i) zet=b:=⟨_,rfl⟩;have aN:=zq (fun W' (j:RSt W' g T c toks ⟨i,0,0⟩)=>(show Calls prog 32 #[.pointer (some ⟨g,0,none⟩),.string zet] W' fun e y=>e = .returned (.bool b3)/\Below W'.heap.size W' y from by have:=zbs W' g T c toks ⟨i,0,0⟩ zet j;rw [zdx,a8] at this;exact this));have Z:=zq (fun n=>HX.o.drewN n);clear h8 aR aY hl hw aH z aT a6 a7 a8;go_wp2
     go_quiet (fail)
     go_wp2_with (first
      | (go_at_call 32;refine (aJ.o _ (Z.o _).st).mono ?_;rintro J w1 ⟨rfl,d⟩;have HX:=zq ((Z.o _).move ((Z.o _).st.below d) (Fr.of_below d));have m:=zab HX.o.pol 0;obtain ⟨u0,u1,u2,e0,J,U,X,e4,O⟩:=HX.o.st.look;simp only [qal,qaj] at m;clear d aJ)
      | (go_at_call 32;refine (aK.o _ HX.o.st).mono ?_;rintro U w2 ⟨rfl,d⟩;have HX:=zq (HX.o.move (HX.o.st.below d) (Fr.of_below d));have m:=zab HX.o.pol 0;obtain ⟨u0,u1,u2,e0,J,U,X,e4,O⟩:=HX.o.st.look;simp only [qal,qaj] at m;clear d aK)
      | (go_at_call 32;refine (aN.o _ HX.o.st).mono ?_;rintro X w3 ⟨rfl,d⟩;have HX:=zq (HX.o.move (HX.o.st.below d) (Fr.of_below d));have m:=zab HX.o.pol 0;obtain ⟨u0,u1,u2,e0,J,U,X,e4,O⟩:=HX.o.st.look;simp only [qal,qaj] at m;clear d aN))
     have aZ:zcb 92 (tk toks i).place ⟨i,0,0⟩=⟨i,92,(tk toks i).place⟩:=if_pos rfl;go_region_law (go_simp;go_at_call 33;refine (aX.o _ (by first|exact HX.o.st|exact HX.o.st.drew|exact HX.o.st.drewN _)).mono ?_;rintro e9 w9 ⟨rfl,w,hF⟩;rw [aZ] at w;have HX:=zq (HX.o.move w kag);have m:=zab HX.o.pol 0;simp only [qal,qaj] at m;clear w hF);(all_goals go_wp2);all_goals go_region_law (first
      | (go_simp;go_at_call 34;refine (ad.o _ kaw).mono ?_;rintro O w5 ⟨x,ts,M,aG,rfl,D,w,hF,hQ⟩;obtain ⟨v3,v4,v5,v6,rfl,-,-,-,-,A3,n3,c3,A4,n4,c4,A5,n5,c5,A6,n6,c6,rfl,rfl,rfl,rfl⟩:=zay D;have q:=zq (HX.o.move w kag);obtain ⟨cells,L0,aE,hit,a1,aF,aA,aC⟩:=HX.o.rows (W2:=w5) kag;have B:=zq aE;have aO:=zq hit;have av:=zq a1;have aQ:=zq aF;have au:=zq (And.intro aA aC);have aP:=zq D;have HQ:=zq hQ;have pa:=zab q.o.pol 0;have pb:=fun o=>zab (zaf q.o.pol o) 0;simp only [qal,qaj] at pa pb;clear D w hF hQ aE hit a1 aF aA aC ad)
      | (refine zco (g+2) (by rfl) (.tmp 77) (.tmp 80) 34 62 (.agg zfy) 11 176 rfl rfl rfl rfl kad (.slice A l.length cap) l.length cells [.int .i64 x.f0,.string x.f1,.int .i64 x.f2.f0,.string x.f2.f1,.string x.f2.f2,.slice A3 n3 c3,.slice A4 n4 c4,.slice A5 n5 c5,.slice A6 n6 c6,.int .i64 x.f2.f7,.int .i64 x.f3] kbw rfl rfl ?aU B.o ?aB ?aM ?aL ?_;(case aU=>intro u hu;simp at hu;rcases hu with rfl|rfl|rfl|rfl|rfl|rfl|rfl|rfl|rfl|rfl|rfl<;>rfl);(case aB=>have:=au.o;omega);(case aM=>have:=Y.o;simp only [maxLen];omega);(case aL=>have:=Y.o;omega);intro v1 w6 G E aD aS;have af:=zq (QInv.snoc q.o Y.o B.o aO.o av.o kcb aQ.o aP.o G E aD);have I:=(E.block _ (zam q.o.pol) (fun e=>by have:=(B.o.blk e.symm).1;omega)).trans q.o.pol;have x1:=zab I 0;have x2:=zac I 0;simp only [qal,qaj] at x1;obtain ⟨A9,c9,rfl,-,-⟩:=G.form;clear G E aD aS I))
     all_goals
      have GG:=zq (show ItG toks (5*toks.length+4) res k aG (l++[x]) from .inr ⟨by rw [HQ.o];exact aV,by rw [HQ.o];exact aI.o⟩);go_wp2
      (go_roundg k;(case measure=>omega);(case rel=>exact ⟨aG,l++[x],_,(by first|exact af|exact ⟨af.o.drew⟩),GG⟩))
    have a6:isT (tk toks i) sLet=false:=(by simpa using a6);by_cases a7:isT (tk toks i) zde=true
    ·have hw:(if (tk toks i).kind=1 then zfj (tk toks i) else none).isSome=true:=(by rw [<-aT];simp [a6,a7]);have aH:zfq toks (5*toks.length+4) l.length i=some (.bad 92 (tk toks i).place):=by
      unfold zfq;cases hk:(if (tk toks i).kind=1 then zfj (tk toks i) else none) with
      | none=>rw [hk] at hw;cases hw
      | some kd=>exact if_pos aR
     have z:res = .bad 92 (tk toks i).place:=by
      have hr:=HH.o.1;unfold zey at hr;rw [if_neg HH.o.2.1,aH] at hr;exact (qaa hr).symm
     have aI:=zq z;have aV:(⟨i,92,(tk toks i).place⟩:RS).e≠0:=(by show (92:Int)≠0;decide);have ad:=zq (fun W' (j:RSt W' g T c toks ⟨i,92,(tk toks i).place⟩)=>zve g T c toks aW.o W' _ aV j);have aX:=zq (fun W' (j:RSt W' g T c toks ⟨i,0,0⟩)=>zdl W' g T c toks ⟨i,0,0⟩ 92 (tk toks i).place j);have aJ:=zq (fun W' (j:RSt W' g T c toks ⟨i,0,0⟩)=>(show Calls prog 32 #[.pointer (some ⟨g,0,none⟩),.string sLet] W' fun e y=>e = .returned (.bool false)/\Below W'.heap.size W' y from by have:=zbs W' g T c toks ⟨i,0,0⟩ sLet j;rw [zdx,a6] at this;exact this));have aK:=zq (fun W' (j:RSt W' g T c toks ⟨i,0,0⟩)=>(show Calls prog 32 #[.pointer (some ⟨g,0,none⟩),.string zde] W' fun e y=>e = .returned (.bool true)/\Below W'.heap.size W' y from by have:=zbs W' g T c toks ⟨i,0,0⟩ zde j;rw [zdx,a7] at this;exact this));obtain ⟨b3,a8⟩:∃ b,isT (tk toks i) zet=b:=⟨_,rfl⟩;have aN:=zq (fun W' (j:RSt W' g T c toks ⟨i,0,0⟩)=>(show Calls prog 32 #[.pointer (some ⟨g,0,none⟩),.string zet] W' fun e y=>e = .returned (.bool b3)/\Below W'.heap.size W' y from by have:=zbs W' g T c toks ⟨i,0,0⟩ zet j;rw [zdx,a8] at this;exact this));have Z:=zq (fun n=>HX.o.drewN n);clear h8 aR aY hl hw aH z aT a6 a7 a8;go_wp2
     go_quiet (fail)
     go_wp2_with (first
      | (go_at_call 32;refine (aJ.o _ (Z.o _).st).mono ?_;rintro J w1 ⟨rfl,d⟩;have HX:=zq ((Z.o _).move ((Z.o _).st.below d) (Fr.of_below d));have m:=zab HX.o.pol 0;obtain ⟨u0,u1,u2,e0,J,U,X,e4,O⟩:=HX.o.st.look;simp only [qal,qaj] at m;clear d aJ)
      | (go_at_call 32;refine (aK.o _ HX.o.st).mono ?_;rintro U w2 ⟨rfl,d⟩;have HX:=zq (HX.o.move (HX.o.st.below d) (Fr.of_below d));have m:=zab HX.o.pol 0;obtain ⟨u0,u1,u2,e0,J,U,X,e4,O⟩:=HX.o.st.look;simp only [qal,qaj] at m;clear d aK)
      | (go_at_call 32;refine (aN.o _ HX.o.st).mono ?_;rintro X w3 ⟨rfl,d⟩;have HX:=zq (HX.o.move (HX.o.st.below d) (Fr.of_below d));have m:=zab HX.o.pol 0;obtain ⟨u0,u1,u2,e0,J,U,X,e4,O⟩:=HX.o.st.look;simp only [qal,qaj] at m;clear d aN))
     have aZ:zcb 92 (tk toks i).place ⟨i,0,0⟩=⟨i,92,(tk toks i).place⟩:=if_pos rfl;go_region_law (go_simp;go_at_call 33;refine (aX.o _ (by first|exact HX.o.st|exact HX.o.st.drew|exact HX.o.st.drewN _)).mono ?_;rintro e9 w9 ⟨rfl,w,hF⟩;rw [aZ] at w;have HX:=zq (HX.o.move w kag);have m:=zab HX.o.pol 0;simp only [qal,qaj] at m;clear w hF);(all_goals go_wp2);all_goals go_region_law (first
      | (go_simp;go_at_call 34;refine (ad.o _ kaw).mono ?_;rintro O w5 ⟨x,ts,M,aG,rfl,D,w,hF,hQ⟩;obtain ⟨v3,v4,v5,v6,rfl,-,-,-,-,A3,n3,c3,A4,n4,c4,A5,n5,c5,A6,n6,c6,rfl,rfl,rfl,rfl⟩:=zay D;have q:=zq (HX.o.move w kag);obtain ⟨cells,L0,aE,hit,a1,aF,aA,aC⟩:=HX.o.rows (W2:=w5) kag;have B:=zq aE;have aO:=zq hit;have av:=zq a1;have aQ:=zq aF;have au:=zq (And.intro aA aC);have aP:=zq D;have HQ:=zq hQ;have pa:=zab q.o.pol 0;have pb:=fun o=>zab (zaf q.o.pol o) 0;simp only [qal,qaj] at pa pb;clear D w hF hQ aE hit a1 aF aA aC ad)
      | (refine zco (g+2) (by rfl) (.tmp 77) (.tmp 80) 34 62 (.agg zfy) 11 176 rfl rfl rfl rfl kad (.slice A l.length cap) l.length cells [.int .i64 x.f0,.string x.f1,.int .i64 x.f2.f0,.string x.f2.f1,.string x.f2.f2,.slice A3 n3 c3,.slice A4 n4 c4,.slice A5 n5 c5,.slice A6 n6 c6,.int .i64 x.f2.f7,.int .i64 x.f3] kbw rfl rfl ?aU B.o ?aB ?aM ?aL ?_;(case aU=>intro u hu;simp at hu;rcases hu with rfl|rfl|rfl|rfl|rfl|rfl|rfl|rfl|rfl|rfl|rfl<;>rfl);(case aB=>have:=au.o;omega);(case aM=>have:=Y.o;simp only [maxLen];omega);(case aL=>have:=Y.o;omega);intro v1 w6 G E aD aS;have af:=zq (QInv.snoc q.o Y.o B.o aO.o av.o kcb aQ.o aP.o G E aD);have I:=(E.block _ (zam q.o.pol) (fun e=>by have:=(B.o.blk e.symm).1;omega)).trans q.o.pol;have x1:=zab I 0;have x2:=zac I 0;simp only [qal,qaj] at x1;obtain ⟨A9,c9,rfl,-,-⟩:=G.form;clear G E aD aS I))
     all_goals
      have GG:=zq (show ItG toks (5*toks.length+4) res k aG (l++[x]) from .inr ⟨by rw [HQ.o];exact aV,by rw [HQ.o];exact aI.o⟩);go_wp2
      (go_roundg k;(case measure=>omega);(case rel=>exact ⟨aG,l++[x],_,(by first|exact af|exact ⟨af.o.drew⟩),GG⟩))
    have a7:isT (tk toks i) zde=false:=(by simpa using a7);by_cases a8:isT (tk toks i) zet=true
    ·have hw:(if (tk toks i).kind=1 then zfj (tk toks i) else none).isSome=true:=(by rw [<-aT];simp [a6,a7,a8]);have aH:zfq toks (5*toks.length+4) l.length i=some (.bad 92 (tk toks i).place):=by
      unfold zfq;cases hk:(if (tk toks i).kind=1 then zfj (tk toks i) else none) with
      | none=>rw [hk] at hw;cases hw
      | some kd=>exact if_pos aR
     have z:res = .bad 92 (tk toks i).place:=by
      have hr:=HH.o.1;unfold zey at hr;rw [if_neg HH.o.2.1,aH] at hr;exact (qaa hr).symm
     have aI:=zq z;have aV:(⟨i,92,(tk toks i).place⟩:RS).e≠0:=(by show (92:Int)≠0;decide);have ad:=zq (fun W' (j:RSt W' g T c toks ⟨i,92,(tk toks i).place⟩)=>zve g T c toks aW.o W' _ aV j);have aX:=zq (fun W' (j:RSt W' g T c toks ⟨i,0,0⟩)=>zdl W' g T c toks ⟨i,0,0⟩ 92 (tk toks i).place j);have aJ:=zq (fun W' (j:RSt W' g T c toks ⟨i,0,0⟩)=>(show Calls prog 32 #[.pointer (some ⟨g,0,none⟩),.string sLet] W' fun e y=>e = .returned (.bool false)/\Below W'.heap.size W' y from by have:=zbs W' g T c toks ⟨i,0,0⟩ sLet j;rw [zdx,a6] at this;exact this));have aK:=zq (fun W' (j:RSt W' g T c toks ⟨i,0,0⟩)=>(show Calls prog 32 #[.pointer (some ⟨g,0,none⟩),.string zde] W' fun e y=>e = .returned (.bool false)/\Below W'.heap.size W' y from by have:=zbs W' g T c toks ⟨i,0,0⟩ zde j;rw [zdx,a7] at this;exact this));have aN:=zq (fun W' (j:RSt W' g T c toks ⟨i,0,0⟩)=>(show Calls prog 32 #[.pointer (some ⟨g,0,none⟩),.string zet] W' fun e y=>e = .returned (.bool true)/\Below W'.heap.size W' y from by have:=zbs W' g T c toks ⟨i,0,0⟩ zet j;rw [zdx,a8] at this;exact this));have Z:=zq (fun n=>HX.o.drewN n);clear h8 aR aY hl hw aH z aT a6 a7 a8;go_wp2
     go_quiet (fail)
     go_wp2_with (first
      | (go_at_call 32;refine (aJ.o _ (Z.o _).st).mono ?_;rintro J w1 ⟨rfl,d⟩;have HX:=zq ((Z.o _).move ((Z.o _).st.below d) (Fr.of_below d));have m:=zab HX.o.pol 0;obtain ⟨u0,u1,u2,e0,J,U,X,e4,O⟩:=HX.o.st.look;simp only [qal,qaj] at m;clear d aJ)
      | (go_at_call 32;refine (aK.o _ HX.o.st).mono ?_;rintro U w2 ⟨rfl,d⟩;have HX:=zq (HX.o.move (HX.o.st.below d) (Fr.of_below d));have m:=zab HX.o.pol 0;obtain ⟨u0,u1,u2,e0,J,U,X,e4,O⟩:=HX.o.st.look;simp only [qal,qaj] at m;clear d aK)
      | (go_at_call 32;refine (aN.o _ HX.o.st).mono ?_;rintro X w3 ⟨rfl,d⟩;have HX:=zq (HX.o.move (HX.o.st.below d) (Fr.of_below d));have m:=zab HX.o.pol 0;obtain ⟨u0,u1,u2,e0,J,U,X,e4,O⟩:=HX.o.st.look;simp only [qal,qaj] at m;clear d aN))
     have aZ:zcb 92 (tk toks i).place ⟨i,0,0⟩=⟨i,92,(tk toks i).place⟩:=if_pos rfl;go_region_law (go_simp;go_at_call 33;refine (aX.o _ (by first|exact HX.o.st|exact HX.o.st.drew|exact HX.o.st.drewN _)).mono ?_;rintro e9 w9 ⟨rfl,w,hF⟩;rw [aZ] at w;have HX:=zq (HX.o.move w kag);have m:=zab HX.o.pol 0;simp only [qal,qaj] at m;clear w hF);(all_goals go_wp2);all_goals go_region_law (first
      | (go_simp;go_at_call 34;refine (ad.o _ kaw).mono ?_;rintro O w5 ⟨x,ts,M,aG,rfl,D,w,hF,hQ⟩;obtain ⟨v3,v4,v5,v6,rfl,-,-,-,-,A3,n3,c3,A4,n4,c4,A5,n5,c5,A6,n6,c6,rfl,rfl,rfl,rfl⟩:=zay D;have q:=zq (HX.o.move w kag);obtain ⟨cells,L0,aE,hit,a1,aF,aA,aC⟩:=HX.o.rows (W2:=w5) kag;have B:=zq aE;have aO:=zq hit;have av:=zq a1;have aQ:=zq aF;have au:=zq (And.intro aA aC);have aP:=zq D;have HQ:=zq hQ;have pa:=zab q.o.pol 0;have pb:=fun o=>zab (zaf q.o.pol o) 0;simp only [qal,qaj] at pa pb;clear D w hF hQ aE hit a1 aF aA aC ad)
      | (refine zco (g+2) (by rfl) (.tmp 77) (.tmp 80) 34 62 (.agg zfy) 11 176 rfl rfl rfl rfl kad (.slice A l.length cap) l.length cells [.int .i64 x.f0,.string x.f1,.int .i64 x.f2.f0,.string x.f2.f1,.string x.f2.f2,.slice A3 n3 c3,.slice A4 n4 c4,.slice A5 n5 c5,.slice A6 n6 c6,.int .i64 x.f2.f7,.int .i64 x.f3] kbw rfl rfl ?aU B.o ?aB ?aM ?aL ?_;(case aU=>intro u hu;simp at hu;rcases hu with rfl|rfl|rfl|rfl|rfl|rfl|rfl|rfl|rfl|rfl|rfl<;>rfl);(case aB=>have:=au.o;omega);(case aM=>have:=Y.o;simp only [maxLen];omega);(case aL=>have:=Y.o;omega);intro v1 w6 G E aD aS;have af:=zq (QInv.snoc q.o Y.o B.o aO.o av.o kcb aQ.o aP.o G E aD);have I:=(E.block _ (zam q.o.pol) (fun e=>by have:=(B.o.blk e.symm).1;omega)).trans q.o.pol;have x1:=zab I 0;have x2:=zac I 0;simp only [qal,qaj] at x1;obtain ⟨A9,c9,rfl,-,-⟩:=G.form;clear G E aD aS I))
     all_goals
      have GG:=zq (show ItG toks (5*toks.length+4) res k aG (l++[x]) from .inr ⟨by rw [HQ.o];exact aV,by rw [HQ.o];exact aI.o⟩);go_wp2
      (go_roundg k;(case measure=>omega);(case rel=>exact ⟨aG,l++[x],_,(by first|exact af|exact ⟨af.o.drew⟩),GG⟩))
    have a8:isT (tk toks i) zet=false:=(by simpa using a8);have hw:(if (tk toks i).kind=1 then zfj (tk toks i) else none)=none:=by
     cases hk:(if (tk toks i).kind=1 then zfj (tk toks i) else none) with
     | none=>rfl
     | some kd=>rw [hk,a6,a7,a8] at aT;cases aT
    have aH:∀ n,zfq toks (5*toks.length+4) n i=some (.bad 90 (tk toks i).place):=fun n=>by
     unfold zfq;rw [hw]
    have z:res = .bad 90 (tk toks i).place:=by
     have hr:=HH.o.1;unfold zey at hr;rw [if_neg HH.o.2.1,aH] at hr;exact (qaa hr).symm
    have aI:=zq z;have ad:=zq (fun W' (j:RSt W' g T c toks ⟨i,0,0⟩)=>zuw g T c toks aW.o bo.o (5*toks.length+4) 0 i 0 _ (qad _) kad (aH 0) W' j);have aJ:=zq (fun W' (j:RSt W' g T c toks ⟨i,0,0⟩)=>(show Calls prog 32 #[.pointer (some ⟨g,0,none⟩),.string sLet] W' fun e y=>e = .returned (.bool false)/\Below W'.heap.size W' y from by have:=zbs W' g T c toks ⟨i,0,0⟩ sLet j;rw [zdx,a6] at this;exact this));have aK:=zq (fun W' (j:RSt W' g T c toks ⟨i,0,0⟩)=>(show Calls prog 32 #[.pointer (some ⟨g,0,none⟩),.string zde] W' fun e y=>e = .returned (.bool false)/\Below W'.heap.size W' y from by have:=zbs W' g T c toks ⟨i,0,0⟩ zde j;rw [zdx,a7] at this;exact this));have aN:=zq (fun W' (j:RSt W' g T c toks ⟨i,0,0⟩)=>(show Calls prog 32 #[.pointer (some ⟨g,0,none⟩),.string zet] W' fun e y=>e = .returned (.bool false)/\Below W'.heap.size W' y from by have:=zbs W' g T c toks ⟨i,0,0⟩ zet j;rw [zdx,a8] at this;exact this));have Z:=zq (fun n=>HX.o.drewN n);clear h8 aR aY hl hw aH z aT a6 a7 a8;go_wp2
    go_quiet (fail)
    go_wp2_with (first
     | (go_at_call 32;refine (aJ.o _ (Z.o _).st).mono ?_;rintro J w1 ⟨rfl,d⟩;have HX:=zq ((Z.o _).move ((Z.o _).st.below d) (Fr.of_below d));have m:=zab HX.o.pol 0;obtain ⟨u0,u1,u2,e0,J,U,X,e4,O⟩:=HX.o.st.look;simp only [qal,qaj] at m;clear d aJ)
     | (go_at_call 32;refine (aK.o _ HX.o.st).mono ?_;rintro U w2 ⟨rfl,d⟩;have HX:=zq (HX.o.move (HX.o.st.below d) (Fr.of_below d));have m:=zab HX.o.pol 0;obtain ⟨u0,u1,u2,e0,J,U,X,e4,O⟩:=HX.o.st.look;simp only [qal,qaj] at m;clear d aK)
     | (go_at_call 32;refine (aN.o _ HX.o.st).mono ?_;rintro X w3 ⟨rfl,d⟩;have HX:=zq (HX.o.move (HX.o.st.below d) (Fr.of_below d));have m:=zab HX.o.pol 0;obtain ⟨u0,u1,u2,e0,J,U,X,e4,O⟩:=HX.o.st.look;simp only [qal,qaj] at m;clear d aN))
    all_goals go_region_law (first
     | (go_simp;go_at_call 34;refine (ad.o _ kaw).mono ?_;rintro O w5 ⟨x,ts,M,aG,rfl,D,w,hF,hQ⟩;obtain ⟨v3,v4,v5,v6,rfl,-,-,-,-,A3,n3,c3,A4,n4,c4,A5,n5,c5,A6,n6,c6,rfl,rfl,rfl,rfl⟩:=zay D;have q:=zq (HX.o.move w kag);obtain ⟨cells,L0,aE,hit,a1,aF,aA,aC⟩:=HX.o.rows (W2:=w5) kag;have B:=zq aE;have aO:=zq hit;have av:=zq a1;have aQ:=zq aF;have au:=zq (And.intro aA aC);have aP:=zq D;have HQ:=zq hQ;have pa:=zab q.o.pol 0;have pb:=fun o=>zab (zaf q.o.pol o) 0;simp only [qal,qaj] at pa pb;clear D w hF hQ aE hit a1 aF aA aC ad)
     | (refine zco (g+2) (by rfl) (.tmp 77) (.tmp 80) 34 62 (.agg zfy) 11 176 rfl rfl rfl rfl kad (.slice A l.length cap) l.length cells [.int .i64 x.f0,.string x.f1,.int .i64 x.f2.f0,.string x.f2.f1,.string x.f2.f2,.slice A3 n3 c3,.slice A4 n4 c4,.slice A5 n5 c5,.slice A6 n6 c6,.int .i64 x.f2.f7,.int .i64 x.f3] kbw rfl rfl ?aU B.o ?aB ?aM ?aL ?_;(case aU=>intro u hu;simp at hu;rcases hu with rfl|rfl|rfl|rfl|rfl|rfl|rfl|rfl|rfl|rfl|rfl<;>rfl);(case aB=>have:=au.o;omega);(case aM=>have:=Y.o;simp only [maxLen];omega);(case aL=>have:=Y.o;omega);intro v1 w6 G E aD aS;have af:=zq (QInv.snoc q.o Y.o B.o aO.o av.o kcb aQ.o aP.o G E aD);have I:=(E.block _ (zam q.o.pol) (fun e=>by have:=(B.o.blk e.symm).1;omega)).trans q.o.pol;have x1:=zab I 0;have x2:=zac I 0;simp only [qal,qaj] at x1;obtain ⟨A9,c9,rfl,-,-⟩:=G.form;clear G E aD aS I))
    all_goals
     have GG:=zq (show ItG toks (5*toks.length+4) res k aG (l++[x]) from .inr (by obtain ⟨q1,q2,q3⟩:=HQ.o;exact ⟨by rw [q1];exact q3,by rw [q1,q2];exact aI.o⟩));go_wp2
     (go_roundg k;(case measure=>omega);(case rel=>exact ⟨aG,l++[x],_,(by first|exact af|exact ⟨af.o.drew⟩),GG⟩))
   have hA:((l.length:Int)==100)=false:=qag.2 kab;have Y:=zq hl;obtain ⟨r,br,-⟩:=zmb aW.o (5*toks.length+4) l.length i b5 (qad _);have bz:=zq (And.intro br (show l.length<100 by omega));have ad:=zq (fun W' (j:RSt W' g T c toks ⟨i,0,0⟩)=>zuw g T c toks aW.o bo.o (5*toks.length+4) l.length i 0 r (qad _) aR br W' j);clear h8 br aR aY hl;go_wp2
   go_quiet (fail)
   go_wp2;go_region_law (first
    | (go_simp;go_at_call 34;refine (ad.o _ kaw).mono ?_;rintro O w5 ⟨x,ts,M,aG,rfl,D,w,hF,hQ⟩;obtain ⟨v3,v4,v5,v6,rfl,-,-,-,-,A3,n3,c3,A4,n4,c4,A5,n5,c5,A6,n6,c6,rfl,rfl,rfl,rfl⟩:=zay D;have q:=zq (HX.o.move w kag);obtain ⟨cells,L0,aE,hit,a1,aF,aA,aC⟩:=HX.o.rows (W2:=w5) kag;have B:=zq aE;have aO:=zq hit;have av:=zq a1;have aQ:=zq aF;have au:=zq (And.intro aA aC);have aP:=zq D;have HQ:=zq hQ;have pa:=zab q.o.pol 0;have pb:=fun o=>zab (zaf q.o.pol o) 0;simp only [qal,qaj] at pa pb;clear D w hF hQ aE hit a1 aF aA aC ad)
    | (refine zco (g+2) (by rfl) (.tmp 77) (.tmp 80) 34 62 (.agg zfy) 11 176 rfl rfl rfl rfl kad (.slice A l.length cap) l.length cells [.int .i64 x.f0,.string x.f1,.int .i64 x.f2.f0,.string x.f2.f1,.string x.f2.f2,.slice A3 n3 c3,.slice A4 n4 c4,.slice A5 n5 c5,.slice A6 n6 c6,.int .i64 x.f2.f7,.int .i64 x.f3] rfl rfl rfl ?aU B.o ?aB ?aM ?aL ?_;(case aU=>intro u hu;simp at hu;rcases hu with rfl|rfl|rfl|rfl|rfl|rfl|rfl|rfl|rfl|rfl|rfl<;>rfl);(case aB=>have:=au.o;omega);(case aM=>have:=Y.o;simp only [maxLen];omega);(case aL=>have:=Y.o;omega);intro v1 w6 G E aD aS;have af:=zq (QInv.snoc q.o Y.o B.o aO.o av.o kcb aQ.o aP.o G E aD);have I:=(E.block _ (zam q.o.pol) (fun e=>by have:=(B.o.blk e.symm).1;omega)).trans q.o.pol;have x1:=zab I 0;have x2:=zac I 0;simp only [qal,qaj] at x1;obtain ⟨A9,c9,rfl,-,-⟩:=G.form;clear G E aD aS I))
   all_goals
    have GG:=zq (items_step bz.o.2 bz.o.1 HH.o.1 HH.o.2.1 HQ.o);go_wp2
    (go_roundg k;(case measure=>omega);(case rel=>exact ⟨aG,l++[x],_,(by first|exact af|exact ⟨af.o.drew⟩),GG⟩))
  have bA:(st.e==0)=false:=qag.2 he;have bB:(st.e !=0)=true:=qax.2 he;have r0:=zab HX.o.res 0;have rf:=zac HX.o.res 0;have s3:=HX.o.st.facts.2.2.2.1;have aI:=zq hr;simp only [qal,qaj] at r0;clear he hr HG;go_wp2
  go_quiet (fail)
  go_wp2;go_region;all_goals (try go_wp2)
  all_goals
   refine qaf (zbh rfl _ _ W.heap.size 36 #[.slice none 0 0] (0,0) _ rfl (by first|exact zan (cs':=#[.slice none 0 0]) HX.o.res 0 _ rfl|exact zan (cs':=#[.slice none 0 0]) (HX.o.drewN _).res 0 _ rfl) underlying36 rfl kae) rfl ?_;rw [aI.o];refine ⟨_,rfl,?_,?_⟩
   ·exact PolR.nil _ _
   first|exact (HX.o.bel).setCell (p:=⟨W.heap.size,0,none⟩) (qad _) _|exact ((HX.o.drewN _).bel).setCell (p:=⟨W.heap.size,0,none⟩) (qad _) _|exact (((HX.o.drewN _).bel).setCell (p:=⟨W.heap.size,0,none⟩) (qad _) _).drew
end
section
theorem refparse_scan (s:ByteArray) (W:World) (hf:(zbv s).2.1≠0):Calls prog 12 #[.string s] W (RefQ W [] (zbv s).2.1 (zbv s).2.2):=by
 obtain ⟨⟨L,e,p⟩,j⟩:∃ x,zbv s=x:=⟨_,rfl⟩;rw [j] at hf ⊢;dsimp only at hf ⊢;have n:lychgateref08_Scan.f 60000 s=some (L,e,p):=by rw [zlq s 60000 (qad _),j]
 have u:=zq (lychgateref08_Scan.calls 60000 s L e p (W.alloc (.cells #[.slice none 0 0] 36)) n);have k:=zq (zad (qam W.heap.size W) (.cells #[.slice none 0 0] 36));have q:=zq (qac W (.cells #[.slice none 0 0] 36));have hE:(e !=0)=true:=qax.2 hf;clear hf j n;go_enter func12,ntmps12;go_wp2_with (go_at_call 31;refine u.o.mono ?_;rintro z w1 ⟨v0,rfl,m,d⟩;obtain ⟨y,A,rfl⟩:=Kd.R_slice m;have am:=zq (zaz k.o k.o.size d);have b:=zaq q.o d;have r:=zq b;have w:=zab b 0;have B:=zac b 0;simp only [qal,qaj] at w;clear m d b);refine qaf (zbh rfl _ _ W.heap.size 36 #[.slice none 0 0] (0,0) _ rfl (zan (cs':=#[.slice none 0 0]) r.o 0 _ rfl) underlying36 rfl kae) rfl ?_;exact ⟨_,rfl,PolR.nil _ _,am.o.setCell (p:=⟨W.heap.size,0,none⟩) (qad _) _⟩
theorem refparse_calls (s:ByteArray) (W:World):Calls prog 12 #[.string s] W (RefQ W (zgm s).1 (zgm s).2.1 (zgm s).2.2):=by
 unfold zgm;by_cases hf:(zbv s).2.1=0
 ·rw [if_neg (fun h=>h hf)];obtain ⟨r,q,b,_⟩:=zft s hf;obtain ⟨res,d⟩:=zjb (zme b) (by rw [b];simp);have h:=refparse_items s W hf res d;rw [d];cases res<;>exact h
 rw [if_pos hf];exact refparse_scan s W hf
end
section
theorem parseS_w (s:ByteArray):wtI (zgm s).1<=8001:=by
 unfold zgm;by_cases hf:(zbv s).2.1=0
 ·rw [if_neg (fun h=>h hf)];obtain ⟨r,q,d,o⟩:=zft s hf;have m:=zme d;obtain ⟨res,h,n⟩:=zkh m (5*((zbv s).1.map zha).length+4) (qad _) (((zbv s).1.map zha).length+1) 0 [] (by rw [d];simp) kab;have b:zil ((zbv s).1.map zha)=some res:=h;rw [b];cases res with
  | ok l j=>
   have h1:=policyP_w _ b;have k:=(n l j rfl).2;rw [qcc] at k;show wtI l<=8001;omega
  | bad e p=>show wtI []<=8001;simp [wtI]
 rw [if_pos hf];simp [wtI]
def RI (W:World) (b:Nat) (l:List S62) (v:Value):Prop:=∃ cells L,Row W b 62 11 v l.length cells/\zgh W b l cells L
theorem Pol.ri {W:World} {b:Nat} {l:List S62} {v:Value} (h:Pol W b l v):RI W b l v:=by
 obtain ⟨cells,L,h1,d,-,-⟩:=h;exact ⟨cells,L,h1,d⟩
theorem PolR.ri {W:World} {b:Nat} {l:List S62} {v:Value} (h:PolR W b l v):RI W b l v:=by
 obtain ⟨cells,L,h1,d,-⟩:=h;exact ⟨cells,L,h1,d⟩
theorem RI.below {W W1:World} {b:Nat} {l:List S62} {v:Value} (h:RI W b l v) (e:Below W.heap.size W W1):RI W1 b l v:=by
 obtain ⟨cells,L,h1,d⟩:=h;exact ⟨cells,L,h1.frame fun g hg=>e.block g (h1.blk hg).2.1,d.frame fun g hg=>e.block g (d.lt g hg).2⟩
theorem RI.form {W:World} {b:Nat} {l:List S62} {v:Value} (h:RI W b l v):∃ A c,v = .slice A l.length c:=by
 obtain ⟨cells,L,h1,d⟩:=h;obtain ⟨A,c,e,-⟩:=h1.form;exact ⟨A,c,e⟩
theorem same_ri {w:World} {b b':Nat} {l:List S62} {v d:Value} (h:RI w b l v) (k:RI w b' l d) (p:wtI l<=8001) :
  Calls prog 13 #[.agg #[v],.agg #[d]] w fun e w'=>e = .returned (.bool true)/\Below w.heap.size w w':=by
 obtain ⟨cells,L,h1,m⟩:=h;obtain ⟨cells',j,n,o⟩:=k;exact same_true w b b' l v d cells cells' L j h1 m n o p
end
section
end
section
end
section
end
section
end
section
def zuc (w:List UInt8) (R:Nat->(Int×Nat) ⊕ List S49):Prop:=
 (∀ (u:List UInt8) (p:Nat) (l:List S49) (b:Nat),zdo u p = .inr l->(∃ t r,l=t::r/\t.f4=((p+b:Nat):Int))->∀ q,zdo (u.take b++w) q=R (q+b)) /\
 ∀ i,(i=0\/i=3\/i=4\/i=5\/i=7)->zgk i w=true
theorem zmz (i:Int) (u w:List UInt8) (k:Nat) (hk:0<k) (b:k<=u.length) (h:zgk i u=true):zgk i (u.take k++w)=true:=by
 refine zna i u _ h (.inr ?_);obtain ⟨k,rfl⟩:∃ m,k=m+1:=⟨k-1,kab⟩;cases u with
 | nil=>simp at b
 | cons c r=>rfl
theorem skip_end:∀ (N:Nat) (u:List UInt8) (p:Nat) (l:List S49) (d:Nat),u.length<=N->zdo u p = .inr l->(∃ t r,l=t::r/\t.f4=((p+d:Nat):Int))->∀ q,zdo (u.take d) q = .inr [endS (q+d)]:=by
 intro N;induction N with
 | zero=>
  intro u p l d o h b q;have hu:=qbz.1 (show u.length=0 by omega);subst hu;rw [zcz] at h;obtain rfl:=qbh h;obtain ⟨t,r,b,hp⟩:=b;obtain ⟨rfl,rfl⟩:=List.cons.inj b;have hp:(p:Int)=((p+d:Nat):Int):=hp;obtain rfl:d=0:=kab;exact zcz q
 | succ N B=>
  intro u p l d o h b q;by_cases s:d=0
  ·subst s;exact zcz q
  by_cases hu:u=[]
  ·subst hu;rw [zcz] at h;obtain rfl:=qbh h;obtain ⟨t,r,b,hp⟩:=b;obtain ⟨rfl,rfl⟩:=List.cons.inj b;have hp:(p:Int)=((p+d:Nat):Int):=hp;omega
  match ht:tokS u with
  | .inl e=>rw [zga u p e hu ht] at h;cases h
  | .inr (t,n)=>
   have E:=zfi _ _ _ ht;rw [zea u p t n ht] at h
   match hs:zdo (u.drop n) (p+n) with
   | .inl x=>rw [hs] at h;cases h
   | .inr D=>
    rw [hs] at h;obtain rfl:=qbh h;obtain ⟨J,G,b,hp⟩:=b;by_cases j:t.f0=0
    ·rw [if_pos j,qbw] at b;obtain ⟨k,t2,I,m,hk,y⟩:=zli _ (u.drop n) (p+n) D (qad _) hs;obtain ⟨rfl,rfl⟩:=List.cons.inj (b.symm.trans m);obtain rfl:d=n+k:=kab;rw [List.take_add];have z:zgk (inS u) ((u.drop n).take k)=true:=by
      by_cases w:k=0
      ·subst w;rfl
      have:=zmz (inS u) (u.drop n) [] k kab y (zix u t n ht (by rcases (zks u t n ht).1 j with h|h<;>omega));rwa [List.append_nil] at this
     obtain ⟨_,_,A⟩:=zhs u ((u.drop n).take k) t n ht (fun _=>z);rw [zea _ q t n A,if_pos j,zic,List.drop_left' (by rw [qbi];omega)];rw [B (u.drop n) (p+n) _ k kbf hs ⟨_,_,m,hk⟩ (q+n)];rw [show q+n+k=q+(n+k) by omega]
    rw [if_neg j] at b;obtain ⟨rfl,_⟩:=List.cons.inj b;have hp:(p:Int)=((p+d:Nat):Int):=hp;omega
theorem behind_nil:zuc [] fun q => .inr [endS q]:=
 ⟨fun u p l d h b q=>by rw [List.append_nil];exact skip_end _ u p l d (qad _) h b q,fun i _=>rfl⟩
theorem behind_line (rest:List UInt8):zuc (10::rest) fun q=>zdo (rest.dropWhile (gB 1)) (q+(1+(rest.takeWhile (gB 1)).length)):=by
 have e:10::rest=(10::rest.takeWhile (gB 1))++rest.dropWhile (gB 1):=by rw [List.cons_append,List.takeWhile_append_dropWhile]
 have j:∀ x∈10::rest.takeWhile (gB 1),zaw (x.toNat:Int)=1:=fun x d=>by
  rcases List.mem_cons.1 d with rfl|d
  ·decide
  have:=qbn.1 List.all_takeWhile x d;rw [gB1] at this;exact qaq.1 this
 have k:zgk 1 (rest.dropWhile (gB 1))=true:=by
  cases hd:rest.dropWhile (gB 1) with
  | nil=>rfl
  | cons b r=>
   show (!gB 1 b)=true;have:=List.head_dropWhile_not (gB 1) (l:=rest) (by rw [hd];simp);simp only [hd,List.head_cons] at this;rw [this];rfl
 refine ⟨fun u p l n h m q=>?_,fun i hi=>?_⟩
 ·rw [e,skip_sep _ u p l n (qad _) h m (10::rest.takeWhile (gB 1)) _ (by simp) j rfl k q];congr 1;rw [qay];omega
 show (!gB i 10)=true;rcases hi with rfl|rfl|rfl|rfl|rfl<;>decide
theorem zjp:∀ (u:List UInt8) (p:Nat) (l:List S49),zdo u p = .inr l->(∀ t∈l,(p:Int)<=t.f4)/\True:=by
 have main:∀ (N:Nat) (u:List UInt8) (p:Nat) (l:List S49),u.length<=N->zdo u p = .inr l->∀ t∈l,(p:Int)<=t.f4:=by
  intro N;induction N with
  | zero=>
   intro u p l k h t ht;have hu:=qbz.1 (show u.length=0 by omega);subst hu;rw [zcz] at h;obtain rfl:=qbh h;obtain rfl:t=endS p:=(by simpa using ht);exact Int.le_refl _
  | succ N m=>
   intro u p l k h b j;by_cases hu:u=[]
   ·subst hu;rw [zcz] at h;obtain rfl:=qbh h;obtain rfl:b=endS p:=(by simpa using j);exact Int.le_refl _
   match ht:tokS u with
   | .inl e=>rw [zga u p e hu ht] at h;cases h
   | .inr (t,n)=>
    have q:=zfi _ _ _ ht;rw [zea u p t n ht] at h
    match hs:zdo (u.drop n) (p+n) with
    | .inl x=>rw [hs] at h;cases h
    | .inr o=>
     rw [hs] at h;obtain rfl:=qbh h;rcases qbg.1 j with h1|h1
     ·by_cases d:t.f0=0
      ·rw [if_pos d] at h1;cases h1
      rw [if_neg d] at h1;obtain rfl:b=atS t p:=(by simpa using h1);exact Int.le_refl _
     have:=m (u.drop n) (p+n) o kbf hs b h1;omega
 exact fun u p l h=>⟨main _ u p l (qad _) h,trivial⟩
theorem znb {w:List UInt8} {R:Nat->(Int×Nat) ⊕ List S49} (s:zuc w R):∀ (N:Nat) (u:List UInt8) (p:Nat) (l:List S49) (j:Nat) (c:Nat),u.length<=N->zdo u p = .inr l->(∃ t,l[j]?=some t/\t.f4=((p+c:Nat):Int)) ->
  c<=u.length/\(0<j->0<c)/\zdo (u.take c++w) p=addT (l.take j) (R (p+c)):=by
 intro N;induction N with
 | zero=>
  intro u p l j c G h d;have hu:=qbz.1 (show u.length=0 by omega);subst hu;have E:=h;rw [zcz] at h;obtain rfl:=qbh h;obtain ⟨t,d,hp⟩:=d;have y:j=0:=by have:=(qbm.1 d).1;simp at this;exact this
  subst y;have d:endS p=t:=by simpa using d
  subst d;have hp:(p:Int)=((p+c:Nat):Int):=hp;obtain rfl:c=0:=kab;exact ⟨qad _,fun h=>h,by rw [s.1 [] p _ 0 E ⟨_,_,rfl,rfl⟩ p];exact (zic _).symm⟩
 | succ N Z=>
  intro u p l j c G h d;by_cases y:j=0
  ·subst y;obtain ⟨k,t,r,rfl,hk,O⟩:=zli _ u p l (qad _) h;obtain ⟨q,d,hp⟩:=d;have d:t=q:=(by simpa using d);subst d;obtain rfl:c=k:=kab;exact ⟨O,fun h=>absurd h kad,by rw [s.1 u p _ c h ⟨_,_,rfl,hk⟩ p];exact (zic _).symm⟩
  by_cases hu:u=[]
  ·subst hu;rw [zcz] at h;obtain rfl:=qbh h;obtain ⟨t,d,hp⟩:=d;have:=(qbm.1 d).1;simp at this;omega
  match ht:tokS u with
  | .inl e=>rw [zga u p e hu ht] at h;cases h
  | .inr (t,n)=>
   have af:=zfi _ _ _ ht;rw [zea u p t n ht] at h
   match hs:zdo (u.drop n) (p+n) with
   | .inl x=>rw [hs] at h;cases h
   | .inr z=>
    rw [hs] at h;obtain rfl:=qbh h;obtain ⟨q,d,hp⟩:=d;obtain ⟨I,_⟩:=zjp (u.drop n) (p+n) z hs;have U:∃ i,z[i]?=some q/\(t.f0=0->i=j)/\(t.f0≠0->j=i+1):=by
     by_cases m:t.f0=0
     ·rw [if_pos m,qbw] at d;exact ⟨j,d,fun _=>rfl,fun h=>absurd m h⟩
     rw [if_neg m] at d;obtain ⟨i,rfl⟩:∃ i,j=i+1:=⟨j-1,kab⟩;exact ⟨i,by simpa using d,fun h=>absurd h m,fun _=>rfl⟩
    obtain ⟨i,D,B,L⟩:=U;have ad:((p+n:Nat):Int)<=q.f4:=I q (List.mem_of_getElem? D);obtain ⟨o,rfl⟩:∃ o,c=n+o:=⟨c-n,kab⟩;obtain ⟨k1,k2,k3⟩:=Z (u.drop n) (p+n) z i o kbf hs ⟨q,D,by rw [hp];congr 1;omega⟩;rw [qbv] at k1;refine ⟨kab,fun _=>by omega,?_⟩;have X:inS u≠6->zgk (inS u) ((u.drop n).take o++w)=true:=by
     intro A;by_cases J:o=0
     ·subst J;rw [List.take_zero,qbw];by_cases m:t.f0=0
      ·have:=B m;have:=k2 kab;omega
      refine s.2 _ ?_;have M:=(zks u t n ht).2 m;cases u with
      | nil=>exact absurd rfl hu
      | cons b r=>
       have:=zkm (b.toNat:Int);have e:inS (b::r)=zaw (b.toNat:Int):=rfl;rw [e] at M A ⊢;omega
     exact zmz _ (u.drop n) w o kab kbf (zix u t n ht A)
    obtain ⟨_,_,Y⟩:=zhs u ((u.drop n).take o++w) t n ht X;rw [List.take_add,qbt,zea _ p t n Y,List.drop_left' (by rw [qbi];omega),k3,addT_add];rw [show p+n+o=p+(n+o) by omega];congr 1;by_cases m:t.f0=0
    ·rw [if_pos m,qbw,qbw,B m]
    rw [if_neg m,L m];rfl
end
section
theorem tk_map (l:List S49) (j:Nat) (t:S49) (h:l[j]?=some t):tk (l.map zha) j=zha t:=by
 unfold tk;rw [qar,qcd,h];rfl
theorem scan_pair:∀ (N:Nat) (u:List UInt8) (p:Nat) (l:List S49),u.length<=N->zdo u p = .inr l->l.Pairwise fun a b=>a.f4<b.f4:=by
 intro N;induction N with
 | zero=>
  intro u p l k h;have hu:=qbz.1 (show u.length=0 by omega);subst hu;rw [zcz] at h;obtain rfl:=qbh h;exact List.pairwise_singleton _ _
 | succ N o=>
  intro u p l k h;by_cases hu:u=[]
  ·subst hu;rw [zcz] at h;obtain rfl:=qbh h;exact List.pairwise_singleton _ _
  match ht:tokS u with
  | .inl e=>rw [zga u p e hu ht] at h;cases h
  | .inr (t,n)=>
   have q:=zfi _ _ _ ht;rw [zea u p t n ht] at h
   match hs:zdo (u.drop n) (p+n) with
   | .inl x=>rw [hs] at h;cases h
   | .inr j=>
    rw [hs] at h;obtain rfl:=qbh h;have hi:=o (u.drop n) (p+n) j kbf hs;by_cases d:t.f0=0
    ·rw [if_pos d,qbw];exact hi
    rw [if_neg d];refine List.pairwise_cons.2 ⟨fun b m=>?_,hi⟩;have:=(zjp (u.drop n) (p+n) j hs).1 b m;show (p:Int)<b.f4;omega
theorem znd:∀ (d:Nat) (u:List UInt8) (p:Nat) (e:Int) (q:Nat),u.length<d->zfn d u p = .inl (e,q)->80<=e/\e<=83
 | 0,_,_,_,_,hd,_=>by omega
 | _+1,[],_,_,_,_,h=>by cases h
 | d+1,b::r,p,e,q,hd,h=>by
  simp only [zfn] at h;split at h
  ·rename_i e' ht;have h1:=zso _ _ ht;have h:=Sum.inl.inj h;injection h with k m;omega
  rename_i t n ht;have hn:=zfi (b::r) t n ht;split at h
  ·rename_i x j;have h:=Sum.inl.inj h;subst h;exact znd d _ _ _ _ kbf j
  cases h
theorem scanA_errs (s:ByteArray) (h:(zbv s).2.1≠0):80<=(zbv s).2.1/\(zbv s).2.1<90:=by
 unfold zbv at h ⊢;by_cases hs:s.size>8000
 ·rw [if_pos hs];exact ⟨by show (80:Int)<=84;decide,by show (84:Int)<90;decide⟩
 rw [if_neg hs] at h ⊢
 match b:zfn (s.size+1) (bl s) 0 with
 | .inl (e,p)=>
  have:=znd _ _ _ _ _ (by rw [zbi];omega) b;exact ⟨this.1,by show e<90;omega⟩
 | .inr l=>rw [b] at h;exact absurd rfl h
theorem zri (s:ByteArray) (h:(zbv s).2.1=0):s.size<=8000/\zdo (bl s) 0 = .inr (zbv s).1:=by
 have b:s.size<=8000:=by
  by_cases hs:s.size>8000
  ·unfold zbv at h;rw [if_pos hs] at h;exact absurd h kad
  omega
 refine ⟨b,?_⟩;have j:=zlj ((bl s).length+1) (bl s) 0;rw [zll s b] at h ⊢
 match d:zdo (bl s) 0 with
 | .inl (e,p)=>
  rw [d] at h;exact absurd h (j e p kab d)
 | .inr l=>simp [zlk]
theorem scanA_of {s:ByteArray} {l:List S49} (b:s.size<=8000) (h:zdo (bl s) 0 = .inr l):zbv s=(l,0,0):=by
 rw [zll s b,h];simp [zlk]
theorem scan_cut (s:ByteArray) (h:(zbv s).2.1=0) (j:Nat) (t:S49) (d:(zbv s).1[j]?=some t):∃ m:Nat,t.f4=(m:Int)/\m<=s.size/\zbv (s.extract 0 m)=((zbv s).1.take j++[endS m],0,0) /\
  ∀ rest:ByteArray,(zbv ((s.extract 0 m++(⟨#[10]⟩:ByteArray))++rest)).2.1≠0\/∃ n,(zbv ((s.extract 0 m++(⟨#[10]⟩:ByteArray))++rest)).1=(zbv s).1.take j++n:=by
 obtain ⟨u,hu⟩:=zri s h;have w:=zbi s;have r:=(zjp _ _ _ hu).1 t (List.mem_of_getElem? d);obtain ⟨m,k⟩:∃ m:Nat,t.f4=(m:Int):=⟨t.f4.toNat,kab⟩;obtain ⟨f1,-,f3⟩:=znb behind_nil _ (bl s) 0 _ j m (qad _) hu ⟨t,d,by rw [k];congr 1;omega⟩;refine ⟨m,k,kab,?_,fun rest=>?_⟩
 ·rw [List.append_nil,Nat.zero_add] at f3;exact scanA_of (by rw [zfe,zcw,qbi];omega) (by rw [zfe,zuz,f3];rfl)
 by_cases p:(zbv ((s.extract 0 m++(⟨#[10]⟩:ByteArray))++rest)).2.1=0
 ·right;obtain ⟨g8,b⟩:=zri _ p;have e:bl ((s.extract 0 m++(⟨#[10]⟩:ByteArray))++rest)=(bl s).take m++10::bl rest:=by
   rw [zfe];simp [bl,toS]
  obtain ⟨-,-,q⟩:=znb (behind_line (bl rest)) _ (bl s) 0 _ j m (qad _) hu ⟨t,d,by rw [k];congr 1;omega⟩;rw [e,q] at b
  match o:zdo ((bl rest).dropWhile (gB 1)) (0+m+(1+((bl rest).takeWhile (gB 1)).length)) with
  | .inl x=>rw [o] at b;cases b
  | .inr n=>
   rw [o] at b;exact ⟨n,(qbh b).symm⟩
 exact .inl p
end
section
theorem zqz (a b:Int):∃ r,lychgatelaw09_add.f a b=some r:=by
 unfold lychgatelaw09_add.f;split<;>exact ⟨_,rfl⟩
theorem zmx (a:Int):∃ r,lychgatelaw09_thrice.f a=some r:=by
 obtain ⟨x,b⟩:=zqz a a;obtain ⟨y,d⟩:=zqz a x;exact ⟨y,by simp [lychgatelaw09_thrice.f,b,d]⟩
theorem ztb (m n:Nat) (h:m<=n):0<=(m:Int)/\(m:Int)<=(n:Int):=kab
theorem near_bd1 (i L:Nat) (h:i+1<L):0<=(i:Int)+1/\(i:Int)+1<(L:Int):=kab
theorem near_wrap (i L:Nat) (hi:i<L) (h:L<=8001):wrap64 ((i:Int)+1)=(i:Int)+1:=by unfold wrap64;omega
theorem toks_keep {W w:World} {T:Nat} {toks:List Tok} (h:Toks W T toks) (d:Below W.heap.size W w):Toks w T toks:=by
 obtain ⟨cs,h1,b⟩:=h;exact ⟨cs,(d.block T (zam h1)).trans h1,b⟩
theorem zpb (x:Int) (h1 : -9223372036854775808<=x) (b:x<=9223372036854775807):wrap64 x=x:=by unfold wrap64;omega
theorem pick_in (a:Int) (n:Nat) (h1 : -9223372036854775808<=a) (j:a<=9223372036854775807) (hn:0<n):∃ k:Nat,k<n/\lychgatelaw09_pick.f a (n:Int)=some (k:Int):=by
 have main:∀ m:Nat,∃ k:Nat,k<n/\Int.tmod (m:Int) (n:Int)=(k:Int):=fun m=>⟨m%n,Nat.mod_lt _ hn,by rw [Int.tmod_eq_emod_of_nonneg kab];rfl⟩;unfold lychgatelaw09_pick.f;by_cases e:a<0
 ·rw [if_pos e,if_neg kab,zpb (a+1) kab kab,zpb (-(a+1)) kab kab];obtain ⟨m,d⟩:∃ m:Nat,-(a+1)=(m:Int):=⟨(-(a+1)).toNat,kab⟩;obtain ⟨k,hk,b⟩:=main m;exact ⟨k,hk,by rw [d,b]⟩
 rw [if_neg e,if_neg kab];obtain ⟨m,d⟩:∃ m:Nat,a=(m:Int):=⟨a.toNat,kab⟩;obtain ⟨k,hk,b⟩:=main m;exact ⟨k,hk,by rw [d,b]⟩
theorem one_eq (L:Nat) (h:L=1):((L:Int)==1)=true:=qaq.2 kab
theorem one_ne (L:Nat) (h:¬L=1):((L:Int)==1)=false:=qag.2 kab
theorem sub_one (L:Nat) (h:1<=L) (b:L<=8001):wrap64 ((L:Int)-1)=((L-1:Nat):Int):=by unfold wrap64;omega
theorem nat_bd (k L:Nat) (h:k<L):0<=(k:Int)/\(k:Int)<(L:Int):=kab
theorem zuo (ts:List ByteArray) (i:Nat) (t:ByteArray) (h:ts[i]?=some t):((ts.map Value.string).toArray)[i]?=some (.string t):=by
 rw [qal,qcd,h];rfl
theorem near_calls (s:ByteArray) (at_:Int) (other:ByteArray) (W:World) (aN:Inv W) (hs:s.size<=140737488351232) (ha:(Lit.int .i64 at_).wf=true) (ho:other.size<=140737488351232) :
  Calls prog 4 #[.string s,.int .i64 at_,.string other] W fun e W'=>e = .returned (.bool true)/\Below W.heap.size W W':=by
 obtain ⟨x1,aX⟩:=zqz (s.size:Int) (other.size:Int);obtain ⟨x2,aY⟩:=zmx x1;obtain ⟨x3,aZ⟩:=zmx x2;have U:=zq (fun w=>lychgatelaw09_add.calls _ _ x1 w aX);have B:=zq (fun w=>lychgatelaw09_thrice.calls _ x2 w aY);have X:=zq (fun w=>lychgatelaw09_thrice.calls _ x3 w aZ);have HI:=zq aN;have a8 : -9223372036854775808<=at_/\at_<=9223372036854775807:=by
  simp [Lit.wf,IntKind.min,IntKind.max,IntKind.signed,IntKind.bits] at ha;omega
 clear aX aY aZ aN ha;by_cases b9:x3>2147483647
 ·go_enter func4,ntmps4;go_wp2_with (first
   | (go_at_call 9;refine (U.o _).mono ?_;rintro e1 w1 ⟨rfl,hd⟩;have am:=zq hd.below;clear hd)
   | (go_at_call 8;refine (B.o _).mono ?_;rintro e2 w2 ⟨rfl,hd⟩;have aj:=zq (zaz am.o am.o.size hd.below);clear hd B)
   | (go_at_call 8;refine (X.o _).mono ?_;rintro e3 w3 ⟨rfl,hd⟩;have n:=zq (zaz aj.o aj.o.size hd.below);clear hd))
  go_ret;exact ⟨rfl,n.o⟩
 obtain ⟨⟨L,e,p⟩,aE⟩:∃ x,zbv s=x:=⟨_,rfl⟩;have aK:=zq (fun w (h:Below W.heap.size W w)=>lex_Scan.calls 18000 s L e p w (HI.o.below h) (by rw [zqo s 18000 (qad _),aE]));have aF:=zq (fun w (h:Below W.heap.size W w)=>awake_calls w (HI.o.below h));have aH:=zq aE;clear aE;go_enter func4,ntmps4;go_upto_region 5 with (first
  | (go_at_call 9;refine (U.o _).mono ?_;rintro e1 w1 ⟨rfl,hd⟩;have am:=zq hd.below;clear hd)
  | (go_at_call 8;refine (B.o _).mono ?_;rintro e2 w2 ⟨rfl,hd⟩;have aj:=zq (zaz am.o am.o.size hd.below);clear hd B)
  | (go_at_call 8;refine (X.o _).mono ?_;rintro e3 w3 ⟨rfl,hd⟩;have n:=zq (zaz aj.o aj.o.size hd.below);clear hd)
  | (go_at_call 10;refine (aF.o _ n.o).mono ?_;rintro e4 w4 ⟨rfl,aP⟩;have Y:=zq (zaz n.o n.o.size aP);clear aP)
  | (go_at_call 16;refine (aK.o _ Y.o).mono ?_;rintro e5 w5 ⟨v0,rfl,hR,aQ⟩;have aO:=hR;obtain ⟨A0,k0,rfl⟩:=Kd.R_slice hR;have HR:=zq aO;have D:=zq (zaz Y.o Y.o.size aQ);clear hR aO aQ))
 clear U X aK aF;by_cases h0:e=0
 ·subst h0;have J:(zbv s).2.1=0:=by rw [aH.o]
  obtain ⟨rr,q0,j,d⟩:=zft s J;have hcut:=scan_cut s J;rw [aH.o] at j d hcut;dsimp only at j d hcut;obtain ⟨T,c,hv,aR,I⟩:=zql HR.o (by rw [j];simp);injection hv with b4 aW bE;subst b4;obtain ⟨toks,A⟩:∃ toks,L.map zha=toks:=⟨_,rfl⟩;have z:L.length=toks.length:=by rw [<-A,qcc]
  have aC:1<=toks.length:=by rw [<-z,j];simp
  rw [A] at I;rw [z] at d;have HT:=zq I;have M:∀ i t,L[i]?=some t->(tk toks i).place=t.f4:=fun i t ht=>by rw [<-A,tk_map _ _ _ ht];rfl
  simp only [z];by_cases h1:toks.length=1
  ·have bu:=one_eq _ h1;have b8:((toks.length:Int)=1):=kab;clear hcut j M A z I aW aR HR J aC d;go_wp2;go_ret;exact ⟨rfl,D.o⟩
  obtain ⟨k,hk,aU⟩:=pick_in at_ (toks.length-1) a8.1 a8.2 kab;have aS:k+1<toks.length:=kab;have aB:k<toks.length:=kab;have hL:=qan (l:=L) (i:=k) kab;have a6:=qan (l:=L) (i:=k+1) kab;have bq:=zq (fun w=>lychgatelaw09_pick.calls at_ ((toks.length-1:Nat):Int) (k:Int) w aU);obtain ⟨m,hm,b1,-,-⟩:=hcut k _ hL;obtain ⟨m1,aT,b2,-,-⟩:=hcut (k+1) _ a6;have HM:=zq (And.intro ((M k _ hL).trans hm) ((M (k+1) _ a6).trans aT));have bx:0<=(m:Int)/\(m:Int)<=(s.size:Int):=ztb _ _ b1;have bz:0<=(m1:Int)/\(m1:Int)<=(s.size:Int):=ztb _ _ b2;have bv:=nat_bd _ _ aB;have bw:=near_bd1 k toks.length aS;have bu:=one_ne _ h1;have b3:=sub_one _ aC d;have b5:wrap64 ((k:Int)+1)=(k:Int)+1:=near_wrap k toks.length aB d;clear hcut j M A z I aW aR HR J aC hm aT hL a6 aU h1 d hk;go_upto_region 10 with (go_at_call 17;refine (bq.o _).mono ?_;rintro e6 O ⟨rfl,hd⟩;have Z:=zq (zaz D.o D.o.size hd.below);have a7:=toks_keep HT.o hd.below;have e5:=(a7.cell (zdg toks aB)).2.2.2.2.2;have aM:=(a7.cell (zdg toks aS)).2.2.2.2.2;rw [HM.o.1] at e5;rw [HM.o.2] at aM;clear hd a7);go_region;have ad:=zq (show ((O.alloc (.cells #[.string (s.extract 0 m++s.extract m1 s.size),.string (s.extract 0 m1++⟨#[10]⟩++s.extract m s.size),.string (s.extract 0 m++other++⟨#[10]⟩++s.extract m1 s.size),.string (s.extract 0 m),.string (s.extract 0 m1),.string (s.extract 0 m1++⟨#[10]⟩++other)] 9)).drew).heap[O.heap.size]?=some (.cells (([s.extract 0 m++s.extract m1 s.size,s.extract 0 m1++⟨#[10]⟩++s.extract m s.size,s.extract 0 m++other++⟨#[10]⟩++s.extract m1 s.size,s.extract 0 m,s.extract 0 m1,s.extract 0 m1++⟨#[10]⟩++other]:List ByteArray).map Value.string).toArray 9 (0,0)) from qac O _);have q:=zq (Below.drew (Z.o.alloc Z.o.size (.cells #[.string (s.extract 0 m++s.extract m1 s.size),.string (s.extract 0 m1++⟨#[10]⟩++s.extract m s.size),.string (s.extract 0 m++other++⟨#[10]⟩++s.extract m1 s.size),.string (s.extract 0 m),.string (s.extract 0 m1),.string (s.extract 0 m1++⟨#[10]⟩++other)] 9)));have b0:([s.extract 0 m++s.extract m1 s.size,s.extract 0 m1++⟨#[10]⟩++s.extract m s.size,s.extract 0 m++other++⟨#[10]⟩++s.extract m1 s.size,s.extract 0 m,s.extract 0 m1,s.extract 0 m1++⟨#[10]⟩++other]:List ByteArray).length=6:=rfl;generalize ([s.extract 0 m++s.extract m1 s.size,s.extract 0 m1++⟨#[10]⟩++s.extract m s.size,s.extract 0 m++other++⟨#[10]⟩++s.extract m1 s.size,s.extract 0 m,s.extract 0 m1,s.extract 0 m1++⟨#[10]⟩++other]:List ByteArray)=ts at ad b0;clear bx bz bv bw b3 b5 e5 aM Z a8;go_wp2;go_loopg [15] 7 (fun f iv wr=>∃ i:Nat,iv = .int .i64 i/\i<=6/\6-i<f/\Zq (Below W.heap.size W wr)/\Zq (wr.heap[O.heap.size]?=some (.cells (ts.map Value.string).toArray 9 (0,0))));case atStart=>exact ⟨0,rfl,kab,kab,q,ad⟩
  case round=>
   clear q ad;obtain ⟨i,rfl,hi,bA,HB,HQ⟩:=hrel;obtain ⟨f,rfl⟩:∃ f',gk=f'+1:=⟨gk-1,kab⟩;by_cases bD:i<6
   ·obtain ⟨t,ht⟩:∃ t,ts[i]?=some t:=⟨_,qan kab⟩;have c0:=(zab HQ.o i).trans (zuo ts i t ht);have E:=zq (fun w (h:Below W.heap.size W w)=>zim t w (HI.o.below h));have G:=zq (fun w=>refparse_calls t w);have HW:=zq (parseS_w t);have bs:=zq ht;have bB:(i:Int)<6:=kab;generalize zgm t=r at E G HW;obtain ⟨pl,er,pp⟩:=r;dsimp only at E G HW;clear ht;go_wp2_with (first
     | (go_at_call 11;refine (E.o _ HB.o).mono ?_;rintro e7 w7 ⟨v7,rfl,u,y⟩;have af:=u.ri;obtain ⟨A7,c7,rfl⟩:=af.form;have b:=zad y (.cells #[.slice A7 pl.length c7] 36);have q:=zq (zaz HB.o HB.o.size b);have aD:=(b.block _ (zam HQ.o)).trans HQ.o;have b6:=(zab aD i).trans (zuo ts i t bs.o);have aI:=zq aD;have bk:=zq (af.below (zad (qam _ _) (.cells #[.slice A7 pl.length c7] 36)));have aL:=zq (qac w7 (.cells #[.slice A7 pl.length c7] 36));clear u y af b aD E)
     | (go_at_call 12;refine (G.o _).mono ?_;rintro e8 w8 ⟨v8,rfl,u,y⟩;have a1:=u.ri;obtain ⟨A8,c8,rfl⟩:=a1.form;have b:=zad y (.cells #[.slice A8 pl.length c8] 36);have aG:=zq (zaz q.o q.o.size b);have aV:=(b.block _ (zam aI.o)).trans aI.o;have aJ:=zq aV;have bo:=zq (bk.o.below b);have bp:=zq (a1.below (zad (qam _ _) (.cells #[.slice A8 pl.length c8] 36)));have bb:=(b.block _ (zam aL.o)).trans aL.o;have y7:=zab bb 0;have y8:=zab (qac w8 (.cells #[.slice A8 pl.length c8] 36)) 0;simp only [qal,qaj] at y7 y8;clear u y a1 b aV bb G)
     | (go_at_call 13;refine (same_ri bo.o bp.o HW.o).mono ?_;rintro e9 w9 ⟨rfl,aA⟩;have bd:=zq (zaz aG.o aG.o.size aA);have br:=zq ((aA.block _ (zam aJ.o)).trans aJ.o);clear aA))
    go_roundg f
    case measure=>omega
    case rel=>exact ⟨i+1,by first|rfl|(congr 1;unfold wrap64;omega),kab,kab,bd,br⟩
   obtain rfl:i=6:=kab;go_wp2;go_ret;exact ⟨rfl,HB.o⟩
 have b7:(e !=0)=true:=qax.2 h0;clear h0;go_wp2;go_ret;exact ⟨rfl,D.o⟩
end
end Go.Proofs.YtjeekocidaogoaaGreatDoor.H
