import Derived.Test.YtjeekocidaogoaaGreatDoorK7Hx23
import Derived.Test.YtjeekocidaogoaaGreatDoorK7Addr
import Derived.Test.YtjeekocidaogoaaGreatDoorK7Mut
import Derived.Test.YtjeekocidaogoaaGreatDoorK7Hx9
set_option linter.unusedVariables false
set_option linter.unusedSimpArgs false
set_option maxRecDepth 100000
set_option maxHeartbeats 8000000
open Go.Proofs.Tryz
namespace Go.Proofs.YtjeekocidaogoaaGreatDoor.H
open Go.RowKit Go.Proofs.YtjeekocidaogoaaGreatDoor.Hand Go.Proofs.YtjeekocidaogoaaGreatDoorW.PrintWords Go.Proofs.YtjeekocidaogoaaGreatDoorW.PrintLast Go.Proofs.YtjeekocidaogoaaGreatDoorW.PrintMore
section
def wLet:List UInt8:=[108,101,116]
def zec:List UInt8:=[97,108,108,111,119]
def zfo:List UInt8:=[100,101,110,121]
def zep:List UInt8:=[119,104,101,110]
def zhx (x:S62) (s:PQ):Option PQ:=
 if x.f0=1 then some ((zbp x.f1 (s.one wLet)).signs [61])
 else if x.f0=2 then some ((zbp x.f1 (s.one zec)).one zep)
 else if x.f0=3 then some ((zbp x.f1 (s.one zfo)).one zep)
 else none
def zfl:List S62->PQ->Option PQ
 | [],s=>some s
 | x::r,s=>if (s.bad||zeq s)=true then none else match zhx x s with
  | none=>none
  | some t=>zfl r ((zbq 16 x.f2 t).signs [59])
def zfg (l:List S62):List UInt8×Bool:=match zfl l ((⟨[],false,false⟩:PQ).must (decide (l.length<=100))) with
 | none=>([],false)
 | some s=>(s.o,!s.bad&&!zeq s)
def zmh (l:List S62):Nat:=(l.map fun x=>x.f1.size+zdc 16 x.f2+20).sum
theorem bC_nums (l:List UInt8):bC l=nums .u8 (l.map fun b=>(b.toNat:Int)):=by simp [bC,nums]
theorem str_nums (l:List UInt8):strOfNums (l.map fun b=>(b.toNat:Int))=tB l:=zog l
theorem pr_string {W0 W:World} {g:Nat} {s:PQ} {A:Option Addr} {c:Nat} (h:PrS W0 W g s) (i:W.cell? ⟨g,0,none⟩=some (.slice A s.o.length c)) :
  (convert 64 9 (.slice A s.o.length c)).run prog W = .ok (.string (tB s.o)) W:=by
 obtain ⟨A',c',c0,-,-,-,-,-,d,-⟩:=h.facts;have e:=qaa (i.symm.trans c0);simp only [Value.slice.injEq] at e;obtain ⟨rfl,-,rfl⟩:=e;rw [bC_nums] at d;obtain ⟨j,c2,b,hr⟩:=own_reads d;simp only [Value.slice.injEq] at b;obtain ⟨rfl,-,rfl⟩:=b;rw [<-str_nums];exact string_of_reads underlying64 underlying5 underlying9 hr
theorem zcx {w:World} {q:Nat} {v0 v1 v2 v3 v4 v5 c d e v9 b:Value} (h:w.heap[q]?=some (.cells #[v0,v1,v2,v3,v4,v5,c,d,e,v9,b] 62 (0,0))) :
  w.cell? ⟨q,0,none⟩=some v0/\w.cell? ⟨q,1,none⟩=some v1/\w.cell? ⟨q,2,none⟩=some v2/\w.cell? ⟨q,3,none⟩=some v3/\w.cell? ⟨q,4,none⟩=some v4/\w.cell? ⟨q,5,none⟩=some v5/\w.cell? ⟨q,6,none⟩=some c/\w.cell? ⟨q,7,none⟩=some d/\w.cell? ⟨q,8,none⟩=some e/\w.cell? ⟨q,9,none⟩=some v9/\w.cell? ⟨q,10,none⟩=some b:=
 ⟨zab h 0,zab h 1,zab h 2,zab h 3,zab h 4,zab h 5,zab h 6,zab h 7,zab h 8,zab h 9,zab h 10⟩
theorem costI_drop (l:List S62) (i:Nat) (h:i<l.length):zmh (l.drop i)=(l.getD i z62).f1.size+zdc 16 (l.getD i z62).f2+20+zmh (l.drop (i+1)):=by
 unfold zmh;rw [qbh h,qat,qao h];simp only [qcf,List.sum_cons,Option.getD_some]
def finQ:Option PQ->List UInt8×Bool
 | none=>([],false)
 | some s=>(s.o,!s.bad&&!zeq s)
def PrintE (W:World) (r:List UInt8×Bool) (e:Ending) (W':World):Prop:=e = .returned (.tuple #[.string (tB r.1),.bool r.2])/\Below W.heap.size W W'
theorem zjd (W:World) (bF:Inv W) (A:Option Addr) (c:Nat) (l:List S62) (hC:k62.C W A l.length l) (hc:l.length<=c) (hm:l.length<=140737488351232) (hw:∀ x∈l,Wide 16 x.f2) (hl:zmh l+10<=140737488351232) :
  Calls prog 42 #[.agg #[.slice A l.length c]] W (PrintE W (zfg l)):=by
 have aY:=zq bF;have bI:=zq hC;have bJ:=zq hw;have hr:zfg l=finQ (zfl l ((⟨[],false,false⟩:PQ).must (decide (l.length<=100)))):=by
  unfold zfg finQ;cases zfl l ((⟨[],false,false⟩:PQ).must (decide (l.length<=100)))<;>rfl
 rw [hr];generalize b7:finQ (zfl l ((⟨[],false,false⟩:PQ).must (decide (l.length<=100))))=r;have b5:=zq b7;have HL:=zq hl;have b4:=zq (show PrS W ((W.alloc (.cells #[.slice A l.length c] 36)).alloc (.cells #[.slice none 0 0,.bool false,.bool false] 116)) (W.heap.size+1) ⟨[],false,false⟩ from by
  refine ⟨⟨.slice none 0 0,?_,zsz _ _ _ _⟩,kab,((qan _ _).alloc (qad _) _).alloc kax _⟩;have:=qab (W.alloc (.cells #[.slice A l.length c] 36)) (.cells #[.slice none 0 0,.bool false,.bool false] 116);rw [qae] at this;exact this)
 have hB:=zaf (qab W (.cells #[.slice A l.length c] 36)) (.cells #[.slice none 0 0,.bool false,.bool false] 116);have bA:=zq hB;obtain ⟨j,hg⟩:∃ n,n=W.heap.size+1:=⟨_,rfl⟩;have b3:=zq (fun w b (p:b=decide (l.length<=100)) (h:PrS W w (W.heap.size+1) ⟨[],false,false⟩)=>show Calls prog 65 #[.pointer (some ⟨W.heap.size+1,0,none⟩),.bool b] w (PrE W w (W.heap.size+1) ((⟨[],false,false⟩:PQ).must (decide (l.length<=100)))) from p ▸ zbu W w _ _ _ h);have b8:((⟨[],false,false⟩:PQ).must (decide (l.length<=100))).o=[]:=rfl;have bN:(decide ((l.length:Int)<=100)=true/\true=decide (l.length<=100))\/(decide ((l.length:Int)<=100)=false/\false=decide (l.length<=100)):=by
  by_cases h:l.length<=100
  ·exact .inl ⟨kbl,by simp [h]⟩
  exact .inr ⟨kbl,by simp [h]⟩
 generalize (⟨[],false,false⟩:PQ).must (decide (l.length<=100))=s0 at b5 b3 b8 b7;clear bF hC hw hr b7 hl hB;rcases bN with ⟨bE,b6⟩|⟨bE,b6⟩;all_goals
  have b9:=zq b6;clear b6;go_enter func42,ntmps42;go_wp2_with (go_at_call 65;refine (b3.o _ _ b9.o b4.o).mono ?_;rintro e1 w1 ⟨rfl,aB,aC⟩;have af:=aC.keep b4.o bA.o kad kad;have a8:=zq aB;have m0:=zab af 0;clear aB aC af);clear m0 b3 b4 bA b9 bE
  skip
  simp only [<-hg] at a8 ⊢;clear hg
  go_loopw [18] (fun i wr=>∃ k:Nat,∃ d,k<=l.length/\i = .int .i64 k/\Zq (PrS W wr j d)/\Zq (finQ (zfl (l.drop k) d)=r)/\Zq (d.o.length+zmh (l.drop k)+10<=140737488351232)) (fun i _=>l.length-(intOf i).toNat)
  case atStart=>exact ⟨0,s0,qbx _,rfl,a8,b5,⟨by rw [b8];have:=HL.o;show 0+zmh l+10<=_;omega⟩⟩
  case round=>
   clear a8 b5 HL b8;obtain ⟨k,d,hk,rfl,aG,bb,ba⟩:=hrel;by_cases b1:k<l.length
   ·obtain ⟨ad,X,d5,Y,d6,Z,d7,B8,d8,rfl,x0,x1,x2,x3,x4,x5,x6,x7,x8,x9,aZ,m5,e5,m6,e6,m7,e7,m8,e8⟩:=zsg bI.o (k:Int) kab kab;have bH:zdx l (k:Int)=l.getD k z62:=(by unfold zdx;rw [qax]);rw [bH] at x0 x1 x2 x3 x4 x5 x6 x7 x8 x9 aZ m5 e5 m6 e6 m7 e7 m8 e8;rw [qax] at x0 x1 x2 x3 x4 x5 x6 x7 x8 x9 aZ;have bG:l.drop k=l.getD k z62::l.drop (k+1):=by
     rw [qbh b1,qat,qao b1];rfl
    have O:=bb.o;rw [bG] at O;have aH:=ba.o;rw [costI_drop l k b1] at aH;have a6:=bJ.o (l.getD k z62) (by rw [qat,qao b1];exact List.getElem_mem _);clear bH bG bb ba;generalize l.getD k z62=x at x0 x1 x2 x3 x4 x5 x6 x7 x8 x9 aZ m5 e5 m6 e6 m7 e7 m8 e8 O aH a6;obtain ⟨f0,f1,y,f3⟩:=x;dsimp only at x0 x1 x2 x3 x4 x5 x6 x7 x8 x9 aZ m5 e5 m6 e6 m7 e7 m8 e8 aH a6;have ag:=aG.o.bel;have x0:=zag ag x0;have x1:=zag ag x1;have x2:=zag ag x2;have x3:=zag ag x3;have x4:=zag ag x4;have x5:=zag ag x5;have x6:=zag ag x6;have x7:=zag ag x7;have x8:=zag ag x8;have x9:=zag ag x9;have aZ:=zag ag aZ;have aX:=zq (show zes W y (.agg #[.int .i64 y.f0,.string y.f1,.string y.f2,.slice X y.f3.length d5,.slice Y y.f4.length d6,.slice Z y.f5.length d7,.slice B8 y.f6.length d8,.int .i64 y.f7]) from ⟨_,zji W y m5 e5 m6 e6 m7 e7 m8 e8,rfl⟩);clear ag m5 e5 m6 e6 m7 e7 m8 e8;have M:=zq (aG.o.alloc (.cells #[.int .i64 f0,.string f1,.int .i64 y.f0,.string y.f1,.string y.f2,.slice X y.f3.length d5,.slice Y y.f4.length d6,.slice Z y.f5.length d7,.slice B8 y.f6.length d8,.int .i64 y.f7,.int .i64 f3] 62));have aM:=zq (qab wr (.cells #[.int .i64 f0,.string f1,.int .i64 y.f0,.string y.f1,.string y.f2,.slice X y.f3.length d5,.slice Y y.f4.length d6,.slice Z y.f5.length d7,.slice B8 y.f6.length d8,.int .i64 y.f7,.int .i64 f3] 62));obtain ⟨A0,bD,a0,a1,a2,bK,bL,bM,-,-⟩:=M.o.facts;cases p:d.bad with
    | true=>
     have hn:zfl (⟨f0,f1,y,f3⟩::l.drop (k+1)) d=none:=(by rw [zfl,if_pos (by rw [p];rfl)]);rw [hn] at O;rw [p] at a2;subst O;have aJ:=zq M.o.bel;clear M aM aG aX aH a6 p hn;go_wp2
     go_ret2
     exact ⟨rfl,aJ.o⟩
    | false=>
     rw [p] at a2;cases aI:zeq d with
     | true=>
      have hn:zfl (⟨f0,f1,y,f3⟩::l.drop (k+1)) d=none:=(by rw [zfl,if_pos (by rw [aI,p];rfl)]);rw [hn] at O;subst O;have a7:=zq (show ∀ w,PrS W w j d->Calls prog 66 #[.pointer (some ⟨j,0,none⟩)] w fun e w'=>e = .returned (.bool true)/\w'=w from fun w h=>by have:=zdi W w j d h kab;rwa [show decide (8000<d.o.length)=true from aI] at this);have aJ:=zq M.o.bel;clear aM aG aX aH a6 p hn aI;go_wp2_with (go_at_call 66;refine (a7.o _ M.o).mono ?_;rintro el wl ⟨rfl,rfl⟩;clear a7)
      go_ret2
      exact ⟨rfl,aJ.o⟩
     | false=>
      have a7:=zq (show ∀ w,PrS W w j d->Calls prog 66 #[.pointer (some ⟨j,0,none⟩)] w fun e w'=>e = .returned (.bool false)/\w'=w from fun w h=>by have:=zdi W w j d h kab;rwa [show decide (8000<d.o.length)=false from aI] at this);rw [zfl,if_neg (by rw [aI,p];decide)] at O;by_cases h1:f0=1
      ·subst h1;rw [show zhx ⟨1,f1,y,f3⟩ d=some ((zbp f1 (d.one wLet)).signs [61]) from rfl] at O;have bv:(d.one wLet).o.length<=d.o.length+4:=zdz wLet d;have bw:(zbp f1 (d.one wLet)).o.length<=d.o.length+5+f1.size:=qas (zhu f1 _) kab;have bx:((zbp f1 (d.one wLet)).signs [61]).o.length<=d.o.length+6+f1.size:=(by rw [zcu];show _+1<=_;omega);have bz:(zbq 16 y ((zbp f1 (d.one wLet)).signs [61])).o.length<=d.o.length+12+f1.size+zdc 16 y:=qas (zgp 16 y _ a6) kab;have b0:((zbq 16 y ((zbp f1 (d.one wLet)).signs [61])).signs [59]).o.length<=d.o.length+13+f1.size+zdc 16 y:=(by rw [zcu];show _+1<=_;omega);have U:=zdj W (wr.alloc (.cells #[.int .i64 1,.string f1,.int .i64 y.f0,.string y.f1,.string y.f2,.slice X y.f3.length d5,.slice Y y.f4.length d6,.slice Z y.f5.length d7,.slice B8 y.f6.length d8,.int .i64 y.f7,.int .i64 f3] 62)) j d ⟨#[108,101,116]⟩ M.o (by show _+3+1<=_;omega);simp only [qae] at U;have aW:=fun e w' (h:PrE W (wr.alloc (.cells #[.int .i64 1,.string f1,.int .i64 y.f0,.string y.f1,.string y.f2,.slice X y.f3.length d5,.slice Y y.f4.length d6,.slice Z y.f5.length d7,.slice B8 y.f6.length d8,.int .i64 y.f7,.int .i64 f3] 62)) j (PQ.one (⟨#[108,101,116]⟩:ByteArray).data.toList d) e w')=>(show PrE W (wr.alloc (.cells #[.int .i64 1,.string f1,.int .i64 y.f0,.string y.f1,.string y.f2,.slice X y.f3.length d5,.slice Y y.f4.length d6,.slice Z y.f5.length d7,.slice B8 y.f6.length d8,.int .i64 y.f7,.int .i64 f3] 62)) j (d.one wLet) e w' from h);have U:=U.mono aW;have aA:=zq U;have HN:=zq (fun w (h:PrS W w j (d.one wLet))=>zgv W w j _ f1 aY.o h kab);have HG:=zq (fun w (h:PrS W w j (zbp f1 (d.one wLet)))=>show Calls prog 69 #[.pointer (some ⟨j,0,none⟩),.string ⟨#[61]⟩] w (PrE W w j ((zbp f1 (d.one wLet)).signs [61])) from zcq W w j _ ⟨#[61]⟩ h (by show _+1<=_;omega));have HC:=zq (fun w (h:PrS W w j ((zbp f1 (d.one wLet)).signs [61]))=>show Calls prog 70 #[.pointer (some ⟨j,0,none⟩),(.agg #[.int .i64 y.f0,.string y.f1,.string y.f2,.slice X y.f3.length d5,.slice Y y.f4.length d6,.slice Z y.f5.length d7,.slice B8 y.f6.length d8,.int .i64 y.f7]),.int .i64 1] w (PrE W w j (zbq 16 y ((zbp f1 (d.one wLet)).signs [61]))) from zld W j aY.o 16 kad y _ w _ aX.o h a6 kab);have HE:=zq (fun w (h:PrS W w j (zbq 16 y ((zbp f1 (d.one wLet)).signs [61])))=>show Calls prog 69 #[.pointer (some ⟨j,0,none⟩),.string ⟨#[59]⟩] w (PrE W w j ((zbq 16 y ((zbp f1 (d.one wLet)).signs [61])).signs [59])) from zcq W w j _ ⟨#[59]⟩ h (by show _+1<=_;omega));have aK:=zq (show finQ (zfl (l.drop (k+1)) ((zbq 16 y ((zbp f1 (d.one wLet)).signs [61])).signs [59]))=r from O);have aL:=zq (show ((zbq 16 y ((zbp f1 (d.one wLet)).signs [61])).signs [59]).o.length+zmh (l.drop (k+1))+10<=140737488351232 from by omega);clear bv bw bx bz b0 U aH O a6 p aI aW;generalize (zbq 16 y ((zbp f1 (d.one wLet)).signs [61])).signs [59]=t5 at HE aK aL;generalize zbq 16 y ((zbp f1 (d.one wLet)).signs [61])=t4 at HC HE;generalize (zbp f1 (d.one wLet)).signs [61]=t3 at HG HC;generalize zbp f1 (d.one wLet)=t2 at HN HG;generalize d.one wLet=t1 at aA HN;go_wp2_with (first
        | (go_at_call 66;refine (a7.o _ M.o).mono ?_;rintro el wl ⟨rfl,rfl⟩;clear a7)
        | (go_at_call 67;refine aA.o.mono ?_;rintro e1 w1 ⟨rfl,aB,aC⟩;have af:=aC.keep M.o aM.o kad kad;have a8:=zq aB;have bc:=zq af;obtain ⟨q,s,z,B,D,E,G,I,J,L,u⟩:=zcx af;clear aB aC af aA)
        | (go_at_call 68;refine (HN.o _ a8.o).mono ?_;rintro e2 w2 ⟨rfl,aP,aT⟩;have aD:=aT.keep a8.o bc.o kad kad;have aN:=zq aP;have bd:=zq aD;clear q s z B D E G I J L u;obtain ⟨q,s,z,B,D,E,G,I,J,L,u⟩:=zcx aD;clear aP aT aD HN)
        | (go_at_call 69;refine (HG.o _ aN.o).mono ?_;rintro e3 w3 ⟨rfl,aQ,aU⟩;have aE:=aU.keep aN.o bd.o kad kad;have aO:=zq aQ;have bk:=zq aE;clear q s z B D E G I J L u;obtain ⟨q,s,z,B,D,E,G,I,J,L,u⟩:=zcx aE;clear aQ aU aE HG)
        | (go_at_call 70;refine (HC.o _ aO.o).mono ?_;rintro e4 w4 ⟨rfl,aR,aV⟩;have aF:=aV.keep aO.o bk.o kad kad;have bp:=zq aR;have bB:=zq aF;clear q s z B D E G I J L u;obtain ⟨q,s,z,B,D,E,G,I,J,L,u⟩:=zcx aF;clear aR aV aF HC)
        | (go_at_call 69;refine (HE.o _ bp.o).mono ?_;rintro e5 w5 ⟨rfl,aS,br⟩;have bq:=zq aS;clear aS br))
       go_roundw
       case rel=>exact ⟨k+1,t5,kab,by go_num,bq,aK,aL⟩
       case measure=>simp [intOf];omega
      by_cases h2:f0=2
      ·subst h2;rw [show zhx ⟨2,f1,y,f3⟩ d=some ((zbp f1 (d.one zec)).one zep) from rfl] at O;have r0:=fun o=>(zcx (zaf aM.o o)).1;have bv:(d.one zec).o.length<=d.o.length+6:=zdz zec d;have bw:(zbp f1 (d.one zec)).o.length<=d.o.length+7+f1.size:=qas (zhu f1 _) kab;have bx:((zbp f1 (d.one zec)).one zep).o.length<=d.o.length+12+f1.size:=qas (zdz zep _) (by show _+4+1<=_;omega);have bz:(zbq 16 y ((zbp f1 (d.one zec)).one zep)).o.length<=d.o.length+12+f1.size+zdc 16 y:=qas (zgp 16 y _ a6) kab;have b0:((zbq 16 y ((zbp f1 (d.one zec)).one zep)).signs [59]).o.length<=d.o.length+13+f1.size+zdc 16 y:=(by rw [zcu];show _+1<=_;omega);have U:=zdj W ((wr.alloc (.cells #[.int .i64 2,.string f1,.int .i64 y.f0,.string y.f1,.string y.f2,.slice X y.f3.length d5,.slice Y y.f4.length d6,.slice Z y.f5.length d7,.slice B8 y.f6.length d8,.int .i64 y.f7,.int .i64 f3] 62)).alloc (.cells #[.string ⟨#[97,108,108,111,119]⟩,.string ⟨#[100,101,110,121]⟩] 9)) j d ⟨#[97,108,108,111,119]⟩ (M.o.alloc _) (by show _+5+1<=_;omega);simp only [qae] at U;have aW:=fun e w' (h:PrE W ((wr.alloc (.cells #[.int .i64 2,.string f1,.int .i64 y.f0,.string y.f1,.string y.f2,.slice X y.f3.length d5,.slice Y y.f4.length d6,.slice Z y.f5.length d7,.slice B8 y.f6.length d8,.int .i64 y.f7,.int .i64 f3] 62)).alloc (.cells #[.string ⟨#[97,108,108,111,119]⟩,.string ⟨#[100,101,110,121]⟩] 9)) j (d.one zec) e w')=>(show PrE W (wr.alloc (.cells #[.int .i64 2,.string f1,.int .i64 y.f0,.string y.f1,.string y.f2,.slice X y.f3.length d5,.slice Y y.f4.length d6,.slice Z y.f5.length d7,.slice B8 y.f6.length d8,.int .i64 y.f7,.int .i64 f3] 62)) j (d.one zec) e w' from ⟨h.1,h.2.1,((Stp.refl _ _).alloc M.o.lt _).trans h.2.2⟩);have U:=U.mono aW;have aA:=zq U;have HN:=zq (fun w (h:PrS W w j (d.one zec))=>zgv W w j _ f1 aY.o h kab);have HG:=zq (fun w (h:PrS W w j (zbp f1 (d.one zec)))=>show Calls prog 67 #[.pointer (some ⟨j,0,none⟩),.slice (some ⟨w.heap.size,0,none⟩) 1 1] (w.alloc (.cells #[.string ⟨#[119,104,101,110]⟩] 9)) (PrE W w j ((zbp f1 (d.one zec)).one zep)) from zdj W w j _ ⟨#[119,104,101,110]⟩ h (by show _+4+1<=_;omega));have HC:=zq (fun w (h:PrS W w j ((zbp f1 (d.one zec)).one zep))=>show Calls prog 70 #[.pointer (some ⟨j,0,none⟩),(.agg #[.int .i64 y.f0,.string y.f1,.string y.f2,.slice X y.f3.length d5,.slice Y y.f4.length d6,.slice Z y.f5.length d7,.slice B8 y.f6.length d8,.int .i64 y.f7]),.int .i64 1] w (PrE W w j (zbq 16 y ((zbp f1 (d.one zec)).one zep))) from zld W j aY.o 16 kad y _ w _ aX.o h a6 kab);have HE:=zq (fun w (h:PrS W w j (zbq 16 y ((zbp f1 (d.one zec)).one zep)))=>show Calls prog 69 #[.pointer (some ⟨j,0,none⟩),.string ⟨#[59]⟩] w (PrE W w j ((zbq 16 y ((zbp f1 (d.one zec)).one zep)).signs [59])) from zcq W w j _ ⟨#[59]⟩ h (by show _+1<=_;omega));have aK:=zq (show finQ (zfl (l.drop (k+1)) ((zbq 16 y ((zbp f1 (d.one zec)).one zep)).signs [59]))=r from O);have aL:=zq (show ((zbq 16 y ((zbp f1 (d.one zec)).one zep)).signs [59]).o.length+zmh (l.drop (k+1))+10<=140737488351232 from by omega);clear bv bw bx bz b0 U aH O a6 p aI aW;generalize (zbq 16 y ((zbp f1 (d.one zec)).one zep)).signs [59]=t5 at HE aK aL;generalize zbq 16 y ((zbp f1 (d.one zec)).one zep)=t4 at HC HE;generalize (zbp f1 (d.one zec)).one zep=t3 at HG HC;generalize zbp f1 (d.one zec)=t2 at HN HG;generalize d.one zec=t1 at aA HN;go_wp2_with (first
        | (go_at_call 66;refine (a7.o _ M.o).mono ?_;rintro el wl ⟨rfl,rfl⟩;clear a7)
        | (go_at_call 67;refine aA.o.mono ?_;rintro e1 w1 ⟨rfl,aB,aC⟩;have af:=aC.keep M.o aM.o kad kad;have a8:=zq aB;have bc:=zq af;obtain ⟨q,s,z,B,D,E,G,I,J,L,u⟩:=zcx af;clear aB aC af aA)
        | (go_at_call 68;refine (HN.o _ a8.o).mono ?_;rintro e2 w2 ⟨rfl,aP,aT⟩;have aD:=aT.keep a8.o bc.o kad kad;have aN:=zq aP;have bd:=zq aD;clear q s z B D E G I J L u;obtain ⟨q,s,z,B,D,E,G,I,J,L,u⟩:=zcx aD;clear aP aT aD HN)
        | (go_at_call 67;refine (HG.o _ aN.o).mono ?_;rintro e3 w3 ⟨rfl,aQ,aU⟩;have aE:=aU.keep aN.o bd.o kad kad;have aO:=zq aQ;have bk:=zq aE;clear q s z B D E G I J L u;obtain ⟨q,s,z,B,D,E,G,I,J,L,u⟩:=zcx aE;clear aQ aU aE HG)
        | (go_at_call 70;refine (HC.o _ aO.o).mono ?_;rintro e4 w4 ⟨rfl,aR,aV⟩;have aF:=aV.keep aO.o bk.o kad kad;have bp:=zq aR;have bB:=zq aF;clear q s z B D E G I J L u;obtain ⟨q,s,z,B,D,E,G,I,J,L,u⟩:=zcx aF;clear aR aV aF HC)
        | (go_at_call 69;refine (HE.o _ bp.o).mono ?_;rintro e5 w5 ⟨rfl,aS,br⟩;have bq:=zq aS;clear aS br))
       go_roundw
       case rel=>exact ⟨k+1,t5,kab,by go_num,bq,aK,aL⟩
       case measure=>simp [intOf];omega
      by_cases h3:f0=3
      ·subst h3;rw [show zhx ⟨3,f1,y,f3⟩ d=some ((zbp f1 (d.one zfo)).one zep) from rfl] at O;have r0:=fun o=>(zcx (zaf aM.o o)).1;have bv:(d.one zfo).o.length<=d.o.length+5:=zdz zfo d;have bw:(zbp f1 (d.one zfo)).o.length<=d.o.length+6+f1.size:=qas (zhu f1 _) kab;have bx:((zbp f1 (d.one zfo)).one zep).o.length<=d.o.length+11+f1.size:=qas (zdz zep _) (by show _+4+1<=_;omega);have bz:(zbq 16 y ((zbp f1 (d.one zfo)).one zep)).o.length<=d.o.length+12+f1.size+zdc 16 y:=qas (zgp 16 y _ a6) kab;have b0:((zbq 16 y ((zbp f1 (d.one zfo)).one zep)).signs [59]).o.length<=d.o.length+13+f1.size+zdc 16 y:=(by rw [zcu];show _+1<=_;omega);have U:=zdj W ((wr.alloc (.cells #[.int .i64 3,.string f1,.int .i64 y.f0,.string y.f1,.string y.f2,.slice X y.f3.length d5,.slice Y y.f4.length d6,.slice Z y.f5.length d7,.slice B8 y.f6.length d8,.int .i64 y.f7,.int .i64 f3] 62)).alloc (.cells #[.string ⟨#[97,108,108,111,119]⟩,.string ⟨#[100,101,110,121]⟩] 9)) j d ⟨#[100,101,110,121]⟩ (M.o.alloc _) (by show _+4+1<=_;omega);simp only [qae] at U;have aW:=fun e w' (h:PrE W ((wr.alloc (.cells #[.int .i64 3,.string f1,.int .i64 y.f0,.string y.f1,.string y.f2,.slice X y.f3.length d5,.slice Y y.f4.length d6,.slice Z y.f5.length d7,.slice B8 y.f6.length d8,.int .i64 y.f7,.int .i64 f3] 62)).alloc (.cells #[.string ⟨#[97,108,108,111,119]⟩,.string ⟨#[100,101,110,121]⟩] 9)) j (d.one zfo) e w')=>(show PrE W (wr.alloc (.cells #[.int .i64 3,.string f1,.int .i64 y.f0,.string y.f1,.string y.f2,.slice X y.f3.length d5,.slice Y y.f4.length d6,.slice Z y.f5.length d7,.slice B8 y.f6.length d8,.int .i64 y.f7,.int .i64 f3] 62)) j (d.one zfo) e w' from ⟨h.1,h.2.1,((Stp.refl _ _).alloc M.o.lt _).trans h.2.2⟩);have U:=U.mono aW;have aA:=zq U;have HN:=zq (fun w (h:PrS W w j (d.one zfo))=>zgv W w j _ f1 aY.o h kab);have HG:=zq (fun w (h:PrS W w j (zbp f1 (d.one zfo)))=>show Calls prog 67 #[.pointer (some ⟨j,0,none⟩),.slice (some ⟨w.heap.size,0,none⟩) 1 1] (w.alloc (.cells #[.string ⟨#[119,104,101,110]⟩] 9)) (PrE W w j ((zbp f1 (d.one zfo)).one zep)) from zdj W w j _ ⟨#[119,104,101,110]⟩ h (by show _+4+1<=_;omega));have HC:=zq (fun w (h:PrS W w j ((zbp f1 (d.one zfo)).one zep))=>show Calls prog 70 #[.pointer (some ⟨j,0,none⟩),(.agg #[.int .i64 y.f0,.string y.f1,.string y.f2,.slice X y.f3.length d5,.slice Y y.f4.length d6,.slice Z y.f5.length d7,.slice B8 y.f6.length d8,.int .i64 y.f7]),.int .i64 1] w (PrE W w j (zbq 16 y ((zbp f1 (d.one zfo)).one zep))) from zld W j aY.o 16 kad y _ w _ aX.o h a6 kab);have HE:=zq (fun w (h:PrS W w j (zbq 16 y ((zbp f1 (d.one zfo)).one zep)))=>show Calls prog 69 #[.pointer (some ⟨j,0,none⟩),.string ⟨#[59]⟩] w (PrE W w j ((zbq 16 y ((zbp f1 (d.one zfo)).one zep)).signs [59])) from zcq W w j _ ⟨#[59]⟩ h (by show _+1<=_;omega));have aK:=zq (show finQ (zfl (l.drop (k+1)) ((zbq 16 y ((zbp f1 (d.one zfo)).one zep)).signs [59]))=r from O);have aL:=zq (show ((zbq 16 y ((zbp f1 (d.one zfo)).one zep)).signs [59]).o.length+zmh (l.drop (k+1))+10<=140737488351232 from by omega);clear bv bw bx bz b0 U aH O a6 p aI aW;generalize (zbq 16 y ((zbp f1 (d.one zfo)).one zep)).signs [59]=t5 at HE aK aL;generalize zbq 16 y ((zbp f1 (d.one zfo)).one zep)=t4 at HC HE;generalize (zbp f1 (d.one zfo)).one zep=t3 at HG HC;generalize zbp f1 (d.one zfo)=t2 at HN HG;generalize d.one zfo=t1 at aA HN;go_wp2_with (first
        | (go_at_call 66;refine (a7.o _ M.o).mono ?_;rintro el wl ⟨rfl,rfl⟩;clear a7)
        | (go_at_call 67;refine aA.o.mono ?_;rintro e1 w1 ⟨rfl,aB,aC⟩;have af:=aC.keep M.o aM.o kad kad;have a8:=zq aB;have bc:=zq af;obtain ⟨q,s,z,B,D,E,G,I,J,L,u⟩:=zcx af;clear aB aC af aA)
        | (go_at_call 68;refine (HN.o _ a8.o).mono ?_;rintro e2 w2 ⟨rfl,aP,aT⟩;have aD:=aT.keep a8.o bc.o kad kad;have aN:=zq aP;have bd:=zq aD;clear q s z B D E G I J L u;obtain ⟨q,s,z,B,D,E,G,I,J,L,u⟩:=zcx aD;clear aP aT aD HN)
        | (go_at_call 67;refine (HG.o _ aN.o).mono ?_;rintro e3 w3 ⟨rfl,aQ,aU⟩;have aE:=aU.keep aN.o bd.o kad kad;have aO:=zq aQ;have bk:=zq aE;clear q s z B D E G I J L u;obtain ⟨q,s,z,B,D,E,G,I,J,L,u⟩:=zcx aE;clear aQ aU aE HG)
        | (go_at_call 70;refine (HC.o _ aO.o).mono ?_;rintro e4 w4 ⟨rfl,aR,aV⟩;have aF:=aV.keep aO.o bk.o kad kad;have bp:=zq aR;have bB:=zq aF;clear q s z B D E G I J L u;obtain ⟨q,s,z,B,D,E,G,I,J,L,u⟩:=zcx aF;clear aR aV aF HC)
        | (go_at_call 69;refine (HE.o _ bp.o).mono ?_;rintro e5 w5 ⟨rfl,aS,br⟩;have bq:=zq aS;clear aS br))
       go_roundw
       case rel=>exact ⟨k+1,t5,kab,by go_num,bq,aK,aL⟩
       case measure=>simp [intOf];omega
      have hn:zhx ⟨f0,f1,y,f3⟩ d=none:=(by unfold zhx;rw [if_neg h1,if_neg h2,if_neg h3]);rw [hn] at O;subst O;have aJ:=zq M.o.bel;clear aM aG aX aH a6 p hn aI;go_wp2_with (go_at_call 66;refine (a7.o _ M.o).mono ?_;rintro el wl ⟨rfl,rfl⟩;clear a7)
      go_ret2
      exact ⟨rfl,aJ.o⟩
   obtain rfl:k=l.length:=kab;have hf:=bb.o;rw [List.drop_length] at hf;subst hf;obtain ⟨A0,bD,a0,a1,a2,bK,bL,bM,-,-⟩:=aG.o.facts;have bO:∀ m,(convert 64 9 (.slice A0 d.o.length bD)).run prog (wr.drewN m) = .ok (.string (tB d.o)) (wr.drewN m):=fun m=>pr_string (aG.o.drewN m) a0;have a7:=zq (fun m=>zdi W (wr.drewN m) j d (aG.o.drewN m) (by have:=ba.o;omega));have aJ:=zq (fun m=>zaa aG.o.bel m);show _;cases p:d.bad with
   | true=>
    rw [p] at a2;have bu:finQ (zfl [] d)=(d.o,false):=(by show (d.o,!d.bad&&!zeq d)=_;rw [p];rfl);have b2:=zq bu;clear bb ba p bu;go_wp2
    go_quiet (fail)
    go_wp2
    go_ret2
    exact ⟨by rw [b2.o];first|rfl|simp,aJ.o _⟩
   | false=>
    rw [p] at a2;have bu:finQ (zfl [] d)=(d.o,!decide (8000<d.o.length)):=(by show (d.o,!d.bad&&!zeq d)=_;rw [p];rfl);have b2:=zq bu;clear bb ba p bu;go_wp2
    go_quiet ((go_at_call 66;exact Calls.quiet_of_same (a7.o _)))
    go_wp2
    go_ret2
    exact ⟨by rw [b2.o];first|rfl|simp,aJ.o _⟩
def zls (l:List S62):List UInt8×Int:=if (zfg l).2=true then ((zfg l).1,0) else ([],93)
theorem zkg (W:World) (k:Inv W) (A:Option Addr) (c:Nat) (l:List S62) (j:k62.C W A l.length l) (q:l.length<=c) (s:l.length<=140737488351232) (n:∀ x∈l,Wide 16 x.f2) (m:zmh l+10<=140737488351232) :
  Calls prog 20 #[.agg #[.slice A l.length c]] W fun e W'=>e = .returned (.tuple #[.string (tB (zls l).1),.int .i64 (zls l).2])/\Below W.heap.size W W':=by
 have HB:=zq (qan W.heap.size W |>.alloc (qad _) (.cells #[.slice A l.length c] 36));have d:=zq (zjd (W.alloc (.cells #[.slice A l.length c] 36)) (k.below HB.o) A c l (Kd.C_below j HB.o) q s n m);unfold zls;generalize zfg l=r at d ⊢;obtain ⟨t,b⟩:=r;clear k j n m;cases b with
 | true=>
  go_enter func20,ntmps20;go_wp2_with (go_at_call 42;refine d.o.mono ?_;rintro p w1 ⟨rfl,i⟩)
  go_ret2
  exact ⟨rfl,HB.o.trans (i.mono (by simp))⟩
 | false=>
  go_enter func20,ntmps20;go_wp2_with (go_at_call 42;refine d.o.mono ?_;rintro p w1 ⟨rfl,i⟩)
  go_ret2
  exact ⟨rfl,HB.o.trans (i.mono (by simp))⟩
theorem sright_calls (W:World) (i:Inv W) (A:Option Addr) (c:Nat) (l:List S62) (d:k62.C W A l.length l) (n:l.length<=c) (p:l.length<=140737488351232) (k:∀ x∈l,Wide 16 x.f2) (j:zmh l+10<=140737488351232) :
  Calls prog 22 #[.agg #[.slice A l.length c]] W fun e W'=>e = .returned (.bool (zfg l).2)/\Below W.heap.size W W':=by
 have HB:=zq (qan W.heap.size W |>.alloc (qad _) (.cells #[.slice A l.length c] 36));have b:=zq (zjd (W.alloc (.cells #[.slice A l.length c] 36)) (i.below HB.o) A c l (Kd.C_below d HB.o) n p k j);generalize zfg l=r at b ⊢;clear i d k j;go_enter func22,ntmps22;go_wp2_with (go_at_call 42;refine b.o.mono ?_;rintro q w1 ⟨rfl,m⟩);go_ret;exact ⟨rfl,HB.o.trans (m.mono (by simp))⟩
end
section
def zqf {α:Type} (f:α->α->Option Bool):List α->List α->Option Bool
 | a::r,b::t=>match f a b with
  | none=>none
  | some false=>some false
  | some true=>zqf f r t
 | _,_=>some true
def zoq {α:Type} (f:α->α->Option Bool) (l m:List α):Option Bool:=if l.length=m.length then zqf f l m else some false
def zln:Nat->S60->S60->Option Bool
 | 0,_,_=>none
 | k+1,x,y=>
  if x.f0=y.f0 then (if x.f1.toList=y.f1.toList then (if x.f2.toList=y.f2.toList then (if eqP x.f3 y.f3=true then (if eqS x.f4 y.f4=true then (if eqT x.f5 y.f5=true then zoq (zln k) x.f6 y.f6 else some false) else some false) else some false) else some false) else some false) else some false
def zfp (k:Nat) (x y:S62):Option Bool:=
 if x.f0=y.f0 then (if x.f1.toList=y.f1.toList then zln k x.f2 y.f2 else some false) else some false
def zqj (W:World) (r:Bool) (e:Ending) (W':World):Prop:=e = .returned (.bool r)/\Below W.heap.size W W'
def zvi (k:Nat):Prop:=∀ (x y:S60) (v u:Value) (W:World) (r:Bool),zes W x v->zes W y u->zln k x y=some r->Calls prog 49 #[v,u] W (zqj W r)
theorem zno {α:Type} (f:α->α->Option Bool) (a b:α) (r t:List α):zqf f (a::r) (b::t)=match f a b with|none=>none|some false=>some false|some true=>zqf f r t:=rfl
theorem zjn {α:Type} (l:List α) (z:α) (i:Nat) (h:i<l.length):l.drop i=l.getD i z::l.drop (i+1):=by
 rw [qbh h,qat,qao h];rfl
theorem eqfc_calls (k:Nat) (IH:zvi k) (W:World) (A A':Option Addr) (c c':Nat) (l m:List S60) (r:Bool) (hC:k60.C W A l.length l) (aA:k60.C W A' m.length m) (hz:l.length<=9223372036854775807) (hc:l.length<=c) (aH:m.length<=c') (hr:zoq (zln k) l m=some r) :
  Calls prog 77 #[.slice A l.length c,.slice A' m.length c',.func (.func 49) #[] #[]] W (zqj W r):=by
 have HC:=zq hC;have aD:=zq aA;have HI:=zq IH;unfold zoq at hr;clear hC aA IH;by_cases e:l.length=m.length
 ·rw [if_pos e] at hr;have b:=zq hr;have a7:=zq e;have aB:((l.length:Int)!=(m.length:Int))=false:=by simp [e]
  have aE:((l.length:Int)==(m.length:Int))=true:=by simp [e]
  have aI:m.length<=9223372036854775807:=kab;clear hr e;go_enter func77,ntmps77;go_wp2;clear aB aE
  go_loopw [17] (fun i wr=>∃ n:Nat,n<=l.length/\i = .int .i64 n/\Zq (Below W.heap.size W wr)/\Zq (zqf (zln k) (l.drop n) (m.drop n)=some r)) (fun i _=>l.length-(intOf i).toNat)
  case atStart=>exact ⟨0,qbx _,rfl,⟨qan _ _⟩,b⟩
  case round=>
   clear b;obtain ⟨n,hn,rfl,HB,b⟩:=hrel;by_cases aF:n<l.length
   ·have aG:n<m.length:=(by have:=a7.o;omega);obtain ⟨ad,A3,a3,A4,a4,A5,a5,A6,a6,rfl,j,p,q,s,u,w,z,B,p3,U,p4,X,M,Y,O,Z⟩:=zkr HC.o (n:Int) kab kab;obtain ⟨bd,B3,b3,B4,b4,B5,b5,B6,b6,rfl,D,E,G,y3,y4,I,y6,J,s3,t3,s4,t4,s5,t5,s6,t6⟩:=zkr aD.o (n:Int) kab kab;have aC:∀ l:List S60,zbf l (n:Int)=l.getD n z60:=fun l=>(by unfold zbf;rw [qax]);rw [aC] at j p q s u w z B p3 U p4 X M Y O Z D E G y3 y4 I y6 J s3 t3 s4 t4 s5 t5 s6 t6;rw [qax] at j p q s u w z B D E G y3 y4 I y6 J;have hr:=b.o;rw [zjn l z60 n aF,zjn m z60 n aG,zno] at hr;clear b aC;generalize l.getD n z60=x at j p q s u w z B p3 U p4 X M Y O Z hr;generalize m.getD n z60=y at D E G y3 y4 I y6 J s3 t3 s4 t4 s5 t5 s6 t6 hr;have af:=zq (show zes W x (.agg #[.int .i64 x.f0,.string x.f1,.string x.f2,.slice A3 x.f3.length a3,.slice A4 x.f4.length a4,.slice A5 x.f5.length a5,.slice A6 x.f6.length a6,.int .i64 x.f7]) from ⟨_,zji W x p3 U p4 X M Y O Z,rfl⟩);have a1:=zq (show zes W y (.agg #[.int .i64 y.f0,.string y.f1,.string y.f2,.slice B3 y.f3.length b3,.slice B4 y.f4.length b4,.slice B5 y.f5.length b5,.slice B6 y.f6.length b6,.int .i64 y.f7]) from ⟨_,zji W y s3 t3 s4 t4 s5 t5 s6 t6,rfl⟩);have ag:=HB.o;have j:=zag ag j;have p:=zag ag p;have q:=zag ag q;have s:=zag ag s;have u:=zag ag u;have w:=zag ag w;have z:=zag ag z;have B:=zag ag B;have D:=fun o=>zag (ag.trans ((qan _ _).alloc kbh o)) D;have E:=fun o=>zag (ag.trans ((qan _ _).alloc kbh o)) E;have G:=fun o=>zag (ag.trans ((qan _ _).alloc kbh o)) G;have y3:=fun o=>zag (ag.trans ((qan _ _).alloc kbh o)) y3;have y4:=fun o=>zag (ag.trans ((qan _ _).alloc kbh o)) y4;have I:=fun o=>zag (ag.trans ((qan _ _).alloc kbh o)) I;have y6:=fun o=>zag (ag.trans ((qan _ _).alloc kbh o)) y6;have J:=fun o=>zag (ag.trans ((qan _ _).alloc kbh o)) J;have d:=zq (show Below W.heap.size W ((wr.alloc (.cells #[.int .i64 x.f0,.string x.f1,.string x.f2,.slice A3 x.f3.length a3,.slice A4 x.f4.length a4,.slice A5 x.f5.length a5,.slice A6 x.f6.length a6,.int .i64 x.f7] 60)).alloc (.cells #[.int .i64 y.f0,.string y.f1,.string y.f2,.slice B3 y.f3.length b3,.slice B4 y.f4.length b4,.slice B5 y.f5.length b5,.slice B6 y.f6.length b6,.int .i64 y.f7] 60)) from (ag.alloc ag.size _).alloc (by rw [qae];have:=ag.size;omega) _);have a8:=zq (show W.heap.size<=((wr.alloc (.cells #[.int .i64 x.f0,.string x.f1,.string x.f2,.slice A3 x.f3.length a3,.slice A4 x.f4.length a4,.slice A5 x.f5.length a5,.slice A6 x.f6.length a6,.int .i64 x.f7] 60)).alloc (.cells #[.int .i64 y.f0,.string y.f1,.string y.f2,.slice B3 y.f3.length b3,.slice B4 y.f4.length b4,.slice B5 y.f5.length b5,.slice B6 y.f6.length b6,.int .i64 y.f7] 60)).heap.size from d.o.size);clear ag p3 U p4 X M Y O Z s3 t3 s4 t4 s5 t5 s6 t6
    match hs:zln k x y with
    | none=>rw [hs] at hr;cases hr
    | some false=>
     rw [hs] at hr;obtain rfl:=qaa hr;have HK:=zq (HI.o x y _ _ _ false (af.o.below d.o) (a1.o.below d.o) hs);clear hr hs;go_wp2_with ((with_reducible refine zdb 49 ?_);refine HK.o.mono ?_;rintro e1 w1 ⟨rfl,L⟩);go_ret;exact ⟨rfl,d.o.trans (L.mono a8.o)⟩
    | some true=>
     rw [hs] at hr;have HK:=zq (HI.o x y _ _ _ true (af.o.below d.o) (a1.o.below d.o) hs);have b:=zq (show zqf (zln k) (l.drop (n+1)) (m.drop (n+1))=some r from hr);clear hr hs;go_wp2_with ((with_reducible refine zdb 49 ?_);refine HK.o.mono ?_;rintro e1 w1 ⟨rfl,L⟩;have am:=zq (d.o.trans (L.mono a8.o));clear L)
     go_roundw
     case rel=>exact ⟨n+1,kab,by go_num,am,b⟩
     case measure=>simp [intOf];omega
   obtain rfl:n=l.length:=kab;have hr:=b.o;rw [List.drop_length,qaz (by have:=a7.o;omega)] at hr;obtain rfl:=qaa hr;clear b hr;go_wp2;go_ret;exact ⟨rfl,HB.o⟩
 rw [if_neg e] at hr;obtain rfl:=qaa hr;have aB:¬((l.length:Int)=(m.length:Int)):=kab;clear hr;go_enter func77,ntmps77;go_wp2;go_ret;exact ⟨rfl,qan _ _⟩
theorem samec_step (k:Nat) (z:zvi k) (x y:S60) (v u:Value) (W:World) (r:Bool) (hx:zes W x v) (hy:zes W y u) (hr:zln (k+1) x y=some r) (i:x.f3.length<=9223372036854775807/\x.f4.length<=9223372036854775807/\x.f5.length<=9223372036854775807/\x.f6.length<=9223372036854775807) :
  Calls prog 49 #[v,u] W (zqj W r):=by
 obtain ⟨cs,G,rfl⟩:=hx;obtain ⟨m,a3,n,a4,A5,a5,A6,A,rfl,p3,J,p4,L,p5,M,p6,O⟩:=zci G;obtain ⟨ds,I,rfl⟩:=hy;obtain ⟨B3,b3,p,b4,q,B,s,D,rfl,s3,t3,s4,t4,s5,t5,s6,t6⟩:=zci I;have aj:=zq (show Below W.heap.size W ((W.alloc (.cells #[.int .i64 x.f0,.string x.f1,.string x.f2,.slice m x.f3.length a3,.slice n x.f4.length a4,.slice A5 x.f5.length a5,.slice A6 x.f6.length A,.int .i64 x.f7] 60)).alloc (.cells #[.int .i64 y.f0,.string y.f1,.string y.f2,.slice B3 y.f3.length b3,.slice p y.f4.length b4,.slice q y.f5.length B,.slice s y.f6.length D,.int .i64 y.f7] 60)) from ((qan _ _).alloc (qad _) _).alloc kax _);have c:=zq (fun w (h:Below W.heap.size W w)=>api_Prefix.calls _ m a3 x.f3 B3 b3 y.f3 _ w (Kd.C_below J h) p3 (Kd.C_below t3 h) s3 (api_Prefix_eq x.f3 y.f3 i.1));have d:=zq (fun w (h:Below W.heap.size W w)=>api_Span.calls _ n a4 x.f4 p b4 y.f4 _ w (Kd.C_below L h) p4 (Kd.C_below t4 h) s4 (api_Span_eq x.f4 y.f4 i.2.1));have e:=zq (fun w (h:Below W.heap.size W w)=>slices_Equal_string_string.calls _ A5 a5 x.f5 q B y.f5 _ w (Kd.C_below M h) p5 (Kd.C_below t5 h) s5 (slices_Equal_string_string_eq x.f5 y.f5 i.2.2.1));have b:=fun U (ad:zoq (zln k) x.f6 y.f6=some U)=>zq (fun w (h:Below W.heap.size W w)=>eqfc_calls k z w A6 s A D x.f6 y.f6 U (Kd.C_below O h) (Kd.C_below t6 h) i.2.2.2 p6 s6 ad);unfold zln at hr;clear G I J L M O t3 t4 t5 t6 z i;generalize eqP x.f3 y.f3=r3 at c hr;generalize eqS x.f4 y.f4=r4 at d hr;generalize eqT x.f5 y.f5=r5 at e hr;by_cases c0:x.f0=y.f0
 ·rw [if_pos c0] at hr;have d0:((x.f0:Int)==y.f0)=true:=by simp [c0]
  clear c0;by_cases c1:x.f1.toList=y.f1.toList
  ·rw [if_pos c1] at hr;have d1:(x.f1.toList==y.f1.toList)=true:=(by simp [c1]);clear c1;by_cases c2:x.f2.toList=y.f2.toList
   ·rw [if_pos c2] at hr;have d2:(x.f2.toList==y.f2.toList)=true:=(by simp [c2]);clear c2;cases r3 with
    | false=>
     simp only [qbt,if_false,qai] at hr;subst hr;clear b;go_enter func49,ntmps49;go_wp2_with (first
      | (go_at_call 74;refine (c.o _ kak).mono ?_;rintro j l ⟨rfl,⟨⟨n3,rfl⟩⟩⟩))
     go_ret;exact ⟨rfl,kak⟩
    | true=>
     simp only [if_true] at hr;cases r4 with
     | false=>
      simp only [qbt,if_false,qai] at hr;subst hr;clear b;go_enter func49,ntmps49;go_wp2_with (first
       | (go_at_call 74;refine (c.o _ kak).mono ?_;rintro j l ⟨rfl,⟨⟨n3,rfl⟩⟩⟩)
       | (go_at_call 75;refine (d.o _ kak).mono ?_;rintro E X ⟨rfl,⟨⟨n4,rfl⟩⟩⟩))
      go_ret;exact ⟨rfl,kak⟩
     | true=>
      simp only [if_true] at hr;cases r5 with
      | false=>
       simp only [qbt,if_false,qai] at hr;subst hr;clear b;go_enter func49,ntmps49;go_wp2_with (first
        | (go_at_call 74;refine (c.o _ kak).mono ?_;rintro j l ⟨rfl,⟨⟨n3,rfl⟩⟩⟩)
        | (go_at_call 75;refine (d.o _ kak).mono ?_;rintro E X ⟨rfl,⟨⟨n4,rfl⟩⟩⟩)
        | (go_at_call 76;refine (e.o _ kak).mono ?_;rintro Y w5 ⟨rfl,⟨⟨n5,rfl⟩⟩⟩))
       go_ret;exact ⟨rfl,kak⟩
      | true=>
       simp only [if_true] at hr;have b:=b r hr;clear hr;go_enter func49,ntmps49;go_wp2_with (first
        | (go_at_call 74;refine (c.o _ kak).mono ?_;rintro j l ⟨rfl,⟨⟨n3,rfl⟩⟩⟩)
        | (go_at_call 75;refine (d.o _ kak).mono ?_;rintro E X ⟨rfl,⟨⟨n4,rfl⟩⟩⟩)
        | (go_at_call 76;refine (e.o _ kak).mono ?_;rintro Y w5 ⟨rfl,⟨⟨n5,rfl⟩⟩⟩)
        | (go_at_call 77;refine (b.o _ kak).mono ?_;rintro e6 w6 ⟨rfl,Z⟩))
       go_ret;exact ⟨rfl,Below.trans kak (Z.mono (by have:=aj.o.size;exact this))⟩
   rw [if_neg c2] at hr;obtain rfl:=qaa hr;have d2:(x.f2.toList==y.f2.toList)=false:=(by simp [c2]);clear c2 hr c d e b;go_enter func49,ntmps49;go_wp2;go_ret;exact ⟨rfl,aj.o⟩
  rw [if_neg c1] at hr;obtain rfl:=qaa hr;have d1:(x.f1.toList==y.f1.toList)=false:=by simp [c1]
  clear c1 hr c d e b;go_enter func49,ntmps49;go_wp2;go_ret;exact ⟨rfl,aj.o⟩
 rw [if_neg c0] at hr;obtain rfl:=qaa hr;have d0:((x.f0:Int)==y.f0)=false:=by simp [c0]
 clear c0 hr c d e b;go_enter func49,ntmps49;go_wp2;go_ret;exact ⟨rfl,aj.o⟩
theorem zpg:∀ k,zvi k
 | 0=>fun x y v u W r b c hr=>by simp [zln] at hr
 | k+1=>fun x y v u W r b c hr=>by
  refine samec_step k (zpg k) x y v u W r b c hr ?_;obtain ⟨cs,d,rfl⟩:=b;obtain ⟨m,a3,n,a4,A5,a5,A6,o,rfl,p3,e,p4,i,p,j,q,l⟩:=zci d;exact ⟨e.2.1,i.2.1,j.2.1,l.2.1⟩
def zsl (W:World) (x:S62) (v:Value):Prop:=∃ cs,k62.K W x cs/\v = .agg cs.toArray
theorem zsl.below {W W1:World} {x:S62} {v:Value} (h:zsl W x v) (c:Below W.heap.size W W1):zsl W1 x v:=by
 obtain ⟨cs,b,rfl⟩:=h;exact ⟨cs,k62.K_below c b,rfl⟩
theorem zlo (k:Nat) (x y:S62) (v u:Value) (W:World) (r:Bool) (Z:zsl W x v) (hy:zsl W y u) (hr:zfp k x y=some r) :
  Calls prog 48 #[v,u] W (zqj W r):=by
 obtain ⟨cs,b,rfl⟩:=Z;obtain ⟨A5,a5,A6,I,A7,J,A8,L,rfl,p3,i,p4,j,d,l,e,m⟩:=zoj b;have D:=zq (show zes W x.f2 _ from ⟨_,zji W x.f2 p3 i p4 j d l e m,rfl⟩);obtain ⟨ds,c,rfl⟩:=hy;obtain ⟨w,M,z,O,A,U,B,X,rfl,n,t3,p,t4,q,t5,s,t6⟩:=zoj c;have E:=zq (show zes W y.f2 _ from ⟨_,zji W y.f2 n t3 p t4 q t5 s t6,rfl⟩);have aj:=zq (show Below W.heap.size W ((W.alloc (.cells #[.int .i64 x.f0,.string x.f1,.int .i64 x.f2.f0,.string x.f2.f1,.string x.f2.f2,.slice A5 x.f2.f3.length a5,.slice A6 x.f2.f4.length I,.slice A7 x.f2.f5.length J,.slice A8 x.f2.f6.length L,.int .i64 x.f2.f7,.int .i64 x.f3] 62)).alloc (.cells #[.int .i64 y.f0,.string y.f1,.int .i64 y.f2.f0,.string y.f2.f1,.string y.f2.f2,.slice w y.f2.f3.length M,.slice z y.f2.f4.length O,.slice A y.f2.f5.length U,.slice B y.f2.f6.length X,.int .i64 y.f2.f7,.int .i64 y.f3] 62)) from ((qan _ _).alloc (qad _) _).alloc kax _);unfold zfp at hr;clear b c p3 i p4 j d l e m n t3 p t4 q t5 s t6;by_cases c0:x.f0=y.f0
 ·rw [if_pos c0] at hr;have d0:((x.f0:Int)==y.f0)=true:=by simp [c0]
  clear c0;by_cases c1:x.f1.toList=y.f1.toList
  ·rw [if_pos c1] at hr;have d1:(x.f1.toList==y.f1.toList)=true:=(by simp [c1]);clear c1;have G:=zq (zpg k x.f2 y.f2 _ _ _ r (D.o.below aj.o) (E.o.below aj.o) hr);clear hr;go_enter func48,ntmps48;go_wp2_with (go_at_call 49;refine G.o.mono ?_;rintro e1 w1 ⟨rfl,Y⟩);go_ret;exact ⟨rfl,aj.o.trans (Y.mono (by have:=aj.o.size;exact this))⟩
  rw [if_neg c1] at hr;obtain rfl:=qaa hr;have d1:(x.f1.toList==y.f1.toList)=false:=by simp [c1]
  clear c1 hr;go_enter func48,ntmps48;go_wp2;go_ret;exact ⟨rfl,aj.o⟩
 rw [if_neg c0] at hr;obtain rfl:=qaa hr;have d0:((x.f0:Int)==y.f0)=false:=by simp [c0]
 clear c0 hr;go_enter func48,ntmps48;go_wp2;go_ret;exact ⟨rfl,aj.o⟩
theorem eqfi_calls (k:Nat) (W:World) (A A':Option Addr) (c c':Nat) (l m:List S62) (r:Bool) (hC:k62.C W A l.length l) (aC:k62.C W A' m.length m) (hc:l.length<=c) (aJ:m.length<=c') (hr:zoq (zfp k) l m=some r) :
  Calls prog 47 #[.slice A l.length c,.slice A' m.length c',.func (.func 48) #[] #[]] W (zqj W r):=by
 have HC:=zq hC;have aF:=zq aC;have hz:l.length<=9223372036854775807:=hC.2.1;unfold zoq at hr;clear hC aC;by_cases e:l.length=m.length
 ·rw [if_pos e] at hr;have b:=zq hr;have aA:=zq e;have aD:((l.length:Int)!=(m.length:Int))=false:=by simp [e]
  have aG:((l.length:Int)==(m.length:Int))=true:=by simp [e]
  have aK:m.length<=9223372036854775807:=kab;clear hr e;go_enter func47,ntmps47;go_wp2;clear aD aG
  go_loopw [17] (fun i wr=>∃ n:Nat,n<=l.length/\i = .int .i64 n/\Zq (Below W.heap.size W wr)/\Zq (zqf (zfp k) (l.drop n) (m.drop n)=some r)) (fun i _=>l.length-(intOf i).toNat)
  case atStart=>exact ⟨0,qbx _,rfl,⟨qan _ _⟩,b⟩
  case round=>
   clear b;obtain ⟨n,hn,rfl,HB,b⟩:=hrel;by_cases aH:n<l.length
   ·have aI:n<m.length:=(by have:=aA.o;omega);obtain ⟨ad,A5,a5,A6,a6,A7,a7,A8,a8,rfl,j,p,s,u,w,z,B,D,E,G,q,p3,q3,p4,q4,p5,q5,p6,q6⟩:=zsg HC.o (n:Int) kab kab;obtain ⟨bd,B5,b5,B6,b6,B7,b7,B8,b8,rfl,I,J,M,y3,y4,O,y6,U,X,Y,L,s3,t3,s4,t4,s5,t5,s6,t6⟩:=zsg aF.o (n:Int) kab kab;have aE:∀ l:List S62,zdx l (n:Int)=l.getD n z62:=fun l=>(by unfold zdx;rw [qax]);rw [aE] at j p s u w z B D E G q p3 q3 p4 q4 p5 q5 p6 q6 I J M y3 y4 O y6 U X Y L s3 t3 s4 t4 s5 t5 s6 t6;rw [qax] at j p s u w z B D E G q I J M y3 y4 O y6 U X Y L;have hr:=b.o;rw [zjn l z62 n aH,zjn m z62 n aI,zno] at hr;clear b aE;generalize l.getD n z62=x at j p s u w z B D E G q p3 q3 p4 q4 p5 q5 p6 q6 hr;generalize m.getD n z62=y at I J M y3 y4 O y6 U X Y L s3 t3 s4 t4 s5 t5 s6 t6 hr;have af:=zq (show zsl W x _ from ⟨_,zru W x p3 q3 p4 q4 p5 q5 p6 q6,rfl⟩);have a1:=zq (show zsl W y _ from ⟨_,zru W y s3 t3 s4 t4 s5 t5 s6 t6,rfl⟩);have ag:=HB.o;have j:=zag ag j;have p:=zag ag p;have s:=zag ag s;have u:=zag ag u;have w:=zag ag w;have z:=zag ag z;have B:=zag ag B;have D:=zag ag D;have E:=zag ag E;have G:=zag ag G;have q:=zag ag q;have I:=fun o=>zag (ag.trans ((qan _ _).alloc kbh o)) I;have J:=fun o=>zag (ag.trans ((qan _ _).alloc kbh o)) J;have M:=fun o=>zag (ag.trans ((qan _ _).alloc kbh o)) M;have y3:=fun o=>zag (ag.trans ((qan _ _).alloc kbh o)) y3;have y4:=fun o=>zag (ag.trans ((qan _ _).alloc kbh o)) y4;have O:=fun o=>zag (ag.trans ((qan _ _).alloc kbh o)) O;have y6:=fun o=>zag (ag.trans ((qan _ _).alloc kbh o)) y6;have U:=fun o=>zag (ag.trans ((qan _ _).alloc kbh o)) U;have X:=fun o=>zag (ag.trans ((qan _ _).alloc kbh o)) X;have Y:=fun o=>zag (ag.trans ((qan _ _).alloc kbh o)) Y;have L:=fun o=>zag (ag.trans ((qan _ _).alloc kbh o)) L;have d:=zq (show Below W.heap.size W ((wr.alloc (.cells #[.int .i64 x.f0,.string x.f1,.int .i64 x.f2.f0,.string x.f2.f1,.string x.f2.f2,.slice A5 x.f2.f3.length a5,.slice A6 x.f2.f4.length a6,.slice A7 x.f2.f5.length a7,.slice A8 x.f2.f6.length a8,.int .i64 x.f2.f7,.int .i64 x.f3] 62)).alloc (.cells #[.int .i64 y.f0,.string y.f1,.int .i64 y.f2.f0,.string y.f2.f1,.string y.f2.f2,.slice B5 y.f2.f3.length b5,.slice B6 y.f2.f4.length b6,.slice B7 y.f2.f5.length b7,.slice B8 y.f2.f6.length b8,.int .i64 y.f2.f7,.int .i64 y.f3] 62)) from (ag.alloc ag.size _).alloc (by rw [qae];have:=ag.size;omega) _);have aB:=zq (show W.heap.size<=((wr.alloc (.cells #[.int .i64 x.f0,.string x.f1,.int .i64 x.f2.f0,.string x.f2.f1,.string x.f2.f2,.slice A5 x.f2.f3.length a5,.slice A6 x.f2.f4.length a6,.slice A7 x.f2.f5.length a7,.slice A8 x.f2.f6.length a8,.int .i64 x.f2.f7,.int .i64 x.f3] 62)).alloc (.cells #[.int .i64 y.f0,.string y.f1,.int .i64 y.f2.f0,.string y.f2.f1,.string y.f2.f2,.slice B5 y.f2.f3.length b5,.slice B6 y.f2.f4.length b6,.slice B7 y.f2.f5.length b7,.slice B8 y.f2.f6.length b8,.int .i64 y.f2.f7,.int .i64 y.f3] 62)).heap.size from d.o.size);clear ag p3 q3 p4 q4 p5 q5 p6 q6 s3 t3 s4 t4 s5 t5 s6 t6
    match hs:zfp k x y with
    | none=>rw [hs] at hr;cases hr
    | some false=>
     rw [hs] at hr;obtain rfl:=qaa hr;have HK:=zq (zlo k x y _ _ _ false (af.o.below d.o) (a1.o.below d.o) hs);clear hr hs;go_wp2_with ((with_reducible refine zdb 48 ?_);refine HK.o.mono ?_;rintro e1 w1 ⟨rfl,Z⟩);go_ret;exact ⟨rfl,d.o.trans (Z.mono aB.o)⟩
    | some true=>
     rw [hs] at hr;have HK:=zq (zlo k x y _ _ _ true (af.o.below d.o) (a1.o.below d.o) hs);have b:=zq (show zqf (zfp k) (l.drop (n+1)) (m.drop (n+1))=some r from hr);clear hr hs;go_wp2_with ((with_reducible refine zdb 48 ?_);refine HK.o.mono ?_;rintro e1 w1 ⟨rfl,Z⟩;have am:=zq (d.o.trans (Z.mono aB.o));clear Z)
     go_roundw
     case rel=>exact ⟨n+1,kab,by go_num,am,b⟩
     case measure=>simp [intOf];omega
   obtain rfl:n=l.length:=kab;have hr:=b.o;rw [List.drop_length,qaz (by have:=aA.o;omega)] at hr;obtain rfl:=qaa hr;clear b hr;go_wp2;go_ret;exact ⟨rfl,HB.o⟩
 rw [if_neg e] at hr;obtain rfl:=qaa hr;have aD:¬((l.length:Int)=(m.length:Int)):=kab;clear hr;go_enter func47,ntmps47;go_wp2;go_ret;exact ⟨rfl,qan _ _⟩
theorem zlk (k:Nat) (W:World) (A A':Option Addr) (c c':Nat) (l m:List S62) (r:Bool) (b:k62.C W A l.length l) (d:k62.C W A' m.length m) (i:l.length<=c) (j:m.length<=c') (hr:zoq (zfp k) l m=some r) :
  Calls prog 24 #[.agg #[.slice A l.length c],.agg #[.slice A' m.length c']] W (zqj W r):=by
 have aj:=zq (show Below W.heap.size W ((W.alloc (.cells #[.slice A l.length c] 36)).alloc (.cells #[.slice A' m.length c'] 36)) from ((qan _ _).alloc (qad _) _).alloc kax _);have HE:=zq (eqfi_calls k _ A A' c c' l m r (Kd.C_below b aj.o) (Kd.C_below d aj.o) i j hr);clear b d hr;go_enter func24,ntmps24;go_wp2_with (go_at_call 47;refine HE.o.mono ?_;rintro n w1 ⟨rfl,e⟩);go_ret;exact ⟨rfl,aj.o.trans (e.mono (by have:=aj.o.size;exact this))⟩
end
section
def srcA:ByteArray:=⟨#[108,101,116,32,97,32,61,32,110,111,116,32,40,116,114,117,101,32,111,114,32,98,41,32,97,110,100,32,112,111,114,116,32,105,110,32,123,32,56,48,44,32,49,32,45,32,57,32,125,59]⟩
def cTrueA:S60:=⟨1,⟨#[]⟩,⟨#[]⟩,[],[],[],[],13⟩
def cNameA:S60:=⟨3,⟨#[98]⟩,⟨#[]⟩,[],[],[],[],21⟩
def cOrA:S60:=⟨6,⟨#[]⟩,⟨#[]⟩,[],[],[],[cTrueA,cNameA],13⟩
def zvn:S60:=⟨4,⟨#[]⟩,⟨#[]⟩,[],[],[],[cOrA],8⟩
def zuz:S60:=⟨8,⟨#[]⟩,⟨#[]⟩,[],[⟨80,80⟩,⟨1,9⟩],[],[],28⟩
def cAndA:S60:=⟨5,⟨#[]⟩,⟨#[]⟩,[],[],[],[zvn,zuz],8⟩
def zhb:S62:=⟨1,⟨#[97]⟩,cAndA,0⟩
def srcB:ByteArray:=⟨#[108,101,116,32,97,32,61,32,59]⟩
theorem parse_A:zfa srcA=([zhb],0,0):=kae
theorem parse_B:zfa srcB=([],90,8):=kae
def outA:List UInt8:=[108,101,116,32,97,61,110,111,116,40,116,114,117,101,32,111,114,32,98,41,97,110,100,32,112,111,114,116,32,105,110,123,56,48,44,49,45,57,125,59]
theorem zsx:zfg [zhb]=(outA,true):=kae
theorem print_0:zfg [⟨0,⟨#[]⟩,z60,0⟩]=([],false):=kae
theorem same_A:zoq (zfp 5) [zhb] [zhb]=some true:=kae
theorem same_0:zoq (zfp 5) [zhb] []=some false:=kae
end
section
theorem zex.reads:∀ {l:List S62} {W:World} {b:Nat} {cells:List Value} {L:List Nat},zex W b l cells L->∀ j p,l[j]?=some p->∃ cs,cs.length=11/\k62.K W p cs/\∀ r,r<11->cells[j*11+r]?=cs[r]?
 | [],_,_,_,_,_,j,p,h=>by simp at h
 | x::l,W,b,cells,L,⟨t,ts,M,N,h1,d,e,_⟩,j,p,h=>by
  have c:=h1.length;subst e;cases j with
  | zero=>
   have:x=p:=(by simpa using h);subst this;obtain ⟨q,c3,s,c4,A5,c5,A6,c6,rfl,l3,g3,l4,g4,n,g5,o,g6⟩:=zci h1.K;refine ⟨_,rfl,zru W x l3 g3 l4 g4 n g5 o g6,fun r hr=>?_⟩;rw [Nat.zero_mul,Nat.zero_add,qbg (by simpa using hr)];rfl
  | succ j=>
   obtain ⟨cs,i,k,m⟩:=zex.reads d j p (by simpa using h);refine ⟨cs,i,k,fun r hr=>?_⟩;rw [qbd (by simp [c];omega),<-m r hr];congr 1;simp [c];omega
theorem Pol.C {W:World} {b:Nat} {l:List S62} {v:Value} (h:Pol W b l v):∃ A c,v = .slice A l.length c/\l.length<=c/\k62.C W A l.length l:=by
 obtain ⟨cells,L,hr,hi,-,-⟩:=h;obtain ⟨A,c,rfl,e,-⟩:=hr.form;exact ⟨A,c,rfl,e,Row.C (d:=k62) hr rfl fun j p i=>hi.reads j p i⟩
def zvd:Nat->S60->Bool
 | 0,_=>true
 | k+1,x=>(decide (x.f0<7)||decide (x.f0=8))&&(x.f4.all fun p=>decide (-9223372036854775808<=p.f0)&&decide (p.f0<=9223372036854775807)&&decide (-9223372036854775808<=p.f1)&&decide (p.f1<=9223372036854775807))&&x.f6.all (zvd k)
theorem zql:∀ (k:Nat) (x:S60),zvd k x=true->Wide k x
 | 0,_,_=>trivial
 | k+1,x,h=>by
  unfold zvd at h;rw [qbj,qbj,qbv,qbv,Bool.or_eq_true,decide_eq_true_eq,decide_eq_true_eq] at h;refine ⟨⟨h.1.1,fun p hp=>?_⟩,fun y b=>zql k y (h.2 y b)⟩;have:=h.1.2 p hp;simp only [qbj,decide_eq_true_eq] at this;exact ⟨⟨this.1.1.1,this.1.1.2⟩,this.1.2,this.2⟩
theorem zum:∀ x∈[zhb],Wide 16 x.f2:=fun x b=>by
 have:x=zhb:=by simpa using b
 subst this;exact zql 16 _ (by decide +kernel)
theorem wide_0:∀ x∈[(⟨0,⟨#[]⟩,z60,0⟩:S62)],Wide 16 x.f2:=fun x b=>by
 have:x=⟨0,⟨#[]⟩,z60,0⟩:=by simpa using b
 subst this;exact zql 16 _ (by decide +kernel)
theorem ztc {α:Type} (d:Kd α) (W:World) (A:Option Addr):d.C W A 0 []:=⟨rfl,kab,fun h=>absurd h kad⟩
theorem zero_C (W:World):k62.C (W.alloc (.cells #[.int .i64 0,.string ⟨#[]⟩,.int .i64 0,.string ⟨#[]⟩,.string ⟨#[]⟩,.slice none 0 0,.slice none 0 0,.slice none 0 0,.slice none 0 0,.int .i64 0,.int .i64 0] 62)) (some ⟨W.heap.size,0,none⟩) 1 [⟨0,⟨#[]⟩,z60,0⟩]:=by
 refine Row.C (d:=k62) (b:=W.heap.size) (ty:=62) (c:=1) (cells:=[.int .i64 0,.string ⟨#[]⟩,.int .i64 0,.string ⟨#[]⟩,.string ⟨#[]⟩,.slice none 0 0,.slice none 0 0,.slice none 0 0,.slice none 0 0,.int .i64 0,.int .i64 0]) ?_ rfl fun j p e=>?_
 ·exact ⟨rfl,.inr ⟨W.heap.size,1,_,rfl,qad _,qab W _,qad _,by simp only [maxLen];omega,kad,rfl⟩⟩
 have i:j=0:=by have:=(qav.1 e).1;simp at this;exact this
 subst i;have:(⟨0,⟨#[]⟩,z60,0⟩:S62)=p:=by simpa using e
 subst this;exact ⟨_,rfl,zru _ _ (A5:=none) (c5:=0) (qad _) (ztc _ _ _) (A6:=none) (c6:=0) (qad _) (ztc _ _ _) (A7:=none) (c7:=0) (qad _) (ztc _ _ _) (A8:=none) (c8:=0) (qad _) (ztc _ _ _),fun r hr=>by rw [Nat.zero_mul,Nat.zero_add];rfl⟩
theorem awake_calls (W:World) (l:Inv W) :
  Calls prog 10 #[] W fun e W'=>e = .returned (.bool true)/\Below W.heap.size W W':=by
 have HI:=zq l;have a1:=zq (show Calls prog 11 #[.string srcA] W (zkt W [zhb] 0 0) from by have:=zip srcA W l;rwa [parse_A] at this);have a6:=zq (fun w (h:Below W.heap.size W w)=>show Calls prog 11 #[.string srcB] w (zkt w [] 90 8) from by have:=zip srcB w (l.below h);rwa [parse_B] at this);have aL:=zq (fun w A c (h:Below W.heap.size W w) (i:k62.C w A 1 [zhb]) (j:1<=c)=>show Calls prog 20 #[.agg #[.slice A 1 c]] w fun e W'=>e = .returned (.tuple #[.string ⟨#[108,101,116,32,97,61,110,111,116,40,116,114,117,101,32,111,114,32,98,41,97,110,100,32,112,111,114,116,32,105,110,123,56,48,44,49,45,57,125,59]⟩,.int .i64 0])/\Below w.heap.size w W' from by
  have:=zkg w (l.below h) A c [zhb] i j kad zum (by decide +kernel);rw [show zls [zhb]=(outA,0) from by unfold zls;rw [zsx];rfl] at this;exact this)
 have aM:=zq (fun w n (h:Below W.heap.size W w) (hn:w.heap.size=n)=>show Calls prog 20 #[.agg #[.slice (some ⟨n,0,none⟩) 1 1]] (w.alloc (.cells #[.int .i64 0,.string ⟨#[]⟩,.int .i64 0,.string ⟨#[]⟩,.string ⟨#[]⟩,.slice none 0 0,.slice none 0 0,.slice none 0 0,.slice none 0 0,.int .i64 0,.int .i64 0] 62)) fun e W'=>e = .returned (.tuple #[.string ⟨#[]⟩,.int .i64 93])/\Below w.heap.size w W' from by
  subst hn;have:=zkg (w.alloc (.cells #[.int .i64 0,.string ⟨#[]⟩,.int .i64 0,.string ⟨#[]⟩,.string ⟨#[]⟩,.slice none 0 0,.slice none 0 0,.slice none 0 0,.slice none 0 0,.int .i64 0,.int .i64 0] 62)) (l.below (h.alloc h.size _)) (some ⟨w.heap.size,0,none⟩) 1 [⟨0,⟨#[]⟩,z60,0⟩] (zero_C w) (qad _) kad wide_0 (by decide +kernel);rw [show zls [⟨0,⟨#[]⟩,z60,0⟩]=([],93) from by unfold zls;rw [print_0];rfl] at this;refine this.mono fun e w' hw=>⟨hw.1,?_⟩;exact (qan _ _ |>.alloc (qad _) _).trans (hw.2.mono (by simp)))
 have aN:=zq (fun w A c (h:Below W.heap.size W w) (i:k62.C w A 1 [zhb]) (j:1<=c)=>show Calls prog 22 #[.agg #[.slice A 1 c]] w fun e W'=>e = .returned (.bool true)/\Below w.heap.size w W' from by
  have:=sright_calls w (l.below h) A c [zhb] i j kad zum (by decide +kernel);rw [zsx] at this;exact this)
 have aO:=zq (fun w A c (i:k62.C w A 1 [zhb]) (j:1<=c)=>show Calls prog 24 #[.agg #[.slice A 1 c],.agg #[.slice A 1 c]] w (zqj w true) from zlk 5 w A A c c [zhb] [zhb] true i i j j same_A);have aP:=zq (fun w A c (i:k62.C w A 1 [zhb]) (j:1<=c)=>show Calls prog 24 #[.agg #[.slice A 1 c],.agg #[.slice none 0 0]] w (zqj w false) from zlk 5 w A none c 0 [zhb] [] false i (ztc _ _ _) j (qad _) same_0);unfold srcA at a1;unfold srcB at a6;clear l;go_enter func10,ntmps10;go_upto_region 5 with (first
  | (go_at_call 11;refine a1.o.mono ?_;rintro e1 w1 ⟨v1,rfl,aT,aE⟩;obtain ⟨U,c1,rfl,aX,aS⟩:=aT.C;have am:=zq (aE.alloc aE.size (.cells #[.slice U 1 c1] 36));have Z:=zq (Kd.C_below aS (zad (qan _ _) (.cells #[.slice U 1 c1] 36)));have a7:=zq (qab w1 (.cells #[.slice U 1 c1] 36));have s:=zq aX;clear aT aS aE aX a1)
  | (go_at_call 20;refine (aL.o _ _ _ am.o Z.o s.o).mono ?_;rintro e2 w2 ⟨rfl,y⟩;have aj:=zq (zbb am.o am.o.size y);have aI:=zq (Kd.C_below Z.o y);have a8:=zq ((y.block _ (zam a7.o)).trans a7.o);clear aL y am Z a7)
  | (go_at_call 11;refine (a6.o _ aj.o).mono ?_;rintro e3 w3 ⟨v3,rfl,aU,aW⟩;obtain ⟨A3,c3,rfl,bk,bc⟩:=aU.C;have B:=zad aW (.cells #[.slice A3 0 c3] 36);have q:=zq (zbb aj.o aj.o.size B);have aJ:=zq (Kd.C_below aI.o B);have aA:=zq ((B.block _ (zam a8.o)).trans a8.o);clear a6 aU aW bc bk B aj aI a8)
  | (go_at_call 20;refine (aM.o _ _ q.o (qae ..)).mono ?_;rintro e4 b ⟨rfl,z⟩;have r:=zq (zbb q.o q.o.size z);have af:=zq (Kd.C_below aJ.o z);have aK:=zq ((z.block _ (zam aA.o)).trans aA.o);clear aM z q aJ aA))
 obtain ⟨ad,A5,c5,A6,c6,A7,c7,A8,c8,rfl,x0,x1,D,E,G,I,J,L,M,O,aZ,-,-,-,-,-,-,m8,g8⟩:=zsg af.o 0 kad kad;replace g8:k60.C b A8 2 [zvn,zuz]:=g8;obtain ⟨d,B3,b3,B4,b4,B5,b5,B6,b6,rfl,-,-,-,-,-,-,y6,-,-,-,-,-,-,-,-,x⟩:=zkr g8 0 kad kad;obtain ⟨bb,D3,d3,D4,d4,D5,d5,D6,d6,hbd,-,-,-,-,z4,-,-,-,-,-,-,u,-,-,-,-⟩:=zkr g8 1 kad kad;obtain rfl:d=bb:=qaa hbd;replace x:k60.C b B6 1 [cOrA]:=x;replace u:k68.C b D4 2 [⟨80,80⟩,⟨1,9⟩]:=u;obtain ⟨ed,E3,bq,E4,br,E5,bu,E6,bv,rfl,-,-,-,-,-,-,-,u7,-,-,-,-,-,-,-,-⟩:=zkr x 0 kad kad;obtain ⟨m,rfl,v0,v1⟩:=znq u 1 kad kad;have aV:∀ (ad:Addr) (k:Nat),ad.add ((0:Int).toNat*k)=ad:=fun ad k=>by show ad.add (0*k)=ad;rw [Nat.zero_mul];unfold Addr.add;simp
 rw [aV] at x0 x1 D E G I J L M O aZ y6 u7;replace D:b.cell? ⟨ad.block,ad.off+2,none⟩=some (.int .i64 5):=D;replace E:b.cell? ⟨ad.block,ad.off+3,none⟩=some (.string ⟨#[]⟩):=E;replace G:b.cell? ⟨ad.block,ad.off+4,none⟩=some (.string ⟨#[]⟩):=G;replace I:b.cell? ⟨ad.block,ad.off+5,none⟩=some (.slice A5 0 c5):=I;replace J:b.cell? ⟨ad.block,ad.off+6,none⟩=some (.slice A6 0 c6):=J;replace L:b.cell? ⟨ad.block,ad.off+7,none⟩=some (.slice A7 0 c7):=L;replace M:b.cell? ⟨ad.block,ad.off+8,none⟩=some (.slice (some d) 2 c8):=M;replace O:b.cell? ⟨ad.block,ad.off+9,none⟩=some (.int .i64 8):=O;replace y6:b.cell? ⟨d.block,d.off+6,none⟩=some (.slice (some ed) 1 b6):=y6;replace u7:b.cell? ⟨ed.block,ed.off+7,none⟩=some (.int .i64 13):=u7;replace z4:b.cell? ⟨d.block,d.off+8+4,none⟩=some (.slice (some m) 2 d4):=z4;replace v0:b.cell? ⟨m.block,m.off+2,none⟩=some (.int .i64 1):=v0;replace v1:b.cell? ⟨m.block,m.off+2+1,none⟩=some (.int .i64 9):=v1;have q0:=zab aK.o 0;have HX:=zq (qab b (.cells #[.int .i64 5,.string ⟨#[]⟩,.string ⟨#[]⟩,.slice A5 0 c5,.slice A6 0 c6,.slice A7 0 c7,.slice (some d) 2 c8,.int .i64 8] 60));have HF:=zq (fun w (h:Below b.heap.size b w)=>And.intro (zag h q0) (And.intro (zag h y6) (And.intro (zag h u7) (And.intro (zag h z4) (And.intro (zag h v0) (zag h v1))))));have HK:=zq (fun w (h:Below b.heap.size b w)=>Kd.C_below af.o h);have p:=zq (zad (qan b.heap.size b) (.cells #[.int .i64 5,.string ⟨#[]⟩,.string ⟨#[]⟩,.slice A5 0 c5,.slice A6 0 c6,.slice A7 0 c7,.slice (some d) 2 c8,.int .i64 8] 60));clear g8 m8 x u aV hbd x0 x1 aZ y6 u7 z4 v0 v1 af aK;have bp:=fun o=>zag (zad (qan b.heap.size b) o) q0;go_wp2_with (first
  | (go_at_call 22;refine (aN.o _ _ _ (zbb r.o r.o.size p.o) (HK.o _ p.o) s.o).mono ?_;rintro e5 w5 ⟨rfl,aF⟩;have aQ:=zq ((aF.block _ (zam HX.o)).trans HX.o);have aB:=zbb p.o p.o.size aF;have X:=zq aB;obtain ⟨r0,-⟩:=HF.o _ aB;clear aF aB aN q0 bp D E G I J L M O)
  | (go_at_call 24;refine (aO.o _ _ _ (HK.o _ X.o) s.o).mono ?_;rintro e6 w6 ⟨rfl,aG⟩;have aR:=zq ((aG.block _ (zam aQ.o)).trans aQ.o);have aC:=zbb X.o X.o.size aG;have Y:=zq aC;obtain ⟨s0,-⟩:=HF.o _ aC;clear aG aC aO r0)
  | (go_at_call 24;refine (aP.o _ _ _ (HK.o _ Y.o) s.o).mono ?_;rintro e7 w7 ⟨rfl,aH⟩;have aY:=(aH.block _ (zam aR.o)).trans aR.o;have aD:=zbb Y.o Y.o.size aH;have ba:=zq aD;obtain ⟨t0,t1,t2,t3,t4,t5⟩:=HF.o _ aD;obtain ⟨p0,p1,p2,p3,p4,p5,p6,p7⟩:=zbj aY;clear aH aD aY aP s0))
 go_ret;exact ⟨rfl,zbb r.o r.o.size ba.o⟩
end
section
def TFr (W W':World) (ts:List Nat):Prop:=Fr W W' fun g=>∃ t,t∈ts/\∃ cs,W.heap[g]?=some (.cells cs t (0,0))
theorem TFr.refl (W:World) (ts:List Nat):TFr W W ts:=Fr.refl _ _
theorem TFr.mono {W W':World} {ts b:List Nat} (h:TFr W W' ts) (hs:∀ t∈ts,t∈b):TFr W W' b:=
 Fr.mono h fun g ⟨t,ht,hg⟩ => .inl ⟨t,hs t ht,hg⟩
theorem TFr.trans {W W1 W2:World} {ts:List Nat} (h:TFr W W1 ts) (k:TFr W1 W2 ts):TFr W W2 ts:=by
 refine Fr.then_ h k fun g ⟨t,ht,cs,hg⟩=>?_;by_cases c:g<W.heap.size
 ·by_cases b:∃ t,t∈ts/\∃ cs,W.heap[g]?=some (.cells cs t (0,0))
  ·exact .inl b
  exact absurd ⟨t,ht,cs,(h.block g c b).symm.trans hg⟩ b
 exact .inr kab
theorem TFr.alloc {W W1:World} {ts:List Nat} (h:TFr W W1 ts) (o:Obj):TFr W (W1.alloc o) ts:=Fr.alloc h o
theorem TFr.drewN {W W1:World} {ts:List Nat} (h:TFr W W1 ts) (n:Nat):TFr W (W1.drewN n) ts:=Fr.drewN h n
theorem TFr.of_below {W W1:World} {ts:List Nat} (h:Below W.heap.size W W1):TFr W W1 ts:=Fr.of_below h
theorem TFr.of_grown {W W1:World} {b ty sz n:Nat} {v:Value} {xs:List Value} (hr:Row W b ty sz v n xs) (h:W.grownBy W1 v.ownBlock):TFr W W1 [ty]:=
 Fr.of_grown h fun k hk=>by obtain ⟨-,-,cur,c⟩:=hr.blk hk;exact ⟨ty,by simp,cur,c⟩
theorem TFr.setCell {W W1:World} {ts:List Nat} (h:TFr W W1 ts) {g p t:Nat} {cs:Array Value} (hg:W1.heap[g]?=some (.cells cs t (0,0))) (ht:t∈ts) (u:Value):TFr W (W1.setCell ⟨g,p,none⟩ u) ts:=
 h.trans (Fr.setCell (Fr.refl _ _) (p:=⟨g,p,none⟩) (.inl ⟨t,ht,cs,hg⟩) u)
theorem TFr.blk {W W1:World} {ts:List Nat} (h:TFr W W1 ts) {g t:Nat} {cs:Array Value} (hg:W.heap[g]?=some (.cells cs t (0,0))) (ht:t∉ts):W1.heap[g]?=some (.cells cs t (0,0)):=
 Fr.blk h hg fun ⟨e,d,cs',b⟩=>by
  rw [hg] at b;injection b with b;injection b with _ c;exact ht (c ▸ d)
theorem _root_.Go.Proofs.YtjeekocidaogoaaGreatDoor.Hand.Row.tfr {W W1:World} {ts:List Nat} {b ty sz n:Nat} {v:Value} {xs:List Value} (h:Row W b ty sz v n xs) (hf:TFr W W1 ts) (ht:ty∉ts):Row W1 b ty sz v n xs:=
 h.frame fun g d=>by obtain ⟨-,-,cur,c⟩:=h.blk d;exact (hf.blk c ht).trans c.symm
structure Wr (W W':World) (g ty lo hi:Nat):Prop where
 fr:Fr W W' (·=g)
 size:W'.heap.size=W.heap.size
 blk:∀ cs,W.heap[g]?=some (.cells cs ty (0,0))->∃ cs',W'.heap[g]?=some (.cells cs' ty (0,0))/\cs'.size=cs.size/\∀ j,j<lo\/hi<=j->cs'[j]?=cs[j]?
theorem Wr.refl (W:World) (g ty lo hi:Nat):Wr W W g ty lo hi:=⟨Fr.refl _ _,rfl,fun cs h=>⟨cs,h,rfl,fun _ _=>rfl⟩⟩
theorem Wr.set {W W1:World} {g ty lo hi:Nat} (h:Wr W W1 g ty lo hi) (p:Nat) (h1:lo<=p) (k:p<hi) (u:Value):Wr W (W1.setCell ⟨g,p,none⟩ u) g ty lo hi:=by
 refine ⟨Fr.setCell h.fr (.inl rfl) u,by rw [<-h.size];simp [World.setCell],fun cs b=>?_⟩;obtain ⟨cs',d,e,i⟩:=h.blk cs b;refine ⟨cs'.setIfInBounds p u,zan d p u rfl,by simpa using e,fun j c=>?_⟩;rw [Array.getElem?_setIfInBounds_ne kab];exact i j c
theorem Wr.tfr {W W1:World} {g ty lo hi:Nat} {cs:Array Value} (h:Wr W W1 g ty lo hi) (hg:W.heap[g]?=some (.cells cs ty (0,0))):TFr W W1 [ty]:=
 Fr.mono h.fr fun k hk => .inl ⟨ty,by simp,cs,by rw [hk];exact hg⟩
theorem _root_.Go.Proofs.YtjeekocidaogoaaGreatDoor.Hand.Row.wr {W W1:World} {b ty sz n g lo hi:Nat} {v:Value} {xs:List Value} (h:Row W b ty sz v n xs) (hg:v.ownBlock=some g) (o:Wr W W1 g ty lo hi) :
  ∃ ys,Row W1 b ty sz v n ys/\(∀ j,j<lo\/hi<=j->ys[j]?=xs[j]?)/\∀ j,j<n*sz->ys[j]?=W1.cell? ⟨g,j,none⟩:=by
 rcases h.2 with ⟨rfl,_⟩|⟨d,cap,cur,rfl,k,hh,hn,m,l,ht⟩
 ·simp [Value.ownBlock] at hg
 have:d=g:=by simpa [Value.ownBlock] using hg
 subst this;obtain ⟨cs',e,i,p⟩:=o.blk cur hh;have q:n*sz<=cap*sz:=qbp _ hn;refine ⟨cs'.toList.take (n*sz),⟨by rw [qbq,Array.length_toList,i];omega,.inr ⟨d,cap,cs',rfl,k,e,hn,m,by rw [i];exact l,rfl⟩⟩,fun j c=>?_,fun j c=>?_⟩
 ·rw [<-ht,List.getElem?_take,List.getElem?_take,Array.getElem?_toList,Array.getElem?_toList,p j c]
 rw [List.getElem?_take,if_pos c,Array.getElem?_toList,zab e]
def zmt (rows:List Value):Prop:=∀ (i j:Nat) (X Y:Value) (g:Nat),rows[i]?=some X->rows[j]?=some Y->X.ownBlock=some g->Y.ownBlock=some g->i=j
theorem zmt.nil:zmt []:=fun i j X Y g h=>by simp at h
theorem zmt.one (X:Value):zmt [X]:=fun i j X Y g h k _ _=>by
 have h1:=(qav.1 h).1;have b:=(qav.1 k).1;simp at h1 b;omega
theorem zmt.append {l r:List Value} (k:zmt l) (hr:zmt r) (h:∀ X Y g,X∈l->Y∈r->X.ownBlock=some g->Y.ownBlock≠some g):zmt (l++r):=by
 intro i j X Y g hi b c d;by_cases h1:i<l.length
 ·rw [qbg h1] at hi;by_cases e:j<l.length
  ·rw [qbg e] at b;exact k i j X Y g hi b c d
  rw [qbd kab] at b;exact absurd d (h X Y g (qbz hi) (qbz b) c)
 rw [qbd kab] at hi;by_cases e:j<l.length
 ·rw [qbg e] at b;exact absurd c (h Y X g (qbz b) (qbz hi) d)
 rw [qbd kab] at b;have:=hr _ _ X Y g hi b c d;omega
theorem zmt.of_nodup:∀ {l:List Value},(l.flatMap Blk).Nodup->zmt l
 | [],_ => .nil
 | X::l,h=>by
  rw [List.flatMap_cons,List.nodup_append] at h;obtain ⟨-,b,c⟩:=h;exact (zmt.one X).append (zmt.of_nodup b) fun A Y g d e i j=>by
   have:A=X:=(by simpa using d);subst this;exact c g (zqt.2 i) g (List.mem_flatMap.2 ⟨Y,e,zqt.2 j⟩) rfl
theorem zmt.set {l:List Value} {i:Nat} {X V:Value} (h:zmt l) (hi:l[i]?=some X) (k:∀ g,V.ownBlock=some g->X.ownBlock=some g\/∀ Y∈l,Y.ownBlock≠some g):zmt (l.set i V):=by
 intro p q A B g hp b e j;rw [List.getElem?_set] at hp b;by_cases h1:i=p
 ·by_cases d:i=q
  ·omega
  rw [if_pos h1] at hp;rw [if_neg d] at b;split at hp
  ·obtain rfl:=qaa hp;rcases k g e with c|c
   ·have:=h i q X B g hi b c j;omega
   exact absurd j (c B (qbz b))
  cases hp
 rw [if_neg h1] at hp;by_cases d:i=q
 ·rw [if_pos d] at b;split at b
  ·obtain rfl:=qaa b;rcases k g j with c|c
   ·have:=h i p X A g hi hp c e;omega
   exact absurd e (c A (qbz hp))
  cases b
 rw [if_neg d] at b;exact h p q A B g hp b e j
structure Fam (W:World) (b ty sz:Nat) (rows:List Value) (P:Nat->List Value->Nat->Prop):Prop where
 row:∀ j X,rows[j]?=some X->∃ n xs,Row W b ty sz X n xs/\P j xs n
 apart:zmt rows
theorem Fam.nil (W:World) (b ty sz:Nat) (P:Nat->List Value->Nat->Prop):Fam W b ty sz [] P:=⟨fun j X h=>by simp at h,.nil⟩
theorem Fam.tfr {W W1:World} {b ty sz:Nat} {rows:List Value} {P:Nat->List Value->Nat->Prop} {ts:List Nat} (h:Fam W b ty sz rows P) (hf:TFr W W1 ts) (ht:ty∉ts):Fam W1 b ty sz rows P:=
 ⟨fun j X d=>by obtain ⟨n,xs,h1,c⟩:=h.row j X d;exact ⟨n,xs,h1.tfr hf ht,c⟩,h.apart⟩
theorem Fam.weaken {W:World} {b ty sz:Nat} {rows:List Value} {P Q:Nat->List Value->Nat->Prop} (h:Fam W b ty sz rows P) (e:∀ j xs n,j<rows.length->P j xs n->Q j xs n):Fam W b ty sz rows Q:=
 ⟨fun j X c=>by obtain ⟨n,xs,h1,d⟩:=h.row j X c;exact ⟨n,xs,h1,e j xs n (qav.1 c).1 d⟩,h.apart⟩
theorem Fam.append {W:World} {b ty sz:Nat} {l r:List Value} {P:Nat->List Value->Nat->Prop} {c:Nat} (i:Fam W b ty sz l P) (s:∀ X∈l,∀ g,X.ownBlock=some g->g<c)
  (hr:∀ X∈r,∃ n xs,Row W b ty sz X n xs/\∀ j,P j xs n) (p:zmt r) (q:∀ X∈r,∀ g,X.ownBlock=some g->c<=g):Fam W b ty sz (l++r) P:=by
 refine ⟨fun j X d=>?_,i.apart.append p fun X Y g m o h1 e=>?_⟩
 ·by_cases h1:j<l.length
  ·rw [qbg h1] at d;exact i.row j X d
  rw [qbd kab] at d;obtain ⟨n,xs,e,k⟩:=hr X (qbz d);exact ⟨n,xs,e,k j⟩
 have:=s X m g h1;have:=q Y o g e;omega
theorem Fam.wr {W W1:World} {b ty sz i g lo hi:Nat} {rows:List Value} {P d:Nat->List Value->Nat->Prop} {X:Value} (h:Fam W b ty sz rows P) (l:rows[i]?=some X) (hg:X.ownBlock=some g) (m:Wr W W1 g ty lo hi)
  (p:∀ j xs n,j≠i->P j xs n->d j xs n)
  (o:∀ xs ys n,P i xs n->Row W b ty sz X n xs->(∀ j,j<lo\/hi<=j->ys[j]?=xs[j]?)->(∀ j,j<n*sz->ys[j]?=W1.cell? ⟨g,j,none⟩)->d i ys n):Fam W1 b ty sz rows d:=by
 refine ⟨fun j Y c=>?_,h.apart⟩;obtain ⟨n,xs,h1,k⟩:=h.row j Y c;by_cases e:j=i
 ·subst e;rw [l] at c;obtain rfl:=qaa c;obtain ⟨ys,u,w,x⟩:=h1.wr hg m;exact ⟨n,ys,u,o xs ys n k h1 w x⟩
 exact ⟨n,xs,h1.fr m.fr fun q s r=>e (by subst r;exact h.apart j i Y X _ c l s hg),p j xs n e k⟩
def MkF (sz:Nat) (v:Value) (xs:List Value) (p:Nat):Prop:=∀ q,q<p->xs[q*sz]?=some v
def PM (M sz:Nat) (mk:Nat->Value) (i k:Nat) (j:Nat) (xs:List Value) (n:Nat):Prop:=n<=M/\(j<i->MkF sz (mk j) xs n)/\(j=i->MkF sz (mk j) xs k)
def PG (M sz:Nat) (mk:Nat->Value) (i:Nat) (j:Nat) (xs:List Value) (n:Nat):Prop:=n<=M+1/\(i<=j->n<=M)/\MkF sz (mk j) xs n
theorem Fam.mark {W W1:World} {b ty sz M i k g:Nat} {rows:List Value} {mk:Nat->Value} {X:Value} (w:0<sz) (h:Fam W b ty sz rows (PM M sz mk i k)) (r:rows[i]?=some X) (hg:X.ownBlock=some g) (u:Wr W W1 g ty (k*sz) (k*sz+sz))
  {n:Nat} {A:Option Addr} {c:Nat} (o:X = .slice A n c) (hk:k<n) (p:W1.cell? ⟨g,k*sz,none⟩=some (mk i)):Fam W1 b ty sz rows (PM M sz mk i (k+1)):=by
 refine h.wr r hg u (fun j xs n s hp=>⟨hp.1,hp.2.1,fun e=>absurd e s⟩) fun xs ys n' hp m x y=>⟨hp.1,fun e=>absurd e kab,fun _ q z=>?_⟩;obtain ⟨A',c',d,-⟩:=m.form;rw [o] at d;have hn:n=n':=by injection d
 subst hn;by_cases e:q=k
 ·subst e;rw [y (q*sz) (Nat.mul_lt_mul_of_pos_right hk w)];exact p
 have l:q<k:=kab;have:(q+1)*sz<=k*sz:=qbp _ l;rw [Nat.add_mul,Nat.one_mul] at this;rw [x (q*sz) (.inl kab)];exact hp.2.2 rfl q l
theorem Fam.mark0 {W:World} {b ty sz M:Nat} {rows:List Value} (mk:Nat->Value) (h:Fam W b ty sz rows (fun _ _ n=>n<=M)):Fam W b ty sz rows (PM M sz mk 0 0):=
 h.weaken fun j xs n _ hn=>⟨hn,fun e=>by omega,fun _ q c=>by omega⟩
theorem Fam.next {W:World} {b ty sz M i:Nat} {rows:List Value} {mk:Nat->Value} {X:Value} {n:Nat} {A:Option Addr} {c:Nat} (h:Fam W b ty sz rows (PM M sz mk i n)) (s:rows[i]?=some X) (r:X = .slice A n c):Fam W b ty sz rows (PM M sz mk (i+1) 0):=by
 refine ⟨fun j Y d=>?_,h.apart⟩;obtain ⟨m,xs,h1,l,o,p⟩:=h.row j Y d;refine ⟨m,xs,h1,l,fun e=>?_,fun _ q w=>by omega⟩;by_cases u:j=i
 ·subst u;rw [s] at d;obtain rfl:=qaa d;obtain ⟨A',c',k,-⟩:=h1.form;rw [r] at k;have hn:n=m:=by injection k
  subst hn;exact p rfl
 exact o kab
theorem Fam.marked {W:World} {b ty sz M:Nat} {rows:List Value} {mk:Nat->Value} (h:Fam W b ty sz rows (PM M sz mk rows.length 0)):Fam W b ty sz rows (PG M sz mk 0):=
 h.weaken fun j xs n c hp=>⟨by have:=hp.1;omega,fun _=>hp.1,hp.2.1 c⟩
theorem MkF.snoc {sz p:Nat} {v:Value} {xs news:List Value} (h:MkF sz v xs p) (b:xs.length=p*sz) (hn:news[0]?=some v):MkF sz v (xs++news) (p+1):=by
 intro q c;by_cases e:q=p
 ·subst e;rw [qbd kab,b,Nat.sub_self];exact hn
 have h1:=h q kab;rw [qbg (qav.1 h1).1];exact h1
structure Grow (W:World) (b ty tyo sz M:Nat) (it cur:List Value) (mk:Nat->Value) (i io:Nat) (out:Value):Prop where
 len:cur.length=it.length
 rest:∀ j,i<=j->cur[j]?=it[j]?
 fam:Fam W b ty sz cur (PG M sz mk i)
 row:Row W b tyo 1 out io (cur.take io)
theorem Grow.start {W:World} {b ty tyo sz M:Nat} {it:List Value} {mk:Nat->Value} (h:Fam W b ty sz it (PG M sz mk 0)):Grow W b ty tyo sz M it it mk 0 0 (.slice none 0 0):=
 ⟨rfl,fun _ _=>rfl,h,by rw [List.take_zero];exact Row.nil _ _ _ _⟩
theorem Grow.tfr {W W1:World} {b ty tyo sz M:Nat} {it cur:List Value} {mk:Nat->Value} {i io:Nat} {out:Value} {ts:List Nat} (h:Grow W b ty tyo sz M it cur mk i io out) (hf:TFr W W1 ts) (h1:ty∉ts) (c:tyo∉ts):Grow W1 b ty tyo sz M it cur mk i io out:=
 ⟨h.len,h.rest,h.fam.tfr hf h1,h.row.tfr hf c⟩
theorem Grow.at {W:World} {b ty tyo sz M:Nat} {it cur:List Value} {mk:Nat->Value} {i io:Nat} {out:Value} (h:Grow W b ty tyo sz M it cur mk i io out) (hi:i<it.length):∃ X n xs,it[i]?=some X/\cur[i]?=some X/\Row W b ty sz X n xs/\n<=M/\MkF sz (mk i) xs n:=by
 have h1:=qao hi;have c:=(h.rest i (qad _)).trans h1;obtain ⟨n,xs,d,k,e,j⟩:=h.fam.row i _ c;exact ⟨_,n,xs,h1,c,d,e (qad _),j⟩
theorem Grow.app1 {W W1:World} {b ty tyo sz M:Nat} {it cur:List Value} {mk:Nat->Value} {i:Nat} {out X V:Value} {n:Nat} {xs news:List Value} (h:Grow W b ty tyo sz M it cur mk i i out) (B:tyo≠ty)
  (hi:cur[i]?=some X) (o:Row W b ty sz X n xs) (hn:n<=M) (A:MkF sz (mk i) xs n) (s:Row W1 b ty sz V (n+1) (xs++news)) (hg:W.grownBy W1 X.ownBlock) (u:V.ownBlock=X.ownBlock\/V.ownBlock=some (W.heap.size+1)) (D:news[0]?=some (mk i)) :
  Grow W1 b ty tyo sz M it (cur.set i V) mk (i+1) i out:=by
 have z:i<cur.length:=(qav.1 hi).1;have x:=TFr.of_grown o hg;refine ⟨by rw [List.length_set];exact h.len,fun j c=>?_,⟨fun j Y c=>?_,h.fam.apart.set hi fun g d=>?_⟩,?_⟩
 ·rw [List.getElem?_set,if_neg kab];exact h.rest j kab
 ·rw [List.getElem?_set] at c;by_cases e:i=j
  ·subst e;rw [if_pos rfl,if_pos z] at c;obtain rfl:=qaa c;exact ⟨n+1,xs++news,s,kab,fun e=>by omega,A.snoc o.1 D⟩
  rw [if_neg e] at c;obtain ⟨m,ys,h1,p,q,r⟩:=h.fam.row j Y c;refine ⟨m,ys,h1.grown hg ?_,p,fun k=>q kab,r⟩;cases l:Y.ownBlock with
  | none=>exact .inl rfl
  | some g=>exact .inr fun w=>e (h.fam.apart i j X Y g hi c w.symm l)
 ·rcases u with e|e
  ·exact .inl (e ▸ d)
  rw [e] at d;obtain rfl:=qaa d;refine .inr fun Y l y=>?_;obtain ⟨j,c⟩:=List.getElem?_of_mem l;obtain ⟨m,ys,h1,-⟩:=h.fam.row j Y c;have:=(h1.blk y).2.1;omega
 rw [List.take_set_of_le (qad _)];exact h.row.tfr x (by simpa using B)
theorem Grow.app2 {W W1:World} {b ty tyo sz M:Nat} {it cur:List Value} {mk:Nat->Value} {i:Nat} {out V c:Value} (h:Grow W b ty tyo sz M it cur mk (i+1) i out) (k:tyo≠ty)
  (hi:cur[i]?=some V) (d:Row W1 b tyo 1 c (i+1) (cur.take i++[V])) (hg:W.grownBy W1 out.ownBlock):Grow W1 b ty tyo sz M it cur mk (i+1) (i+1) c:=by
 have j:=TFr.of_grown h.row hg;refine ⟨h.len,h.rest,h.fam.tfr j (by simpa using fun e=>k e.symm),?_⟩;rw [List.take_add_one,hi];exact d
end
section
def zco:List Nat:=[33,34,58,25,57,56]
structure BkV (W:World) (b B:Nat) (it kd nm sp pr:List Value) (v0 v1 v2 v3 v4:Value):Prop where
 low:b<=B
 blk:W.heap[B]?=some (.cells #[v0,v1,v2,v3,v4] 33 (0,0))
 r0:Row W b 34 1 v0 it.length it
 r1:Row W b 58 1 v1 kd.length kd
 r2:Row W b 25 1 v2 nm.length nm
 r3:Row W b 57 1 v3 sp.length sp
 r4:Row W b 56 1 v4 pr.length pr
theorem BkV.tfr {W W1:World} {b B:Nat} {it kd nm sp pr:List Value} {v0 v1 v2 v3 v4:Value} {ts:List Nat} (h:BkV W b B it kd nm sp pr v0 v1 v2 v3 v4) (hf:TFr W W1 ts) (ht:∀ t∈zco,t∉ts):BkV W1 b B it kd nm sp pr v0 v1 v2 v3 v4:=
 ⟨h.low,hf.blk h.blk (ht _ (by simp [zco])),h.r0.tfr hf (ht _ (by simp [zco])),h.r1.tfr hf (ht _ (by simp [zco])),h.r2.tfr hf (ht _ (by simp [zco])),h.r3.tfr hf (ht _ (by simp [zco])),h.r4.tfr hf (ht _ (by simp [zco]))⟩
def BkS (W:World) (b B:Nat) (it kd nm sp pr:List Value):Prop:=∃ v0 v1 v2 v3 v4,BkV W b B it kd nm sp pr v0 v1 v2 v3 v4
theorem BkS.tfr {W W1:World} {b B:Nat} {it kd nm sp pr:List Value} {ts:List Nat} (h:BkS W b B it kd nm sp pr) (hf:TFr W W1 ts) (ht:∀ t∈zco,t∉ts):BkS W1 b B it kd nm sp pr:=by
 obtain ⟨v0,v1,v2,v3,v4,h⟩:=h;exact ⟨v0,v1,v2,v3,v4,h.tfr hf ht⟩
theorem BkV.push0 {W W1:World} {b B:Nat} {it kd nm sp pr:List Value} {v0 v1 v2 v3 v4 u X:Value} (h:BkV W b B it kd nm sp pr v0 v1 v2 v3 v4) (d:Row W1 b 34 1 u (it.length+1) (it++[X])) (hg:W.grownBy W1 v0.ownBlock) :
  BkV (W1.setCell ⟨B,0,none⟩ u) b B (it++[X]) kd nm sp pr u v1 v2 v3 v4/\TFr W (W1.setCell ⟨B,0,none⟩ u) zco:=by
 have hf:=TFr.of_grown h.r0 hg;have c:=hf.blk h.blk kad;have hs:TFr W1 (W1.setCell ⟨B,0,none⟩ u) [33]:=(TFr.refl W1 _).setCell c (by simp) u;refine ⟨⟨h.low,zan c 0 u rfl,by rw [qal,qay];exact d.tfr hs kad,(h.r1.tfr hf kad).tfr hs kad,(h.r2.tfr hf kad).tfr hs kad,(h.r3.tfr hf kad).tfr hs kad,(h.r4.tfr hf kad).tfr hs kad⟩,(hf.mono (fun t ht=>?_)).trans (hs.mono fun t ht=>?_)⟩
 ·rw [qbk.1 ht];simp [zco]
 rw [qbk.1 ht];simp [zco]
theorem BkV.push1 {W W1:World} {b B:Nat} {it kd nm sp pr:List Value} {v0 v1 v2 v3 v4 u X:Value} (h:BkV W b B it kd nm sp pr v0 v1 v2 v3 v4) (d:Row W1 b 58 1 u (kd.length+1) (kd++[X])) (hg:W.grownBy W1 v1.ownBlock) :
  BkV (W1.setCell ⟨B,1,none⟩ u) b B it (kd++[X]) nm sp pr v0 u v2 v3 v4/\TFr W (W1.setCell ⟨B,1,none⟩ u) zco:=by
 have hf:=TFr.of_grown h.r1 hg;have c:=hf.blk h.blk kad;have hs:TFr W1 (W1.setCell ⟨B,1,none⟩ u) [33]:=(TFr.refl W1 _).setCell c (by simp) u;refine ⟨⟨h.low,zan c 1 u rfl,(h.r0.tfr hf kad).tfr hs kad,by rw [qal,qay];exact d.tfr hs kad,(h.r2.tfr hf kad).tfr hs kad,(h.r3.tfr hf kad).tfr hs kad,(h.r4.tfr hf kad).tfr hs kad⟩,(hf.mono (fun t ht=>?_)).trans (hs.mono fun t ht=>?_)⟩
 ·rw [qbk.1 ht];simp [zco]
 rw [qbk.1 ht];simp [zco]
theorem BkV.push2 {W W1:World} {b B:Nat} {it kd nm sp pr:List Value} {v0 v1 v2 v3 v4 u X:Value} (h:BkV W b B it kd nm sp pr v0 v1 v2 v3 v4) (d:Row W1 b 25 1 u (nm.length+1) (nm++[X])) (hg:W.grownBy W1 v2.ownBlock) :
  BkV (W1.setCell ⟨B,2,none⟩ u) b B it kd (nm++[X]) sp pr v0 v1 u v3 v4/\TFr W (W1.setCell ⟨B,2,none⟩ u) zco:=by
 have hf:=TFr.of_grown h.r2 hg;have c:=hf.blk h.blk kad;have hs:TFr W1 (W1.setCell ⟨B,2,none⟩ u) [33]:=(TFr.refl W1 _).setCell c (by simp) u;refine ⟨⟨h.low,zan c 2 u rfl,(h.r0.tfr hf kad).tfr hs kad,(h.r1.tfr hf kad).tfr hs kad,by rw [qal,qay];exact d.tfr hs kad,(h.r3.tfr hf kad).tfr hs kad,(h.r4.tfr hf kad).tfr hs kad⟩,(hf.mono (fun t ht=>?_)).trans (hs.mono fun t ht=>?_)⟩
 ·rw [qbk.1 ht];simp [zco]
 rw [qbk.1 ht];simp [zco]
theorem BkV.push3 {W W1:World} {b B:Nat} {it kd nm sp pr:List Value} {v0 v1 v2 v3 v4 u X:Value} (h:BkV W b B it kd nm sp pr v0 v1 v2 v3 v4) (d:Row W1 b 57 1 u (sp.length+1) (sp++[X])) (hg:W.grownBy W1 v3.ownBlock) :
  BkV (W1.setCell ⟨B,3,none⟩ u) b B it kd nm (sp++[X]) pr v0 v1 v2 u v4/\TFr W (W1.setCell ⟨B,3,none⟩ u) zco:=by
 have hf:=TFr.of_grown h.r3 hg;have c:=hf.blk h.blk kad;have hs:TFr W1 (W1.setCell ⟨B,3,none⟩ u) [33]:=(TFr.refl W1 _).setCell c (by simp) u;refine ⟨⟨h.low,zan c 3 u rfl,(h.r0.tfr hf kad).tfr hs kad,(h.r1.tfr hf kad).tfr hs kad,(h.r2.tfr hf kad).tfr hs kad,by rw [qal,qay];exact d.tfr hs kad,(h.r4.tfr hf kad).tfr hs kad⟩,(hf.mono (fun t ht=>?_)).trans (hs.mono fun t ht=>?_)⟩
 ·rw [qbk.1 ht];simp [zco]
 rw [qbk.1 ht];simp [zco]
theorem BkV.push4 {W W1:World} {b B:Nat} {it kd nm sp pr:List Value} {v0 v1 v2 v3 v4 u X:Value} (h:BkV W b B it kd nm sp pr v0 v1 v2 v3 v4) (d:Row W1 b 56 1 u (pr.length+1) (pr++[X])) (hg:W.grownBy W1 v4.ownBlock) :
  BkV (W1.setCell ⟨B,4,none⟩ u) b B it kd nm sp (pr++[X]) v0 v1 v2 v3 u/\TFr W (W1.setCell ⟨B,4,none⟩ u) zco:=by
 have hf:=TFr.of_grown h.r4 hg;have c:=hf.blk h.blk kad;have hs:TFr W1 (W1.setCell ⟨B,4,none⟩ u) [33]:=(TFr.refl W1 _).setCell c (by simp) u;refine ⟨⟨h.low,zan c 4 u rfl,(h.r0.tfr hf kad).tfr hs kad,(h.r1.tfr hf kad).tfr hs kad,(h.r2.tfr hf kad).tfr hs kad,(h.r3.tfr hf kad).tfr hs kad,by rw [qal,qay];exact d.tfr hs kad⟩,(hf.mono (fun t ht=>?_)).trans (hs.mono fun t ht=>?_)⟩
 ·rw [qbk.1 ht];simp [zco]
 rw [qbk.1 ht];simp [zco]
end
section
mutual
def wt:S60->Nat
 | ⟨_,_,_,p,s,n,l,_⟩=>1+p.length+s.length+n.length+wtL l
def wtL:List S60->Nat
 | []=>0
 | c::r=>wt c+wtL r
end
theorem znt (x:S60):wt x=1+x.f3.length+x.f4.length+x.f5.length+wtL x.f6:=by cases x;rw [wt]
theorem zmu:∀ (l r:List S60),wtL (l++r)=wtL l+wtL r
 | [],r=>by simp [wtL]
 | c::l,r=>by rw [List.cons_append,wtL,zmu l r,wtL];omega
theorem znu (c:S60):wtL [c]=wt c:=by simp [wtL]
theorem zrc (x:S60):1<=wt x:=by rw [znt];omega
theorem zjr:∀ (l:List S60),l.length<=wtL l
 | []=>by simp
 | c::r=>by have h1:=zjr r;have b:=zrc c;rw [wtL,qbe];omega
def wtI:List S62->Nat
 | []=>0
 | x::r=>1+wt x.f2+wtI r
theorem zmv:∀ (l r:List S62),wtI (l++r)=wtI l+wtI r
 | [],r=>by simp [wtI]
 | c::l,r=>by rw [List.cons_append,wtI,zmv l r,wtI];omega
theorem zhq:∀ (l:List S62),l.length<=wtI l
 | []=>by simp
 | c::r=>by have h1:=zhq r;rw [wtI,qbe];omega
def OnW {α:Type} (f:α->Nat) (i:Nat) (r:Option (PR α)):Prop:=∀ x j,r=some (.ok x j)->i+f x<=j
theorem OnW.none {α:Type} {f:α->Nat} {i:Nat}:OnW f i none:=fun x j h=>by cases h
theorem OnW.bad {α:Type} {f:α->Nat} {i:Nat} {e p:Int}:OnW (α:=α) f i (some (.bad e p)):=fun x j h=>by cases h
theorem OnW.ok {α:Type} {f:α->Nat} {i j:Nat} {x:α} (h:i+f x<=j):OnW f i (some (.ok x j)):=fun y m e=>by cases e;exact h
section
variable (toks:List Tok)
theorem zhc (s:ByteArray) (i:Nat):OnW (fun _=>1) i (some (zdg toks s i)):=by
 unfold zdg;split
 ·exact .ok (qad _)
 exact .bad
theorem zof (k:Int) (i:Nat):OnW (fun _=>1) i (some (ofP toks k i)):=by
 unfold ofP;split
 ·exact .ok (qad _)
 exact .bad
theorem OnW.bind {α β:Type} {g:α->Nat} {f:β->Nat} {i:Nat} {r:PR α} {F:α->Nat->PR β} (h:OnW g i (some r)) (hf:∀ x j,i+g x<=j->OnW f i (some (F x j))):OnW f i (some (r.bind F)):=by
 cases r with
 | bad e p=>exact .bad
 | ok a j=>exact hf a j (h a j rfl)
theorem addrE_w (i:Nat):OnW (fun _=>1) i (some (zgh toks i)):=(zof toks 5 i).bind fun _ j h => .ok h
theorem methodE_w (i:Nat):OnW (fun _=>1) i (some (zdq toks i)):=(zof toks 3 i).bind fun _ j h => .ok h
theorem portE_w (i:Nat):OnW (fun _=>1) i (some (zfi toks i)):=(zof toks 4 i).bind fun t j h=>by
 have h:i+1<=j:=h;split
 ·intro x m c;have d:j+1+1<=m:=((zof toks 4 (j+1)).bind (f:=fun _=>1) fun u q b=>OnW.ok b) x m c;show i+1<=m;omega
 exact .ok h
theorem listL_w {β:Type} (elem:Nat->PR β) (want:Int) (n:∀ i,OnW (fun _=>1) i (some (elem i))) (i0:Nat):∀ (k i:Nat) (acc:List β),i0+acc.length<=i->OnW List.length i0 (zha toks elem want k i acc):=by
 intro k;induction k with
 | zero=>intro i acc h;exact .none
 | succ k o=>
  intro i acc h;unfold zha;split
  ·exact .bad
  have h1:=n i;cases hr:elem i with
  | bad e p=>exact .bad
  | ok b j=>
   rw [hr] at h1;have r:i+1<=j:=h1 b j rfl;dsimp only;split
   ·exact o (j+1) (acc++[b]) (by rw [qal,qay];omega)
   intro x m c;have d:=zhc toks zgz j;cases l:zdg toks zgz j with
   | bad e p=>rw [l] at c;simp [PR.bind] at c
   | ok u q=>
    rw [l] at c d;have s:j+1<=q:=d u q rfl;simp only [PR.bind,qai,PR.ok.injEq] at c;obtain ⟨rfl,rfl⟩:=c;rw [qal,qay];omega
theorem zqu {β:Type} (elem:Nat->PR β) (want:Int) (c:∀ i,OnW (fun _=>1) i (some (elem i))) (k i:Nat):OnW List.length i (zhk toks elem want k i):=by
 unfold zhk;have h1:=zhc toks sIn i;cases hr:zdg toks sIn i with
 | bad e p=>exact .bad
 | ok u j=>
  rw [hr] at h1;have l:=h1 u j rfl;dsimp only;have b:=zhc toks zju j;cases d:zdg toks zju j with
  | bad e p=>exact .bad
  | ok u2 m=>
   rw [d] at b;have n:=b u2 m rfl;exact listL_w toks elem want c i k m [] kbl
theorem OnW.map {α β:Type} {g:α->Nat} {f:β->Nat} {i c:Nat} {r:Option (PR α)} {F:α->β} (h:OnW g i r) (hf:∀ x,f (F x)<=c+g x):OnW (fun b=>f b-c) i (r.map fun r=>r.bind fun l j => .ok (F l) j):=by
 intro x j d
 match r,h with
 | some (.ok a m),h=>
  have h1:=h a m rfl;have k:=hf a;simp only [Option.map_some,PR.bind,qai,PR.ok.injEq] at d;obtain ⟨rfl,rfl⟩:=d;show i+(f (F a)-c)<=m;omega
 | some (.bad e p),h=>simp [PR.bind] at d
 | .none,h=>simp at d
theorem atomP_w (t:Tok) (k i:Nat):OnW (fun c:CD=>wt c.1-1) i (zor toks t k i):=by
 unfold zor;split
 ·exact .ok (by simp [wt,wtL])
 split
 ·exact .ok (by simp [wt,wtL])
 split
 ·exact (zqu toks (zgh toks) 5 (addrE_w toks) k i).map (f:=fun c:CD=>wt c.1) (c:=1) (F:=fun l=>((⟨7,⟨#[]⟩,⟨#[]⟩,l,[],[],[],t.place⟩:S60),1)) fun x=>by simp [wt,wtL]
 split
 ·exact (zqu toks (zfi toks) 4 (portE_w toks) k i).map (f:=fun c:CD=>wt c.1) (c:=1) (F:=fun l=>((⟨8,⟨#[]⟩,⟨#[]⟩,[],l,[],[],t.place⟩:S60),1)) fun x=>by simp [wt,wtL]
 split
 ·exact (zqu toks (zdq toks) 3 (methodE_w toks) k i).map (f:=fun c:CD=>wt c.1) (c:=1) (F:=fun l=>((⟨9,⟨#[]⟩,⟨#[]⟩,[],[],l,[],t.place⟩:S60),1)) fun x=>by simp [wt,wtL]
 split
 ·exact (zhc toks zcn i).bind fun _ j h=>(show OnW _ i _ from fun x m b=>by
   have h:i+1<=j:=h;have:=((zof toks 6 j).bind (f:=fun c:CD=>wt c.1-1) fun u q (d:j+1<=q)=>OnW.ok (by simp [wt,wtL];omega)) x m b;dsimp only at this ⊢;omega)
 split
 ·exact (zof toks 6 i).bind fun n j h=>(show OnW _ i _ from fun x m b=>by
   have h:i+1<=j:=h;have:=((zhc toks zcn j).bind (f:=fun c:CD=>wt c.1-1) fun _ q d=>(show OnW _ j _ from fun x m b=>by
    have d:j+1<=q:=d;have:=((zof toks 6 q).bind (f:=fun c:CD=>wt c.1-1) fun u y (e:q+1<=y)=>OnW.ok (by simp [wt,wtL];omega)) x m b;dsimp only at this ⊢;omega)) x m b
   dsimp only at this ⊢;omega)
 split
 ·exact (zof toks 6 i).bind fun n j (h:i+1<=j) => .ok (by simp [wt,wtL];omega)
 exact .bad
theorem ztr (x:S60) (d i j:Nat) (h:i+wt x<=j):OnW (fun c:CD=>wt c.1) i (some (zkc x d j)):=by
 unfold zkc;split
 ·exact .bad
 exact .ok h
theorem rowL_w (part:Nat->Option (PR CD)) (hp:∀ i,OnW (fun c:CD=>wt c.1) i (part i)) (kind:Int) (word:ByteArray) (i0:Nat):∀ (k i:Nat) (l:List S60) (d:Nat),0<l.length->i0+wtL l+l.length<=i+1 ->
  OnW (fun c:CD=>wt c.1) i0 (rowL toks part kind word k i l d):=by
 intro k;induction k with
 | zero=>intro i l d n h;exact .none
 | succ k q=>
  intro i l d n h;unfold rowL;split
  ·split
   ·exact .bad
   have h1:=hp (i+1);cases hr:part (i+1) with
   | none=>exact .none
   | some r=>
    rw [hr] at h1;cases r with
    | bad e p=>exact .bad
    | ok c j=>
     have o:=h1 c j rfl;refine q j (l++[c.1]) (max d c.2) (by rw [qal];omega) ?_;rw [zmu,znu,qal,qay];dsimp only at o;omega
  split
  ·refine .ok ?_;rw [znu,qay] at h;dsimp only;omega
  rename_i m;refine ztr _ _ _ _ ?_;have o:2<=l.length:=by
   match l,n,m with
   | [c],_,m=>exact absurd rfl (m c)
   | a::b::r,_,_=>simp
  simp only [znt,List.length_nil];omega
theorem zuq (part:Nat->Option (PR CD)) (hp:∀ i,OnW (fun c:CD=>wt c.1) i (part i)) (kind:Int) (word:ByteArray) (k i:Nat):OnW (fun c:CD=>wt c.1) i (rowP toks part kind word k i):=by
 unfold rowP;have h1:=hp i;cases hr:part i with
 | none=>exact .none
 | some r=>
  rw [hr] at h1;cases r with
  | bad e p=>exact .bad
  | ok c j=>
   have b:=h1 c j rfl;exact rowL_w toks part hp kind word i k j [c.1] c.2 (by simp) (by rw [znu,qay];dsimp only at b;omega)
theorem condP_w:∀ (k l i:Nat),OnW (fun c:CD=>wt c.1) i (zce toks k l i):=by
 intro k;induction k with
 | zero=>intro l i;exact .none
 | succ k d=>
  intro l i
  match l with
  | 0=>unfold zce;exact zuq toks _ (d 1) 6 sOr k i
  | 1=>unfold zce;exact zuq toks _ (d 2) 5 sAnd k i
  | 2=>
   unfold zce;split
   ·have h1:=d 2 (i+1);cases hr:zce toks k 2 (i+1) with
    | none=>exact .none
    | some r=>
     rw [hr] at h1;cases r with
     | bad e p=>exact .bad
     | ok c j=>
      have o:=h1 c j rfl;dsimp only at o;refine ztr _ _ _ _ ?_;simp only [znt,List.length_nil,znu];have:=znt c.1;omega
   exact d 3 i
  | n+3=>
   unfold zce;split
   ·have h1:=d 0 (i+1);cases hr:zce toks k 0 (i+1) with
    | none=>exact .none
    | some r=>
     rw [hr] at h1;cases r with
     | bad e p=>exact .bad
     | ok c j=>
      have o:=h1 c j rfl;dsimp only at o;intro x m b;dsimp only at b;have s:=zhc toks zhf j;cases w:zdg toks zhf j with
      | bad e p=>rw [w] at b;simp [PR.bind] at b
      | ok u q=>
       rw [w] at b s;have y:j+1<=q:=s u q rfl;simp only [PR.bind,qai,PR.ok.injEq] at b;obtain ⟨rfl,rfl⟩:=b;dsimp only;omega
   split
   ·exact .ok (by simp [wt,wtL])
   split
   ·intro x j b;have:=atomP_w toks (tk toks i) k (i+1) x j b;dsimp only at this ⊢;have:=zrc x.1;omega
   exact .bad
theorem itemP_w (k n i:Nat):OnW (fun x:S62=>1+wt x.f2) i (zfr toks k n i):=by
 unfold zfr;split
 ·exact .bad
 split
 ·exact .bad
 have h1:=zof toks 2 (i+1);cases hr:ofP toks 2 (i+1) with
 | bad e p=>exact .bad
 | ok nm j=>
  rw [hr] at h1;have B:=h1 nm j rfl;dsimp only;split
  ·exact .bad
  rename_i u m A;have D:=zhc toks _ j _ _ (congrArg some A);have d:=condP_w toks k 0 m;split
  ·exact .none
  ·exact .bad
  rename_i c q w;rw [w] at d;have s:=d c q rfl;dsimp only at s;exact fun x y b=>((zhc toks zjc q).bind (f:=fun x:S62=>1+wt x.f2-(q-i)) fun _ r E=>OnW.ok (by dsimp only;omega)) x y b |> fun l=>by
   dsimp only at l ⊢;have G:q<=y:=kab;cases o:zdg toks zjc q with
   | bad e p=>rw [o] at b;simp [PR.bind] at b
   | ok u2 z=>
    rw [o] at b;simp only [PR.bind,qai,PR.ok.injEq] at b;obtain ⟨rfl,rfl⟩:=b;dsimp only at l ⊢;omega
theorem itemsP_w (k:Nat):∀ (f i:Nat) (acc:List S62),wtI acc<=i->OnW wtI 0 (zfb toks k f i acc):=by
 intro f;induction f with
 | zero=>intro i acc h;exact .none
 | succ f c=>
  intro i acc h;unfold zfb;split
  ·exact .ok kab
  have h1:=itemP_w toks k acc.length i;cases hr:zfr toks k acc.length i with
  | none=>exact .none
  | some r=>
   rw [hr] at h1;cases r with
   | bad e p=>exact .bad
   | ok x j=>
    have b:=h1 x j rfl;dsimp only at b;exact c j (acc++[x]) (by rw [zmv];simp only [wtI];omega)
theorem policyP_w {l:List S62} {j:Nat} (h:zio toks=some (.ok l j)):wtI l<=j:=by
 have:=itemsP_w toks (5*toks.length+4) (toks.length+1) 0 [] (qad _) l j h;omega
end
end
section
structure New (W:World) (b c w:Nat) (L:List Nat) (kd nm sp pr:List Value):Prop where
 len:kd.length<=c
 l2:nm.length=kd.length
 l3:sp.length=kd.length
 l4:pr.length=kd.length
 b1:(kd.flatMap Blk).Sublist L
 b2:(nm.flatMap Blk).Sublist L
 b3:(sp.flatMap Blk).Sublist L
 b4:(pr.flatMap Blk).Sublist L
 r1:∀ X∈kd,∃ n xs,Row W b 60 8 X n xs/\n<=w
 r2:∀ X∈nm,∃ n xs,Row W b 9 1 X n xs/\n<=w
 r3:∀ X∈sp,∃ n xs,Row W b 68 2 X n xs/\n<=w
 r4:∀ X∈pr,∃ n xs,Row W b 47 2 X n xs/\n<=w
theorem New.nil (W:World) (b c w:Nat) (L:List Nat):New W b c w L [] [] [] []:=
 ⟨qbx _,rfl,rfl,rfl,List.nil_sublist _,List.nil_sublist _,List.nil_sublist _,List.nil_sublist _,fun X h=>(by cases h),fun X h=>(by cases h),fun X h=>(by cases h),fun X h=>(by cases h)⟩
theorem New.tfr {W W1:World} {b c w:Nat} {L:List Nat} {kd nm sp pr:List Value} {ts:List Nat} (h:New W b c w L kd nm sp pr) (hf:TFr W W1 ts) (ht:∀ t∈[60,9,68,47],t∉ts):New W1 b c w L kd nm sp pr:=
 ⟨h.len,h.l2,h.l3,h.l4,h.b1,h.b2,h.b3,h.b4,
  fun X e=>by obtain ⟨n,xs,h1,d⟩:=h.r1 X e;exact ⟨n,xs,h1.tfr hf (ht _ (by simp)),d⟩,fun X e=>by obtain ⟨n,xs,h1,d⟩:=h.r2 X e;exact ⟨n,xs,h1.tfr hf (ht _ (by simp)),d⟩,
  fun X e=>by obtain ⟨n,xs,h1,d⟩:=h.r3 X e;exact ⟨n,xs,h1.tfr hf (ht _ (by simp)),d⟩,fun X e=>by obtain ⟨n,xs,h1,d⟩:=h.r4 X e;exact ⟨n,xs,h1.tfr hf (ht _ (by simp)),d⟩⟩
theorem New.mono {W:World} {b c w c' w':Nat} {L k:List Nat} {kd nm sp pr:List Value} (h:New W b c w L kd nm sp pr) (l:c<=c') (j:w<=w') (i:L.Sublist k):New W b c' w' k kd nm sp pr:=
 ⟨qas h.len l,h.l2,h.l3,h.l4,h.b1.trans i,h.b2.trans i,h.b3.trans i,h.b4.trans i,
  fun X e=>by obtain ⟨n,xs,h1,d⟩:=h.r1 X e;exact ⟨n,xs,h1,qas d j⟩,fun X e=>by obtain ⟨n,xs,h1,d⟩:=h.r2 X e;exact ⟨n,xs,h1,qas d j⟩,
  fun X e=>by obtain ⟨n,xs,h1,d⟩:=h.r3 X e;exact ⟨n,xs,h1,qas d j⟩,fun X e=>by obtain ⟨n,xs,h1,d⟩:=h.r4 X e;exact ⟨n,xs,h1,qas d j⟩⟩
theorem New.append {W:World} {b c w c':Nat} {L e:List Nat} {kd nm sp pr kd' nm' sp' pr':List Value} (h:New W b c w L kd nm sp pr) (k:New W b c' w e kd' nm' sp' pr'):New W b (c+c') w (L++e) (kd++kd') (nm++nm') (sp++sp') (pr++pr'):=by
 have hk:=h.len;have i:=k.len;refine ⟨by rw [qal];omega,by rw [qal,qal,h.l2,k.l2],by rw [qal,qal,h.l3,k.l3],by rw [qal,qal,h.l4,k.l4],
  by rw [List.flatMap_append];exact h.b1.append k.b1,by rw [List.flatMap_append];exact h.b2.append k.b2,by rw [List.flatMap_append];exact h.b3.append k.b3,by rw [List.flatMap_append];exact h.b4.append k.b4,
  fun X d=>?_,fun X d=>?_,fun X d=>?_,fun X d=>?_⟩
 ·rcases qbi.1 d with d|d
  ·exact h.r1 X d
  exact k.r1 X d
 ·rcases qbi.1 d with d|d
  ·exact h.r2 X d
  exact k.r2 X d
 ·rcases qbi.1 d with d|d
  ·exact h.r3 X d
  exact k.r3 X d
 rcases qbi.1 d with d|d
 ·exact h.r4 X d
 exact k.r4 X d
theorem New.head {W:World} {b w:Nat} {vp vs vn vk:Value} {j k i d:Nat} {q xs p o:List Value} (hp:Row W b 47 2 vp j q) (hs:Row W b 68 2 vs k xs) (hn:Row W b 9 1 vn i p) (hk:Row W b 60 8 vk d o)
  (h1:j<=w) (l:k<=w) (m:i<=w) (n:d<=w):New W b 1 w (Blk vp++Blk vs++Blk vn++Blk vk) [vk] [vn] [vs] [vp]:=by
 have e:∀ v:Value,[v].flatMap Blk=Blk v:=fun v=>by simp
 refine ⟨by simp,rfl,rfl,rfl,by rw [e];exact List.sublist_append_right _ _,by rw [e];exact (List.sublist_append_right _ _).trans (qcg _ _),by rw [e];exact (List.sublist_append_right _ _).trans ((qcg _ _).trans (qcg _ _)),by rw [e];exact (qcg _ _).trans ((qcg _ _).trans (qcg _ _)),
  fun X c=>?_,fun X c=>?_,fun X c=>?_,fun X c=>?_⟩
 ·rw [qbk.1 c];exact ⟨_,_,hk,n⟩
 ·rw [qbk.1 c];exact ⟨_,_,hn,m⟩
 ·rw [qbk.1 c];exact ⟨_,_,hs,l⟩
 rw [qbk.1 c];exact ⟨_,_,hp,h1⟩
def zuj (W:World) (b b1 B:Nat) (it kd nm sp pr:List Value) (c w:Nat) (L:List Nat) (W':World):Prop:=
 Below b W W'/\TFr W W' zco/\∃ kd' nm' sp' pr',BkS W' b B it (kd++kd') (nm++nm') (sp++sp') (pr++pr')/\New W' b1 c w L kd' nm' sp' pr'
theorem Forest.step {W:World} {b:Nat} {l:List S60} {cs:List Value} {L2:List Nat} {i:Nat} (h:Forest W b (l.drop i) (cs.drop (i*8)) L2) (hi:i<l.length) :
  ∃ c ds M N,l[i]?=some c/\Tree W b c ds M/\(∀ r,r<8->cs[i*8+r]?=ds[r]?)/\Forest W b (l.drop (i+1)) (cs.drop ((i+1)*8)) N/\L2=M++N:=by
 rw [qbh hi] at h;generalize d:cs.drop (i*8)=k at h;cases h with
 | @cons _ _ ds rs M N ht hr=>
  refine ⟨l[i],ds,M,N,qao hi,ht,fun r j=>?_,?_,rfl⟩
  ·rw [<-List.getElem?_drop,d,qbg (by rw [ht.length];exact j)]
  have e:cs.drop ((i+1)*8)=rs:=by
   rw [Nat.add_mul,Nat.one_mul,<-List.drop_drop,d,<-ht.length,List.drop_left]
  rw [e];exact hr
theorem zex.step {W:World} {b:Nat} {l:List S62} {cs:List Value} {L2:List Nat} {i:Nat} (h:zex W b (l.drop i) (cs.drop (i*11)) L2) (hi:i<l.length) :
  ∃ x ds M N,l[i]?=some x/\Tree W b x.f2 ds M/\cs[i*11]?=some (.int .i64 x.f0)/\cs[i*11+1]?=some (.string x.f1)/\(∀ r,r<8->cs[i*11+(2+r)]?=ds[r]?)/\cs[i*11+10]?=some (.int .i64 x.f3)/\zex W b (l.drop (i+1)) (cs.drop ((i+1)*11)) N/\L2=M++N:=by
 rw [qbh hi] at h;generalize c:cs.drop (i*11)=k at h;obtain ⟨ds,ts,M,N,ht,hr,rfl,rfl⟩:=h;have d:=ht.length;have at_:∀ r,cs[i*11+r]?=(([Value.int .i64 l[i].f0,Value.string l[i].f1]:List Value)++ds++[Value.int .i64 l[i].f3]++ts)[r]?:=fun r=>by rw [<-List.getElem?_drop,c]
 refine ⟨l[i],ds,M,N,qao hi,ht,at_ 0,at_ 1,fun r m=>?_,?_,?_,rfl⟩
 ·rw [at_,qbl,qbl,qbd (by simp),qbg kbl];congr 1;simp
 ·rw [at_,qbg kbl,qbd kbl];simp [d]
 have e:cs.drop ((i+1)*11)=ts:=by
  rw [Nat.add_mul,Nat.one_mul,<-List.drop_drop,c];have j:(([Value.int .i64 l[i].f0,Value.string l[i].f1]:List Value)++ds++[Value.int .i64 l[i].f3]).length=11:=by simp [d]
  rw [<-j,List.drop_left]
 rw [e];exact hr
end
end Go.Proofs.YtjeekocidaogoaaGreatDoor.H
