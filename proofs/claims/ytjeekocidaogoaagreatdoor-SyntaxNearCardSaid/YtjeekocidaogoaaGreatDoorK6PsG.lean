import Derived.Test.YtjeekocidaogoaaGreatDoorK6Hx23
import Derived.Test.YtjeekocidaogoaaGreatDoorK6Addr
import Derived.Test.YtjeekocidaogoaaGreatDoorK6Mut
import Derived.Test.YtjeekocidaogoaaGreatDoorK6Atoms
import Derived.Test.YtjeekocidaogoaaGreatDoorK6PrN
set_option linter.unusedVariables false
set_option linter.unusedSimpArgs false
set_option maxRecDepth 100000
set_option maxHeartbeats 8000000
open Go.Proofs.Tryz
namespace Go.Proofs.YtjeekocidaogoaaGreatDoor.H
open Go.RowKit Go.Proofs.YtjeekocidaogoaaGreatDoor.Hand Go.Proofs.YtjeekocidaogoaaGreatDoorW.PrintWords Go.Proofs.YtjeekocidaogoaaGreatDoorW.PrintLast Go.Proofs.YtjeekocidaogoaaGreatDoorW.PrintMore
section
def wLet:List UInt8:=[108,101,116]
def zec:List UInt8:=[97,108,108,111,119]
def zfm:List UInt8:=[100,101,110,121]
def zeo:List UInt8:=[119,104,101,110]
def zhy (x:S62) (s:PQ):Option PQ:=
 if x.f0=1 then some ((zbo x.f1 (s.one wLet)).signs [61])
 else if x.f0=2 then some ((zbo x.f1 (s.one zec)).one zeo)
 else if x.f0=3 then some ((zbo x.f1 (s.one zfm)).one zeo)
 else none
def zfk:List S62->PQ->Option PQ
 | [],s=>some s
 | x::r,s=>if (s.bad||zep s)=true then none else match zhy x s with
  | none=>none
  | some t=>zfk r ((zbp 16 x.f2 t).signs [59])
def zfd (l:List S62):List UInt8×Bool:=match zfk l ((⟨[],false,false⟩:PQ).must (decide (l.length<=100))) with
 | none=>([],false)
 | some s=>(s.o,!s.bad&&!zep s)
def zmh (l:List S62):Nat:=(l.map fun x=>x.f1.size+zdb 16 x.f2+20).sum
theorem bC_nums (l:List UInt8):bC l=nums .u8 (l.map fun b=>(b.toNat:Int)):=by simp [bC,nums]
theorem str_nums (l:List UInt8):strOfNums (l.map fun b=>(b.toNat:Int))=tB l:=zol l
theorem pr_string {W0 W:World} {g:Nat} {s:PQ} {A:Option Addr} {c:Nat} (h:PrS W0 W g s) (i:W.cell? ⟨g,0,none⟩=some (.slice A s.o.length c)) :
  (convert 64 9 (.slice A s.o.length c)).run prog W = .ok (.string (tB s.o)) W:=by
 obtain ⟨A',k,c0,-,-,-,-,-,d,-⟩:=h.facts;have e:=qaa (i.symm.trans c0);simp only [Value.slice.injEq] at e;obtain ⟨rfl,-,rfl⟩:=e;rw [bC_nums] at d;obtain ⟨j,c2,b,hr⟩:=own_reads d;simp only [Value.slice.injEq] at b;obtain ⟨rfl,-,rfl⟩:=b;rw [<-str_nums];exact string_of_reads underlying64 underlying5 underlying9 hr
theorem zct {w:World} {q:Nat} {v0 v1 v2 v3 v4 v5 c d e v9 b:Value} (h:w.heap[q]?=some (.cells #[v0,v1,v2,v3,v4,v5,c,d,e,v9,b] 62 (0,0))) :
  w.cell? ⟨q,0,none⟩=some v0/\w.cell? ⟨q,1,none⟩=some v1/\w.cell? ⟨q,2,none⟩=some v2/\w.cell? ⟨q,3,none⟩=some v3/\w.cell? ⟨q,4,none⟩=some v4/\w.cell? ⟨q,5,none⟩=some v5/\w.cell? ⟨q,6,none⟩=some c/\w.cell? ⟨q,7,none⟩=some d/\w.cell? ⟨q,8,none⟩=some e/\w.cell? ⟨q,9,none⟩=some v9/\w.cell? ⟨q,10,none⟩=some b:=
 ⟨zab h 0,zab h 1,zab h 2,zab h 3,zab h 4,zab h 5,zab h 6,zab h 7,zab h 8,zab h 9,zab h 10⟩
theorem costI_drop (l:List S62) (i:Nat) (h:i<l.length):zmh (l.drop i)=(l.getD i z62).f1.size+zdb 16 (l.getD i z62).f2+20+zmh (l.drop (i+1)):=by
 unfold zmh;rw [qbe h,qar,qan h];simp only [qca,List.sum_cons,Option.getD_some]
def finQ:Option PQ->List UInt8×Bool
 | none=>([],false)
 | some s=>(s.o,!s.bad&&!zep s)
def PrintE (W:World) (r:List UInt8×Bool) (e:Ending) (W':World):Prop:=e = .returned (.tuple #[.string (tB r.1),.bool r.2])/\Below W.heap.size W W'
theorem zja (W:World) (bF:Inv W) (A:Option Addr) (c:Nat) (l:List S62) (hC:k62.C W A l.length l) (hc:l.length<=c) (hm:l.length<=140737488351232) (hw:∀ x∈l,Wide 16 x.f2) (hl:zmh l+10<=140737488351232) :
  Calls prog 42 #[.agg #[.slice A l.length c]] W (PrintE W (zfd l)):=by
 have aY:=zq bF;have bI:=zq hC;have bJ:=zq hw;have hr:zfd l=finQ (zfk l ((⟨[],false,false⟩:PQ).must (decide (l.length<=100)))):=by
  unfold zfd finQ;cases zfk l ((⟨[],false,false⟩:PQ).must (decide (l.length<=100)))<;>rfl
 rw [hr];generalize b7:finQ (zfk l ((⟨[],false,false⟩:PQ).must (decide (l.length<=100))))=r;have b5:=zq b7;have HL:=zq hl;have b4:=zq (show PrS W ((W.alloc (.cells #[.slice A l.length c] 36)).alloc (.cells #[.slice none 0 0,.bool false,.bool false] 116)) (W.heap.size+1) ⟨[],false,false⟩ from by
  refine ⟨⟨.slice none 0 0,?_,zsx _ _ _ _⟩,kab,((qam _ _).alloc (qad _) _).alloc kax _⟩;have:=qac (W.alloc (.cells #[.slice A l.length c] 36)) (.cells #[.slice none 0 0,.bool false,.bool false] 116);rw [qae] at this;exact this)
 have hB:=zaf (qac W (.cells #[.slice A l.length c] 36)) (.cells #[.slice none 0 0,.bool false,.bool false] 116);have bA:=zq hB;obtain ⟨j,hg⟩:∃ n,n=W.heap.size+1:=⟨_,rfl⟩;have b3:=zq (fun w b (p:b=decide (l.length<=100)) (h:PrS W w (W.heap.size+1) ⟨[],false,false⟩)=>show Calls prog 65 #[.pointer (some ⟨W.heap.size+1,0,none⟩),.bool b] w (PrE W w (W.heap.size+1) ((⟨[],false,false⟩:PQ).must (decide (l.length<=100)))) from p ▸ zbt W w _ _ _ h);have b8:((⟨[],false,false⟩:PQ).must (decide (l.length<=100))).o=[]:=rfl;have bN:(decide ((l.length:Int)<=100)=true/\true=decide (l.length<=100))\/(decide ((l.length:Int)<=100)=false/\false=decide (l.length<=100)):=by
  by_cases h:l.length<=100
  ·exact .inl ⟨kbv,by simp [h]⟩
  exact .inr ⟨kbv,by simp [h]⟩
 generalize (⟨[],false,false⟩:PQ).must (decide (l.length<=100))=s0 at b5 b3 b8 b7;clear bF hC hw hr b7 hl hB;rcases bN with ⟨bE,b6⟩|⟨bE,b6⟩;all_goals
  have b9:=zq b6;clear b6;go_enter func42,ntmps42;go_wp2_with (go_at_call 65;refine (b3.o _ _ b9.o b4.o).mono ?_;rintro e1 w1 ⟨rfl,aB,aC⟩;have af:=aC.keep b4.o bA.o kad kad;have a8:=zq aB;have m0:=zab af 0;clear aB aC af);clear m0 b3 b4 bA b9 bE
  skip
  simp only [<-hg] at a8 ⊢;clear hg
  go_loopw [18] (fun i wr=>∃ k:Nat,∃ d,k<=l.length/\i = .int .i64 k/\Zq (PrS W wr j d)/\Zq (finQ (zfk (l.drop k) d)=r)/\Zq (d.o.length+zmh (l.drop k)+10<=140737488351232)) (fun i _=>l.length-(intOf i).toNat)
  case atStart=>exact ⟨0,s0,Nat.zero_le _,rfl,a8,b5,⟨by rw [b8];have:=HL.o;show 0+zmh l+10<=_;omega⟩⟩
  case round=>
   clear a8 b5 HL b8;obtain ⟨k,d,hk,rfl,aG,bd,bb⟩:=hrel;by_cases b1:k<l.length
   ·obtain ⟨ad,X,d5,Y,d6,Z,d7,B8,d8,rfl,x0,x1,x2,x3,x4,x5,x6,x7,x8,x9,aZ,m5,e5,m6,e6,m7,e7,m8,e8⟩:=zsg bI.o (k:Int) kab kab;have bH:zdw l (k:Int)=l.getD k z62:=(by unfold zdw;rw [qau]);rw [bH] at x0 x1 x2 x3 x4 x5 x6 x7 x8 x9 aZ m5 e5 m6 e6 m7 e7 m8 e8;rw [qau] at x0 x1 x2 x3 x4 x5 x6 x7 x8 x9 aZ;have bG:l.drop k=l.getD k z62::l.drop (k+1):=by
     rw [qbe b1,qar,qan b1];rfl
    have O:=bd.o;rw [bG] at O;have aH:=bb.o;rw [costI_drop l k b1] at aH;have a6:=bJ.o (l.getD k z62) (by rw [qar,qan b1];exact List.getElem_mem _);clear bH bG bd bb;generalize l.getD k z62=x at x0 x1 x2 x3 x4 x5 x6 x7 x8 x9 aZ m5 e5 m6 e6 m7 e7 m8 e8 O aH a6;obtain ⟨f0,f1,y,f3⟩:=x;dsimp only at x0 x1 x2 x3 x4 x5 x6 x7 x8 x9 aZ m5 e5 m6 e6 m7 e7 m8 e8 aH a6;have ag:=aG.o.bel;have x0:=zag ag x0;have x1:=zag ag x1;have x2:=zag ag x2;have x3:=zag ag x3;have x4:=zag ag x4;have x5:=zag ag x5;have x6:=zag ag x6;have x7:=zag ag x7;have x8:=zag ag x8;have x9:=zag ag x9;have aZ:=zag ag aZ;have aX:=zq (show zer W y (.agg #[.int .i64 y.f0,.string y.f1,.string y.f2,.slice X y.f3.length d5,.slice Y y.f4.length d6,.slice Z y.f5.length d7,.slice B8 y.f6.length d8,.int .i64 y.f7]) from ⟨_,zjf W y m5 e5 m6 e6 m7 e7 m8 e8,rfl⟩);clear ag m5 e5 m6 e6 m7 e7 m8 e8;have M:=zq (aG.o.alloc (.cells #[.int .i64 f0,.string f1,.int .i64 y.f0,.string y.f1,.string y.f2,.slice X y.f3.length d5,.slice Y y.f4.length d6,.slice Z y.f5.length d7,.slice B8 y.f6.length d8,.int .i64 y.f7,.int .i64 f3] 62));have aM:=zq (qac wr (.cells #[.int .i64 f0,.string f1,.int .i64 y.f0,.string y.f1,.string y.f2,.slice X y.f3.length d5,.slice Y y.f4.length d6,.slice Z y.f5.length d7,.slice B8 y.f6.length d8,.int .i64 y.f7,.int .i64 f3] 62));obtain ⟨A0,bD,a0,a1,a2,bK,bL,bM,-,-⟩:=M.o.facts;cases p:d.bad with
    | true=>
     have hn:zfk (⟨f0,f1,y,f3⟩::l.drop (k+1)) d=none:=(by rw [zfk,if_pos (by rw [p];rfl)]);rw [hn] at O;rw [p] at a2;subst O;have aJ:=zq M.o.bel;clear M aM aG aX aH a6 p hn;go_wp2
     go_ret2
     exact ⟨rfl,aJ.o⟩
    | false=>
     rw [p] at a2;cases aI:zep d with
     | true=>
      have hn:zfk (⟨f0,f1,y,f3⟩::l.drop (k+1)) d=none:=(by rw [zfk,if_pos (by rw [aI,p];rfl)]);rw [hn] at O;subst O;have a7:=zq (show ∀ w,PrS W w j d->Calls prog 66 #[.pointer (some ⟨j,0,none⟩)] w fun e w'=>e = .returned (.bool true)/\w'=w from fun w h=>by have:=zdi W w j d h kab;rwa [show decide (8000<d.o.length)=true from aI] at this);have aJ:=zq M.o.bel;clear aM aG aX aH a6 p hn aI;go_wp2_with (go_at_call 66;refine (a7.o _ M.o).mono ?_;rintro el wl ⟨rfl,rfl⟩;clear a7)
      go_ret2
      exact ⟨rfl,aJ.o⟩
     | false=>
      have a7:=zq (show ∀ w,PrS W w j d->Calls prog 66 #[.pointer (some ⟨j,0,none⟩)] w fun e w'=>e = .returned (.bool false)/\w'=w from fun w h=>by have:=zdi W w j d h kab;rwa [show decide (8000<d.o.length)=false from aI] at this);rw [zfk,if_neg (by rw [aI,p];decide)] at O;by_cases h1:f0=1
      ·subst h1;rw [show zhy ⟨1,f1,y,f3⟩ d=some ((zbo f1 (d.one wLet)).signs [61]) from rfl] at O;have bv:(d.one wLet).o.length<=d.o.length+4:=zdy wLet d;have bw:(zbo f1 (d.one wLet)).o.length<=d.o.length+5+f1.size:=qbf (zhv f1 _) kab;have bx:((zbo f1 (d.one wLet)).signs [61]).o.length<=d.o.length+6+f1.size:=(by rw [zcp];show _+1<=_;omega);have bz:(zbp 16 y ((zbo f1 (d.one wLet)).signs [61])).o.length<=d.o.length+12+f1.size+zdb 16 y:=qbf (zgq 16 y _ a6) kab;have b0:((zbp 16 y ((zbo f1 (d.one wLet)).signs [61])).signs [59]).o.length<=d.o.length+13+f1.size+zdb 16 y:=(by rw [zcp];show _+1<=_;omega);have U:=zdj W (wr.alloc (.cells #[.int .i64 1,.string f1,.int .i64 y.f0,.string y.f1,.string y.f2,.slice X y.f3.length d5,.slice Y y.f4.length d6,.slice Z y.f5.length d7,.slice B8 y.f6.length d8,.int .i64 y.f7,.int .i64 f3] 62)) j d ⟨#[108,101,116]⟩ M.o (by show _+3+1<=_;omega);simp only [qae] at U;have aW:=fun e w' (h:PrE W (wr.alloc (.cells #[.int .i64 1,.string f1,.int .i64 y.f0,.string y.f1,.string y.f2,.slice X y.f3.length d5,.slice Y y.f4.length d6,.slice Z y.f5.length d7,.slice B8 y.f6.length d8,.int .i64 y.f7,.int .i64 f3] 62)) j (PQ.one (⟨#[108,101,116]⟩:ByteArray).data.toList d) e w')=>(show PrE W (wr.alloc (.cells #[.int .i64 1,.string f1,.int .i64 y.f0,.string y.f1,.string y.f2,.slice X y.f3.length d5,.slice Y y.f4.length d6,.slice Z y.f5.length d7,.slice B8 y.f6.length d8,.int .i64 y.f7,.int .i64 f3] 62)) j (d.one wLet) e w' from h);have U:=U.mono aW;have aA:=zq U;have HN:=zq (fun w (h:PrS W w j (d.one wLet))=>zgv W w j _ f1 aY.o h kab);have HG:=zq (fun w (h:PrS W w j (zbo f1 (d.one wLet)))=>show Calls prog 69 #[.pointer (some ⟨j,0,none⟩),.string ⟨#[61]⟩] w (PrE W w j ((zbo f1 (d.one wLet)).signs [61])) from zcl W w j _ ⟨#[61]⟩ h (by show _+1<=_;omega));have HC:=zq (fun w (h:PrS W w j ((zbo f1 (d.one wLet)).signs [61]))=>show Calls prog 70 #[.pointer (some ⟨j,0,none⟩),(.agg #[.int .i64 y.f0,.string y.f1,.string y.f2,.slice X y.f3.length d5,.slice Y y.f4.length d6,.slice Z y.f5.length d7,.slice B8 y.f6.length d8,.int .i64 y.f7]),.int .i64 1] w (PrE W w j (zbp 16 y ((zbo f1 (d.one wLet)).signs [61]))) from zla W j aY.o 16 kad y _ w _ aX.o h a6 kab);have HE:=zq (fun w (h:PrS W w j (zbp 16 y ((zbo f1 (d.one wLet)).signs [61])))=>show Calls prog 69 #[.pointer (some ⟨j,0,none⟩),.string ⟨#[59]⟩] w (PrE W w j ((zbp 16 y ((zbo f1 (d.one wLet)).signs [61])).signs [59])) from zcl W w j _ ⟨#[59]⟩ h (by show _+1<=_;omega));have aK:=zq (show finQ (zfk (l.drop (k+1)) ((zbp 16 y ((zbo f1 (d.one wLet)).signs [61])).signs [59]))=r from O);have aL:=zq (show ((zbp 16 y ((zbo f1 (d.one wLet)).signs [61])).signs [59]).o.length+zmh (l.drop (k+1))+10<=140737488351232 from by omega);clear bv bw bx bz b0 U aH O a6 p aI aW;generalize (zbp 16 y ((zbo f1 (d.one wLet)).signs [61])).signs [59]=t5 at HE aK aL;generalize zbp 16 y ((zbo f1 (d.one wLet)).signs [61])=t4 at HC HE;generalize (zbo f1 (d.one wLet)).signs [61]=t3 at HG HC;generalize zbo f1 (d.one wLet)=t2 at HN HG;generalize d.one wLet=t1 at aA HN;go_wp2_with (first
        | (go_at_call 66;refine (a7.o _ M.o).mono ?_;rintro el wl ⟨rfl,rfl⟩;clear a7)
        | (go_at_call 67;refine aA.o.mono ?_;rintro e1 w1 ⟨rfl,aB,aC⟩;have af:=aC.keep M.o aM.o kad kad;have a8:=zq aB;have bk:=zq af;obtain ⟨q,s,z,B,D,E,G,I,J,L,u⟩:=zct af;clear aB aC af aA)
        | (go_at_call 68;refine (HN.o _ a8.o).mono ?_;rintro e2 w2 ⟨rfl,aP,aT⟩;have aD:=aT.keep a8.o bk.o kad kad;have aN:=zq aP;have bo:=zq aD;clear q s z B D E G I J L u;obtain ⟨q,s,z,B,D,E,G,I,J,L,u⟩:=zct aD;clear aP aT aD HN)
        | (go_at_call 69;refine (HG.o _ aN.o).mono ?_;rintro e3 w3 ⟨rfl,aQ,aU⟩;have aE:=aU.keep aN.o bo.o kad kad;have aO:=zq aQ;have bp:=zq aE;clear q s z B D E G I J L u;obtain ⟨q,s,z,B,D,E,G,I,J,L,u⟩:=zct aE;clear aQ aU aE HG)
        | (go_at_call 70;refine (HC.o _ aO.o).mono ?_;rintro e4 w4 ⟨rfl,aR,aV⟩;have aF:=aV.keep aO.o bp.o kad kad;have bq:=zq aR;have bB:=zq aF;clear q s z B D E G I J L u;obtain ⟨q,s,z,B,D,E,G,I,J,L,u⟩:=zct aF;clear aR aV aF HC)
        | (go_at_call 69;refine (HE.o _ bq.o).mono ?_;rintro e5 w5 ⟨rfl,aS,bs⟩;have br:=zq aS;clear aS bs))
       go_roundw
       case rel=>exact ⟨k+1,t5,kab,by go_num,br,aK,aL⟩
       case measure=>simp [intOf];omega
      by_cases h2:f0=2
      ·subst h2;rw [show zhy ⟨2,f1,y,f3⟩ d=some ((zbo f1 (d.one zec)).one zeo) from rfl] at O;have r0:=fun o=>(zct (zaf aM.o o)).1;have bv:(d.one zec).o.length<=d.o.length+6:=zdy zec d;have bw:(zbo f1 (d.one zec)).o.length<=d.o.length+7+f1.size:=qbf (zhv f1 _) kab;have bx:((zbo f1 (d.one zec)).one zeo).o.length<=d.o.length+12+f1.size:=qbf (zdy zeo _) (by show _+4+1<=_;omega);have bz:(zbp 16 y ((zbo f1 (d.one zec)).one zeo)).o.length<=d.o.length+12+f1.size+zdb 16 y:=qbf (zgq 16 y _ a6) kab;have b0:((zbp 16 y ((zbo f1 (d.one zec)).one zeo)).signs [59]).o.length<=d.o.length+13+f1.size+zdb 16 y:=(by rw [zcp];show _+1<=_;omega);have U:=zdj W ((wr.alloc (.cells #[.int .i64 2,.string f1,.int .i64 y.f0,.string y.f1,.string y.f2,.slice X y.f3.length d5,.slice Y y.f4.length d6,.slice Z y.f5.length d7,.slice B8 y.f6.length d8,.int .i64 y.f7,.int .i64 f3] 62)).alloc (.cells #[.string ⟨#[97,108,108,111,119]⟩,.string ⟨#[100,101,110,121]⟩] 9)) j d ⟨#[97,108,108,111,119]⟩ (M.o.alloc _) (by show _+5+1<=_;omega);simp only [qae] at U;have aW:=fun e w' (h:PrE W ((wr.alloc (.cells #[.int .i64 2,.string f1,.int .i64 y.f0,.string y.f1,.string y.f2,.slice X y.f3.length d5,.slice Y y.f4.length d6,.slice Z y.f5.length d7,.slice B8 y.f6.length d8,.int .i64 y.f7,.int .i64 f3] 62)).alloc (.cells #[.string ⟨#[97,108,108,111,119]⟩,.string ⟨#[100,101,110,121]⟩] 9)) j (d.one zec) e w')=>(show PrE W (wr.alloc (.cells #[.int .i64 2,.string f1,.int .i64 y.f0,.string y.f1,.string y.f2,.slice X y.f3.length d5,.slice Y y.f4.length d6,.slice Z y.f5.length d7,.slice B8 y.f6.length d8,.int .i64 y.f7,.int .i64 f3] 62)) j (d.one zec) e w' from ⟨h.1,h.2.1,((Stp.refl _ _).alloc M.o.lt _).trans h.2.2⟩);have U:=U.mono aW;have aA:=zq U;have HN:=zq (fun w (h:PrS W w j (d.one zec))=>zgv W w j _ f1 aY.o h kab);have HG:=zq (fun w (h:PrS W w j (zbo f1 (d.one zec)))=>show Calls prog 67 #[.pointer (some ⟨j,0,none⟩),.slice (some ⟨w.heap.size,0,none⟩) 1 1] (w.alloc (.cells #[.string ⟨#[119,104,101,110]⟩] 9)) (PrE W w j ((zbo f1 (d.one zec)).one zeo)) from zdj W w j _ ⟨#[119,104,101,110]⟩ h (by show _+4+1<=_;omega));have HC:=zq (fun w (h:PrS W w j ((zbo f1 (d.one zec)).one zeo))=>show Calls prog 70 #[.pointer (some ⟨j,0,none⟩),(.agg #[.int .i64 y.f0,.string y.f1,.string y.f2,.slice X y.f3.length d5,.slice Y y.f4.length d6,.slice Z y.f5.length d7,.slice B8 y.f6.length d8,.int .i64 y.f7]),.int .i64 1] w (PrE W w j (zbp 16 y ((zbo f1 (d.one zec)).one zeo))) from zla W j aY.o 16 kad y _ w _ aX.o h a6 kab);have HE:=zq (fun w (h:PrS W w j (zbp 16 y ((zbo f1 (d.one zec)).one zeo)))=>show Calls prog 69 #[.pointer (some ⟨j,0,none⟩),.string ⟨#[59]⟩] w (PrE W w j ((zbp 16 y ((zbo f1 (d.one zec)).one zeo)).signs [59])) from zcl W w j _ ⟨#[59]⟩ h (by show _+1<=_;omega));have aK:=zq (show finQ (zfk (l.drop (k+1)) ((zbp 16 y ((zbo f1 (d.one zec)).one zeo)).signs [59]))=r from O);have aL:=zq (show ((zbp 16 y ((zbo f1 (d.one zec)).one zeo)).signs [59]).o.length+zmh (l.drop (k+1))+10<=140737488351232 from by omega);clear bv bw bx bz b0 U aH O a6 p aI aW;generalize (zbp 16 y ((zbo f1 (d.one zec)).one zeo)).signs [59]=t5 at HE aK aL;generalize zbp 16 y ((zbo f1 (d.one zec)).one zeo)=t4 at HC HE;generalize (zbo f1 (d.one zec)).one zeo=t3 at HG HC;generalize zbo f1 (d.one zec)=t2 at HN HG;generalize d.one zec=t1 at aA HN;go_wp2_with (first
        | (go_at_call 66;refine (a7.o _ M.o).mono ?_;rintro el wl ⟨rfl,rfl⟩;clear a7)
        | (go_at_call 67;refine aA.o.mono ?_;rintro e1 w1 ⟨rfl,aB,aC⟩;have af:=aC.keep M.o aM.o kad kad;have a8:=zq aB;have bk:=zq af;obtain ⟨q,s,z,B,D,E,G,I,J,L,u⟩:=zct af;clear aB aC af aA)
        | (go_at_call 68;refine (HN.o _ a8.o).mono ?_;rintro e2 w2 ⟨rfl,aP,aT⟩;have aD:=aT.keep a8.o bk.o kad kad;have aN:=zq aP;have bo:=zq aD;clear q s z B D E G I J L u;obtain ⟨q,s,z,B,D,E,G,I,J,L,u⟩:=zct aD;clear aP aT aD HN)
        | (go_at_call 67;refine (HG.o _ aN.o).mono ?_;rintro e3 w3 ⟨rfl,aQ,aU⟩;have aE:=aU.keep aN.o bo.o kad kad;have aO:=zq aQ;have bp:=zq aE;clear q s z B D E G I J L u;obtain ⟨q,s,z,B,D,E,G,I,J,L,u⟩:=zct aE;clear aQ aU aE HG)
        | (go_at_call 70;refine (HC.o _ aO.o).mono ?_;rintro e4 w4 ⟨rfl,aR,aV⟩;have aF:=aV.keep aO.o bp.o kad kad;have bq:=zq aR;have bB:=zq aF;clear q s z B D E G I J L u;obtain ⟨q,s,z,B,D,E,G,I,J,L,u⟩:=zct aF;clear aR aV aF HC)
        | (go_at_call 69;refine (HE.o _ bq.o).mono ?_;rintro e5 w5 ⟨rfl,aS,bs⟩;have br:=zq aS;clear aS bs))
       go_roundw
       case rel=>exact ⟨k+1,t5,kab,by go_num,br,aK,aL⟩
       case measure=>simp [intOf];omega
      by_cases h3:f0=3
      ·subst h3;rw [show zhy ⟨3,f1,y,f3⟩ d=some ((zbo f1 (d.one zfm)).one zeo) from rfl] at O;have r0:=fun o=>(zct (zaf aM.o o)).1;have bv:(d.one zfm).o.length<=d.o.length+5:=zdy zfm d;have bw:(zbo f1 (d.one zfm)).o.length<=d.o.length+6+f1.size:=qbf (zhv f1 _) kab;have bx:((zbo f1 (d.one zfm)).one zeo).o.length<=d.o.length+11+f1.size:=qbf (zdy zeo _) (by show _+4+1<=_;omega);have bz:(zbp 16 y ((zbo f1 (d.one zfm)).one zeo)).o.length<=d.o.length+12+f1.size+zdb 16 y:=qbf (zgq 16 y _ a6) kab;have b0:((zbp 16 y ((zbo f1 (d.one zfm)).one zeo)).signs [59]).o.length<=d.o.length+13+f1.size+zdb 16 y:=(by rw [zcp];show _+1<=_;omega);have U:=zdj W ((wr.alloc (.cells #[.int .i64 3,.string f1,.int .i64 y.f0,.string y.f1,.string y.f2,.slice X y.f3.length d5,.slice Y y.f4.length d6,.slice Z y.f5.length d7,.slice B8 y.f6.length d8,.int .i64 y.f7,.int .i64 f3] 62)).alloc (.cells #[.string ⟨#[97,108,108,111,119]⟩,.string ⟨#[100,101,110,121]⟩] 9)) j d ⟨#[100,101,110,121]⟩ (M.o.alloc _) (by show _+4+1<=_;omega);simp only [qae] at U;have aW:=fun e w' (h:PrE W ((wr.alloc (.cells #[.int .i64 3,.string f1,.int .i64 y.f0,.string y.f1,.string y.f2,.slice X y.f3.length d5,.slice Y y.f4.length d6,.slice Z y.f5.length d7,.slice B8 y.f6.length d8,.int .i64 y.f7,.int .i64 f3] 62)).alloc (.cells #[.string ⟨#[97,108,108,111,119]⟩,.string ⟨#[100,101,110,121]⟩] 9)) j (d.one zfm) e w')=>(show PrE W (wr.alloc (.cells #[.int .i64 3,.string f1,.int .i64 y.f0,.string y.f1,.string y.f2,.slice X y.f3.length d5,.slice Y y.f4.length d6,.slice Z y.f5.length d7,.slice B8 y.f6.length d8,.int .i64 y.f7,.int .i64 f3] 62)) j (d.one zfm) e w' from ⟨h.1,h.2.1,((Stp.refl _ _).alloc M.o.lt _).trans h.2.2⟩);have U:=U.mono aW;have aA:=zq U;have HN:=zq (fun w (h:PrS W w j (d.one zfm))=>zgv W w j _ f1 aY.o h kab);have HG:=zq (fun w (h:PrS W w j (zbo f1 (d.one zfm)))=>show Calls prog 67 #[.pointer (some ⟨j,0,none⟩),.slice (some ⟨w.heap.size,0,none⟩) 1 1] (w.alloc (.cells #[.string ⟨#[119,104,101,110]⟩] 9)) (PrE W w j ((zbo f1 (d.one zfm)).one zeo)) from zdj W w j _ ⟨#[119,104,101,110]⟩ h (by show _+4+1<=_;omega));have HC:=zq (fun w (h:PrS W w j ((zbo f1 (d.one zfm)).one zeo))=>show Calls prog 70 #[.pointer (some ⟨j,0,none⟩),(.agg #[.int .i64 y.f0,.string y.f1,.string y.f2,.slice X y.f3.length d5,.slice Y y.f4.length d6,.slice Z y.f5.length d7,.slice B8 y.f6.length d8,.int .i64 y.f7]),.int .i64 1] w (PrE W w j (zbp 16 y ((zbo f1 (d.one zfm)).one zeo))) from zla W j aY.o 16 kad y _ w _ aX.o h a6 kab);have HE:=zq (fun w (h:PrS W w j (zbp 16 y ((zbo f1 (d.one zfm)).one zeo)))=>show Calls prog 69 #[.pointer (some ⟨j,0,none⟩),.string ⟨#[59]⟩] w (PrE W w j ((zbp 16 y ((zbo f1 (d.one zfm)).one zeo)).signs [59])) from zcl W w j _ ⟨#[59]⟩ h (by show _+1<=_;omega));have aK:=zq (show finQ (zfk (l.drop (k+1)) ((zbp 16 y ((zbo f1 (d.one zfm)).one zeo)).signs [59]))=r from O);have aL:=zq (show ((zbp 16 y ((zbo f1 (d.one zfm)).one zeo)).signs [59]).o.length+zmh (l.drop (k+1))+10<=140737488351232 from by omega);clear bv bw bx bz b0 U aH O a6 p aI aW;generalize (zbp 16 y ((zbo f1 (d.one zfm)).one zeo)).signs [59]=t5 at HE aK aL;generalize zbp 16 y ((zbo f1 (d.one zfm)).one zeo)=t4 at HC HE;generalize (zbo f1 (d.one zfm)).one zeo=t3 at HG HC;generalize zbo f1 (d.one zfm)=t2 at HN HG;generalize d.one zfm=t1 at aA HN;go_wp2_with (first
        | (go_at_call 66;refine (a7.o _ M.o).mono ?_;rintro el wl ⟨rfl,rfl⟩;clear a7)
        | (go_at_call 67;refine aA.o.mono ?_;rintro e1 w1 ⟨rfl,aB,aC⟩;have af:=aC.keep M.o aM.o kad kad;have a8:=zq aB;have bk:=zq af;obtain ⟨q,s,z,B,D,E,G,I,J,L,u⟩:=zct af;clear aB aC af aA)
        | (go_at_call 68;refine (HN.o _ a8.o).mono ?_;rintro e2 w2 ⟨rfl,aP,aT⟩;have aD:=aT.keep a8.o bk.o kad kad;have aN:=zq aP;have bo:=zq aD;clear q s z B D E G I J L u;obtain ⟨q,s,z,B,D,E,G,I,J,L,u⟩:=zct aD;clear aP aT aD HN)
        | (go_at_call 67;refine (HG.o _ aN.o).mono ?_;rintro e3 w3 ⟨rfl,aQ,aU⟩;have aE:=aU.keep aN.o bo.o kad kad;have aO:=zq aQ;have bp:=zq aE;clear q s z B D E G I J L u;obtain ⟨q,s,z,B,D,E,G,I,J,L,u⟩:=zct aE;clear aQ aU aE HG)
        | (go_at_call 70;refine (HC.o _ aO.o).mono ?_;rintro e4 w4 ⟨rfl,aR,aV⟩;have aF:=aV.keep aO.o bp.o kad kad;have bq:=zq aR;have bB:=zq aF;clear q s z B D E G I J L u;obtain ⟨q,s,z,B,D,E,G,I,J,L,u⟩:=zct aF;clear aR aV aF HC)
        | (go_at_call 69;refine (HE.o _ bq.o).mono ?_;rintro e5 w5 ⟨rfl,aS,bs⟩;have br:=zq aS;clear aS bs))
       go_roundw
       case rel=>exact ⟨k+1,t5,kab,by go_num,br,aK,aL⟩
       case measure=>simp [intOf];omega
      have hn:zhy ⟨f0,f1,y,f3⟩ d=none:=(by unfold zhy;rw [if_neg h1,if_neg h2,if_neg h3]);rw [hn] at O;subst O;have aJ:=zq M.o.bel;clear aM aG aX aH a6 p hn aI;go_wp2_with (go_at_call 66;refine (a7.o _ M.o).mono ?_;rintro el wl ⟨rfl,rfl⟩;clear a7)
      go_ret2
      exact ⟨rfl,aJ.o⟩
   obtain rfl:k=l.length:=kab;have hf:=bd.o;rw [List.drop_length] at hf;subst hf;obtain ⟨A0,bD,a0,a1,a2,bK,bL,bM,-,-⟩:=aG.o.facts;have bO:∀ m,(convert 64 9 (.slice A0 d.o.length bD)).run prog (wr.drewN m) = .ok (.string (tB d.o)) (wr.drewN m):=fun m=>pr_string (aG.o.drewN m) a0;have a7:=zq (fun m=>zdi W (wr.drewN m) j d (aG.o.drewN m) (by have:=bb.o;omega));have aJ:=zq (fun m=>zaa aG.o.bel m);show _;cases p:d.bad with
   | true=>
    rw [p] at a2;have bu:finQ (zfk [] d)=(d.o,false):=(by show (d.o,!d.bad&&!zep d)=_;rw [p];rfl);have b2:=zq bu;clear bd bb p bu;go_wp2
    go_quiet (fail)
    go_wp2
    go_ret2
    exact ⟨by rw [b2.o];first|rfl|simp,aJ.o _⟩
   | false=>
    rw [p] at a2;have bu:finQ (zfk [] d)=(d.o,!decide (8000<d.o.length)):=(by show (d.o,!d.bad&&!zep d)=_;rw [p];rfl);have b2:=zq bu;clear bd bb p bu;go_wp2
    go_quiet ((go_at_call 66;exact Calls.quiet_of_same (a7.o _)))
    go_wp2
    go_ret2
    exact ⟨by rw [b2.o];first|rfl|simp,aJ.o _⟩
def zls (l:List S62):List UInt8×Int:=if (zfd l).2=true then ((zfd l).1,0) else ([],93)
theorem zkb (W:World) (k:Inv W) (A:Option Addr) (c:Nat) (l:List S62) (j:k62.C W A l.length l) (q:l.length<=c) (s:l.length<=140737488351232) (n:∀ x∈l,Wide 16 x.f2) (m:zmh l+10<=140737488351232) :
  Calls prog 20 #[.agg #[.slice A l.length c]] W fun e W'=>e = .returned (.tuple #[.string (tB (zls l).1),.int .i64 (zls l).2])/\Below W.heap.size W W':=by
 have HB:=zq (qam W.heap.size W |>.alloc (qad _) (.cells #[.slice A l.length c] 36));have d:=zq (zja (W.alloc (.cells #[.slice A l.length c] 36)) (k.below HB.o) A c l (Kd.C_below j HB.o) q s n m);unfold zls;generalize zfd l=r at d ⊢;obtain ⟨t,b⟩:=r;clear k j n m;cases b with
 | true=>
  go_enter func20,ntmps20;go_wp2_with (go_at_call 42;refine d.o.mono ?_;rintro p w1 ⟨rfl,i⟩)
  go_ret2
  exact ⟨rfl,HB.o.trans (i.mono (by simp))⟩
 | false=>
  go_enter func20,ntmps20;go_wp2_with (go_at_call 42;refine d.o.mono ?_;rintro p w1 ⟨rfl,i⟩)
  go_ret2
  exact ⟨rfl,HB.o.trans (i.mono (by simp))⟩
theorem sright_calls (W:World) (i:Inv W) (A:Option Addr) (c:Nat) (l:List S62) (d:k62.C W A l.length l) (n:l.length<=c) (p:l.length<=140737488351232) (k:∀ x∈l,Wide 16 x.f2) (j:zmh l+10<=140737488351232) :
  Calls prog 22 #[.agg #[.slice A l.length c]] W fun e W'=>e = .returned (.bool (zfd l).2)/\Below W.heap.size W W':=by
 have HB:=zq (qam W.heap.size W |>.alloc (qad _) (.cells #[.slice A l.length c] 36));have b:=zq (zja (W.alloc (.cells #[.slice A l.length c] 36)) (i.below HB.o) A c l (Kd.C_below d HB.o) n p k j);generalize zfd l=r at b ⊢;clear i d k j;go_enter func22,ntmps22;go_wp2_with (go_at_call 42;refine b.o.mono ?_;rintro q w1 ⟨rfl,m⟩);go_ret;exact ⟨rfl,HB.o.trans (m.mono (by simp))⟩
end
section
def zqe {α:Type} (f:α->α->Option Bool):List α->List α->Option Bool
 | a::r,b::t=>match f a b with
  | none=>none
  | some false=>some false
  | some true=>zqe f r t
 | _,_=>some true
def zov {α:Type} (f:α->α->Option Bool) (l m:List α):Option Bool:=if l.length=m.length then zqe f l m else some false
def zlm:Nat->S60->S60->Option Bool
 | 0,_,_=>none
 | k+1,x,y=>
  if x.f0=y.f0 then (if x.f1.toList=y.f1.toList then (if x.f2.toList=y.f2.toList then (if eqP x.f3 y.f3=true then (if eqS x.f4 y.f4=true then (if eqT x.f5 y.f5=true then zov (zlm k) x.f6 y.f6 else some false) else some false) else some false) else some false) else some false) else some false
def zfo (k:Nat) (x y:S62):Option Bool:=
 if x.f0=y.f0 then (if x.f1.toList=y.f1.toList then zlm k x.f2 y.f2 else some false) else some false
def zqh (W:World) (r:Bool) (e:Ending) (W':World):Prop:=e = .returned (.bool r)/\Below W.heap.size W W'
def zvi (k:Nat):Prop:=∀ (x y:S60) (v u:Value) (W:World) (r:Bool),zer W x v->zer W y u->zlm k x y=some r->Calls prog 49 #[v,u] W (zqh W r)
theorem znu {α:Type} (f:α->α->Option Bool) (a b:α) (r t:List α):zqe f (a::r) (b::t)=match f a b with|none=>none|some false=>some false|some true=>zqe f r t:=rfl
theorem zjk {α:Type} (l:List α) (z:α) (i:Nat) (h:i<l.length):l.drop i=l.getD i z::l.drop (i+1):=by
 rw [qbe h,qar,qan h];rfl
theorem eqfc_calls (k:Nat) (IH:zvi k) (W:World) (A A':Option Addr) (c c':Nat) (l m:List S60) (r:Bool) (hC:k60.C W A l.length l) (aA:k60.C W A' m.length m) (hz:l.length<=9223372036854775807) (hc:l.length<=c) (aH:m.length<=c') (hr:zov (zlm k) l m=some r) :
  Calls prog 77 #[.slice A l.length c,.slice A' m.length c',.func (.func 49) #[] #[]] W (zqh W r):=by
 have HC:=zq hC;have aD:=zq aA;have HI:=zq IH;unfold zov at hr;clear hC aA IH;by_cases e:l.length=m.length
 ·rw [if_pos e] at hr;have b:=zq hr;have a7:=zq e;have aB:((l.length:Int)!=(m.length:Int))=false:=by simp [e]
  have aE:((l.length:Int)==(m.length:Int))=true:=by simp [e]
  have aI:m.length<=9223372036854775807:=kab;clear hr e;go_enter func77,ntmps77;go_wp2;clear aB aE
  go_loopw [17] (fun i wr=>∃ n:Nat,n<=l.length/\i = .int .i64 n/\Zq (Below W.heap.size W wr)/\Zq (zqe (zlm k) (l.drop n) (m.drop n)=some r)) (fun i _=>l.length-(intOf i).toNat)
  case atStart=>exact ⟨0,Nat.zero_le _,rfl,⟨qam _ _⟩,b⟩
  case round=>
   clear b;obtain ⟨n,hn,rfl,HB,b⟩:=hrel;by_cases aF:n<l.length
   ·have aG:n<m.length:=(by have:=a7.o;omega);obtain ⟨ad,A3,a3,A4,a4,A5,a5,A6,a6,rfl,j,p,q,s,u,w,z,B,M,Y,O,Z,U,q5,X,q6⟩:=zkn HC.o (n:Int) kab kab;obtain ⟨bd,B3,b3,B4,b4,B5,b5,B6,b6,rfl,D,E,G,y3,y4,I,y6,J,s3,t3,s4,t4,s5,t5,s6,t6⟩:=zkn aD.o (n:Int) kab kab;have aC:∀ l:List S60,zbf l (n:Int)=l.getD n z60:=fun l=>(by unfold zbf;rw [qau]);rw [aC] at j p q s u w z B M Y O Z U q5 X q6 D E G y3 y4 I y6 J s3 t3 s4 t4 s5 t5 s6 t6;rw [qau] at j p q s u w z B D E G y3 y4 I y6 J;have hr:=b.o;rw [zjk l z60 n aF,zjk m z60 n aG,znu] at hr;clear b aC;generalize l.getD n z60=x at j p q s u w z B M Y O Z U q5 X q6 hr;generalize m.getD n z60=y at D E G y3 y4 I y6 J s3 t3 s4 t4 s5 t5 s6 t6 hr;have af:=zq (show zer W x (.agg #[.int .i64 x.f0,.string x.f1,.string x.f2,.slice A3 x.f3.length a3,.slice A4 x.f4.length a4,.slice A5 x.f5.length a5,.slice A6 x.f6.length a6,.int .i64 x.f7]) from ⟨_,zjf W x M Y O Z U q5 X q6,rfl⟩);have a1:=zq (show zer W y (.agg #[.int .i64 y.f0,.string y.f1,.string y.f2,.slice B3 y.f3.length b3,.slice B4 y.f4.length b4,.slice B5 y.f5.length b5,.slice B6 y.f6.length b6,.int .i64 y.f7]) from ⟨_,zjf W y s3 t3 s4 t4 s5 t5 s6 t6,rfl⟩);have ag:=HB.o;have j:=zag ag j;have p:=zag ag p;have q:=zag ag q;have s:=zag ag s;have u:=zag ag u;have w:=zag ag w;have z:=zag ag z;have B:=zag ag B;have D:=fun o=>zag (ag.trans ((qam _ _).alloc kbi o)) D;have E:=fun o=>zag (ag.trans ((qam _ _).alloc kbi o)) E;have G:=fun o=>zag (ag.trans ((qam _ _).alloc kbi o)) G;have y3:=fun o=>zag (ag.trans ((qam _ _).alloc kbi o)) y3;have y4:=fun o=>zag (ag.trans ((qam _ _).alloc kbi o)) y4;have I:=fun o=>zag (ag.trans ((qam _ _).alloc kbi o)) I;have y6:=fun o=>zag (ag.trans ((qam _ _).alloc kbi o)) y6;have J:=fun o=>zag (ag.trans ((qam _ _).alloc kbi o)) J;have d:=zq (show Below W.heap.size W ((wr.alloc (.cells #[.int .i64 x.f0,.string x.f1,.string x.f2,.slice A3 x.f3.length a3,.slice A4 x.f4.length a4,.slice A5 x.f5.length a5,.slice A6 x.f6.length a6,.int .i64 x.f7] 60)).alloc (.cells #[.int .i64 y.f0,.string y.f1,.string y.f2,.slice B3 y.f3.length b3,.slice B4 y.f4.length b4,.slice B5 y.f5.length b5,.slice B6 y.f6.length b6,.int .i64 y.f7] 60)) from (ag.alloc ag.size _).alloc (by rw [qae];have:=ag.size;omega) _);have a8:=zq (show W.heap.size<=((wr.alloc (.cells #[.int .i64 x.f0,.string x.f1,.string x.f2,.slice A3 x.f3.length a3,.slice A4 x.f4.length a4,.slice A5 x.f5.length a5,.slice A6 x.f6.length a6,.int .i64 x.f7] 60)).alloc (.cells #[.int .i64 y.f0,.string y.f1,.string y.f2,.slice B3 y.f3.length b3,.slice B4 y.f4.length b4,.slice B5 y.f5.length b5,.slice B6 y.f6.length b6,.int .i64 y.f7] 60)).heap.size from d.o.size);clear ag M Y O Z U q5 X q6 s3 t3 s4 t4 s5 t5 s6 t6
    match hs:zlm k x y with
    | none=>rw [hs] at hr;cases hr
    | some false=>
     rw [hs] at hr;obtain rfl:=qaa hr;have HK:=zq (HI.o x y _ _ _ false (af.o.below d.o) (a1.o.below d.o) hs);clear hr hs;go_wp2_with ((with_reducible refine zda 49 ?_);refine HK.o.mono ?_;rintro e1 w1 ⟨rfl,L⟩);go_ret;exact ⟨rfl,d.o.trans (L.mono a8.o)⟩
    | some true=>
     rw [hs] at hr;have HK:=zq (HI.o x y _ _ _ true (af.o.below d.o) (a1.o.below d.o) hs);have b:=zq (show zqe (zlm k) (l.drop (n+1)) (m.drop (n+1))=some r from hr);clear hr hs;go_wp2_with ((with_reducible refine zda 49 ?_);refine HK.o.mono ?_;rintro e1 w1 ⟨rfl,L⟩;have am:=zq (d.o.trans (L.mono a8.o));clear L)
     go_roundw
     case rel=>exact ⟨n+1,kab,by go_num,am,b⟩
     case measure=>simp [intOf];omega
   obtain rfl:n=l.length:=kab;have hr:=b.o;rw [List.drop_length,qav (by have:=a7.o;omega)] at hr;obtain rfl:=qaa hr;clear b hr;go_wp2;go_ret;exact ⟨rfl,HB.o⟩
 rw [if_neg e] at hr;obtain rfl:=qaa hr;have aB:¬((l.length:Int)=(m.length:Int)):=kab;clear hr;go_enter func77,ntmps77;go_wp2;go_ret;exact ⟨rfl,qam _ _⟩
theorem samec_step (k:Nat) (A:zvi k) (x y:S60) (v u:Value) (W:World) (r:Bool) (hx:zer W x v) (hy:zer W y u) (hr:zlm (k+1) x y=some r) (j:x.f3.length<=9223372036854775807/\x.f4.length<=9223372036854775807/\x.f5.length<=9223372036854775807/\x.f6.length<=9223372036854775807) :
  Calls prog 49 #[v,u] W (zqh W r):=by
 obtain ⟨cs,L,rfl⟩:=hx;obtain ⟨n,a3,p,a4,A5,a5,A6,B,rfl,p3,O,p4,U,p5,X,p6,Y⟩:=zce L;obtain ⟨ds,M,rfl⟩:=hy;obtain ⟨B3,D,q,E,s,G,z,I,rfl,s3,t3,s4,t4,s5,t5,s6,t6⟩:=zce M;have aj:=zq (show Below W.heap.size W ((W.alloc (.cells #[.int .i64 x.f0,.string x.f1,.string x.f2,.slice n x.f3.length a3,.slice p x.f4.length a4,.slice A5 x.f5.length a5,.slice A6 x.f6.length B,.int .i64 x.f7] 60)).alloc (.cells #[.int .i64 y.f0,.string y.f1,.string y.f2,.slice B3 y.f3.length D,.slice q y.f4.length E,.slice s y.f5.length G,.slice z y.f6.length I,.int .i64 y.f7] 60)) from ((qam _ _).alloc (qad _) _).alloc kax _);have c:=zq (fun w (h:Below W.heap.size W w)=>api_Prefix.calls _ n a3 x.f3 B3 D y.f3 _ w (Kd.C_below O h) p3 (Kd.C_below t3 h) s3 (api_Prefix_eq x.f3 y.f3 j.1));have d:=zq (fun w (h:Below W.heap.size W w)=>api_Span.calls _ p a4 x.f4 q E y.f4 _ w (Kd.C_below U h) p4 (Kd.C_below t4 h) s4 (api_Span_eq x.f4 y.f4 j.2.1));have e:=zq (fun w (h:Below W.heap.size W w)=>slices_Equal_string_string.calls _ A5 a5 x.f5 s G y.f5 _ w (Kd.C_below X h) p5 (Kd.C_below t5 h) s5 (slices_Equal_string_string_eq x.f5 y.f5 j.2.2.1));have b:=fun Z (af:zov (zlm k) x.f6 y.f6=some Z)=>zq (fun w (h:Below W.heap.size W w)=>eqfc_calls k A w A6 z B I x.f6 y.f6 Z (Kd.C_below Y h) (Kd.C_below t6 h) j.2.2.2 p6 s6 af);unfold zlm at hr;clear L M O U X Y t3 t4 t5 t6 A j;generalize eqP x.f3 y.f3=r3 at c hr;generalize eqS x.f4 y.f4=r4 at d hr;generalize eqT x.f5 y.f5=r5 at e hr;by_cases c0:x.f0=y.f0
 ·rw [if_pos c0] at hr;have d0:((x.f0:Int)==y.f0)=true:=by simp [c0]
  clear c0;by_cases i:x.f1.toList=y.f1.toList
  ·rw [if_pos i] at hr;have d1:(x.f1.toList==y.f1.toList)=true:=(by simp [i]);clear i;by_cases c2:x.f2.toList=y.f2.toList
   ·rw [if_pos c2] at hr;have d2:(x.f2.toList==y.f2.toList)=true:=(by simp [c2]);clear c2;cases r3 with
    | false=>
     simp only [qbq,if_false,qah] at hr;subst hr;clear b;go_enter func49,ntmps49;go_wp2_with (first
      | (go_at_call 74;refine (c.o _ kak).mono ?_;rintro l m ⟨rfl,⟨⟨n3,rfl⟩⟩⟩))
     go_ret;exact ⟨rfl,kak⟩
    | true=>
     simp only [if_true] at hr;cases r4 with
     | false=>
      simp only [qbq,if_false,qah] at hr;subst hr;clear b;go_enter func49,ntmps49;go_wp2_with (first
       | (go_at_call 74;refine (c.o _ kak).mono ?_;rintro l m ⟨rfl,⟨⟨n3,rfl⟩⟩⟩)
       | (go_at_call 75;refine (d.o _ kak).mono ?_;rintro J w4 ⟨rfl,⟨⟨n4,rfl⟩⟩⟩))
      go_ret;exact ⟨rfl,kak⟩
     | true=>
      simp only [if_true] at hr;cases r5 with
      | false=>
       simp only [qbq,if_false,qah] at hr;subst hr;clear b;go_enter func49,ntmps49;go_wp2_with (first
        | (go_at_call 74;refine (c.o _ kak).mono ?_;rintro l m ⟨rfl,⟨⟨n3,rfl⟩⟩⟩)
        | (go_at_call 75;refine (d.o _ kak).mono ?_;rintro J w4 ⟨rfl,⟨⟨n4,rfl⟩⟩⟩)
        | (go_at_call 76;refine (e.o _ kak).mono ?_;rintro e5 w5 ⟨rfl,⟨⟨n5,rfl⟩⟩⟩))
       go_ret;exact ⟨rfl,kak⟩
      | true=>
       simp only [if_true] at hr;have b:=b r hr;clear hr;go_enter func49,ntmps49;go_wp2_with (first
        | (go_at_call 74;refine (c.o _ kak).mono ?_;rintro l m ⟨rfl,⟨⟨n3,rfl⟩⟩⟩)
        | (go_at_call 75;refine (d.o _ kak).mono ?_;rintro J w4 ⟨rfl,⟨⟨n4,rfl⟩⟩⟩)
        | (go_at_call 76;refine (e.o _ kak).mono ?_;rintro e5 w5 ⟨rfl,⟨⟨n5,rfl⟩⟩⟩)
        | (go_at_call 77;refine (b.o _ kak).mono ?_;rintro e6 w6 ⟨rfl,ad⟩))
       go_ret;exact ⟨rfl,Below.trans kak (ad.mono (by have:=aj.o.size;exact this))⟩
   rw [if_neg c2] at hr;obtain rfl:=qaa hr;have d2:(x.f2.toList==y.f2.toList)=false:=(by simp [c2]);clear c2 hr c d e b;go_enter func49,ntmps49;go_wp2;go_ret;exact ⟨rfl,aj.o⟩
  rw [if_neg i] at hr;obtain rfl:=qaa hr;have d1:(x.f1.toList==y.f1.toList)=false:=by simp [i]
  clear i hr c d e b;go_enter func49,ntmps49;go_wp2;go_ret;exact ⟨rfl,aj.o⟩
 rw [if_neg c0] at hr;obtain rfl:=qaa hr;have d0:((x.f0:Int)==y.f0)=false:=by simp [c0]
 clear c0 hr c d e b;go_enter func49,ntmps49;go_wp2;go_ret;exact ⟨rfl,aj.o⟩
theorem zpi:∀ k,zvi k
 | 0=>fun x y v u W r b c hr=>by simp [zlm] at hr
 | k+1=>fun x y v u W r b c hr=>by
  refine samec_step k (zpi k) x y v u W r b c hr ?_;obtain ⟨cs,d,rfl⟩:=b;obtain ⟨m,a3,n,a4,A5,a5,A6,o,rfl,p,e,q,i,s,j,w,l⟩:=zce d;exact ⟨e.2.1,i.2.1,j.2.1,l.2.1⟩
def zsk (W:World) (x:S62) (v:Value):Prop:=∃ cs,k62.K W x cs/\v = .agg cs.toArray
theorem zsk.below {W W1:World} {x:S62} {v:Value} (h:zsk W x v) (c:Below W.heap.size W W1):zsk W1 x v:=by
 obtain ⟨cs,b,rfl⟩:=h;exact ⟨cs,k62.K_below c b,rfl⟩
theorem zln (k:Nat) (x y:S62) (v u:Value) (W:World) (r:Bool) (hx:zsk W x v) (hy:zsk W y u) (hr:zfo k x y=some r) :
  Calls prog 48 #[v,u] W (zqh W r):=by
 obtain ⟨cs,c,rfl⟩:=hx;obtain ⟨A5,a5,A6,M,A7,O,A8,U,rfl,e,m,i,n,j,p,l,q⟩:=zoo c;have I:=zq (show zer W x.f2 _ from ⟨_,zjf W x.f2 e m i n j p l q,rfl⟩);obtain ⟨ds,d,rfl⟩:=hy;obtain ⟨B,X,D,Y,E,Z,G,b8,rfl,s,t3,w,t4,z,t5,A,t6⟩:=zoo d;have J:=zq (show zer W y.f2 _ from ⟨_,zjf W y.f2 s t3 w t4 z t5 A t6,rfl⟩);have aj:=zq (show Below W.heap.size W ((W.alloc (.cells #[.int .i64 x.f0,.string x.f1,.int .i64 x.f2.f0,.string x.f2.f1,.string x.f2.f2,.slice A5 x.f2.f3.length a5,.slice A6 x.f2.f4.length M,.slice A7 x.f2.f5.length O,.slice A8 x.f2.f6.length U,.int .i64 x.f2.f7,.int .i64 x.f3] 62)).alloc (.cells #[.int .i64 y.f0,.string y.f1,.int .i64 y.f2.f0,.string y.f2.f1,.string y.f2.f2,.slice B y.f2.f3.length X,.slice D y.f2.f4.length Y,.slice E y.f2.f5.length Z,.slice G y.f2.f6.length b8,.int .i64 y.f2.f7,.int .i64 y.f3] 62)) from ((qam _ _).alloc (qad _) _).alloc kax _);unfold zfo at hr;clear c d e m i n j p l q s t3 w t4 z t5 A t6;by_cases c0:x.f0=y.f0
 ·rw [if_pos c0] at hr;have d0:((x.f0:Int)==y.f0)=true:=by simp [c0]
  clear c0;by_cases b:x.f1.toList=y.f1.toList
  ·rw [if_pos b] at hr;have d1:(x.f1.toList==y.f1.toList)=true:=(by simp [b]);clear b;have L:=zq (zpi k x.f2 y.f2 _ _ _ r (I.o.below aj.o) (J.o.below aj.o) hr);clear hr;go_enter func48,ntmps48;go_wp2_with (go_at_call 49;refine L.o.mono ?_;rintro e1 w1 ⟨rfl,ad⟩);go_ret;exact ⟨rfl,aj.o.trans (ad.mono (by have:=aj.o.size;exact this))⟩
  rw [if_neg b] at hr;obtain rfl:=qaa hr;have d1:(x.f1.toList==y.f1.toList)=false:=by simp [b]
  clear b hr;go_enter func48,ntmps48;go_wp2;go_ret;exact ⟨rfl,aj.o⟩
 rw [if_neg c0] at hr;obtain rfl:=qaa hr;have d0:((x.f0:Int)==y.f0)=false:=by simp [c0]
 clear c0 hr;go_enter func48,ntmps48;go_wp2;go_ret;exact ⟨rfl,aj.o⟩
theorem eqfi_calls (k:Nat) (W:World) (A A':Option Addr) (c c':Nat) (l m:List S62) (r:Bool) (hC:k62.C W A l.length l) (aC:k62.C W A' m.length m) (hc:l.length<=c) (aJ:m.length<=c') (hr:zov (zfo k) l m=some r) :
  Calls prog 47 #[.slice A l.length c,.slice A' m.length c',.func (.func 48) #[] #[]] W (zqh W r):=by
 have HC:=zq hC;have aF:=zq aC;have hz:l.length<=9223372036854775807:=hC.2.1;unfold zov at hr;clear hC aC;by_cases e:l.length=m.length
 ·rw [if_pos e] at hr;have b:=zq hr;have aA:=zq e;have aD:((l.length:Int)!=(m.length:Int))=false:=by simp [e]
  have aG:((l.length:Int)==(m.length:Int))=true:=by simp [e]
  have aK:m.length<=9223372036854775807:=kab;clear hr e;go_enter func47,ntmps47;go_wp2;clear aD aG
  go_loopw [17] (fun i wr=>∃ n:Nat,n<=l.length/\i = .int .i64 n/\Zq (Below W.heap.size W wr)/\Zq (zqe (zfo k) (l.drop n) (m.drop n)=some r)) (fun i _=>l.length-(intOf i).toNat)
  case atStart=>exact ⟨0,Nat.zero_le _,rfl,⟨qam _ _⟩,b⟩
  case round=>
   clear b;obtain ⟨n,hn,rfl,HB,b⟩:=hrel;by_cases aH:n<l.length
   ·have aI:n<m.length:=(by have:=aA.o;omega);obtain ⟨ad,A5,a5,A6,a6,A7,a7,A8,a8,rfl,j,p,s,u,w,z,B,D,E,G,q,p3,q3,p4,q4,p5,q5,p6,q6⟩:=zsg HC.o (n:Int) kab kab;obtain ⟨bd,B5,b5,B6,b6,B7,b7,B8,b8,rfl,I,J,M,y3,y4,O,y6,U,X,Y,L,s3,t3,s4,t4,s5,t5,s6,t6⟩:=zsg aF.o (n:Int) kab kab;have aE:∀ l:List S62,zdw l (n:Int)=l.getD n z62:=fun l=>(by unfold zdw;rw [qau]);rw [aE] at j p s u w z B D E G q p3 q3 p4 q4 p5 q5 p6 q6 I J M y3 y4 O y6 U X Y L s3 t3 s4 t4 s5 t5 s6 t6;rw [qau] at j p s u w z B D E G q I J M y3 y4 O y6 U X Y L;have hr:=b.o;rw [zjk l z62 n aH,zjk m z62 n aI,znu] at hr;clear b aE;generalize l.getD n z62=x at j p s u w z B D E G q p3 q3 p4 q4 p5 q5 p6 q6 hr;generalize m.getD n z62=y at I J M y3 y4 O y6 U X Y L s3 t3 s4 t4 s5 t5 s6 t6 hr;have af:=zq (show zsk W x _ from ⟨_,zru W x p3 q3 p4 q4 p5 q5 p6 q6,rfl⟩);have a1:=zq (show zsk W y _ from ⟨_,zru W y s3 t3 s4 t4 s5 t5 s6 t6,rfl⟩);have ag:=HB.o;have j:=zag ag j;have p:=zag ag p;have s:=zag ag s;have u:=zag ag u;have w:=zag ag w;have z:=zag ag z;have B:=zag ag B;have D:=zag ag D;have E:=zag ag E;have G:=zag ag G;have q:=zag ag q;have I:=fun o=>zag (ag.trans ((qam _ _).alloc kbi o)) I;have J:=fun o=>zag (ag.trans ((qam _ _).alloc kbi o)) J;have M:=fun o=>zag (ag.trans ((qam _ _).alloc kbi o)) M;have y3:=fun o=>zag (ag.trans ((qam _ _).alloc kbi o)) y3;have y4:=fun o=>zag (ag.trans ((qam _ _).alloc kbi o)) y4;have O:=fun o=>zag (ag.trans ((qam _ _).alloc kbi o)) O;have y6:=fun o=>zag (ag.trans ((qam _ _).alloc kbi o)) y6;have U:=fun o=>zag (ag.trans ((qam _ _).alloc kbi o)) U;have X:=fun o=>zag (ag.trans ((qam _ _).alloc kbi o)) X;have Y:=fun o=>zag (ag.trans ((qam _ _).alloc kbi o)) Y;have L:=fun o=>zag (ag.trans ((qam _ _).alloc kbi o)) L;have d:=zq (show Below W.heap.size W ((wr.alloc (.cells #[.int .i64 x.f0,.string x.f1,.int .i64 x.f2.f0,.string x.f2.f1,.string x.f2.f2,.slice A5 x.f2.f3.length a5,.slice A6 x.f2.f4.length a6,.slice A7 x.f2.f5.length a7,.slice A8 x.f2.f6.length a8,.int .i64 x.f2.f7,.int .i64 x.f3] 62)).alloc (.cells #[.int .i64 y.f0,.string y.f1,.int .i64 y.f2.f0,.string y.f2.f1,.string y.f2.f2,.slice B5 y.f2.f3.length b5,.slice B6 y.f2.f4.length b6,.slice B7 y.f2.f5.length b7,.slice B8 y.f2.f6.length b8,.int .i64 y.f2.f7,.int .i64 y.f3] 62)) from (ag.alloc ag.size _).alloc (by rw [qae];have:=ag.size;omega) _);have aB:=zq (show W.heap.size<=((wr.alloc (.cells #[.int .i64 x.f0,.string x.f1,.int .i64 x.f2.f0,.string x.f2.f1,.string x.f2.f2,.slice A5 x.f2.f3.length a5,.slice A6 x.f2.f4.length a6,.slice A7 x.f2.f5.length a7,.slice A8 x.f2.f6.length a8,.int .i64 x.f2.f7,.int .i64 x.f3] 62)).alloc (.cells #[.int .i64 y.f0,.string y.f1,.int .i64 y.f2.f0,.string y.f2.f1,.string y.f2.f2,.slice B5 y.f2.f3.length b5,.slice B6 y.f2.f4.length b6,.slice B7 y.f2.f5.length b7,.slice B8 y.f2.f6.length b8,.int .i64 y.f2.f7,.int .i64 y.f3] 62)).heap.size from d.o.size);clear ag p3 q3 p4 q4 p5 q5 p6 q6 s3 t3 s4 t4 s5 t5 s6 t6
    match hs:zfo k x y with
    | none=>rw [hs] at hr;cases hr
    | some false=>
     rw [hs] at hr;obtain rfl:=qaa hr;have HK:=zq (zln k x y _ _ _ false (af.o.below d.o) (a1.o.below d.o) hs);clear hr hs;go_wp2_with ((with_reducible refine zda 48 ?_);refine HK.o.mono ?_;rintro e1 w1 ⟨rfl,Z⟩);go_ret;exact ⟨rfl,d.o.trans (Z.mono aB.o)⟩
    | some true=>
     rw [hs] at hr;have HK:=zq (zln k x y _ _ _ true (af.o.below d.o) (a1.o.below d.o) hs);have b:=zq (show zqe (zfo k) (l.drop (n+1)) (m.drop (n+1))=some r from hr);clear hr hs;go_wp2_with ((with_reducible refine zda 48 ?_);refine HK.o.mono ?_;rintro e1 w1 ⟨rfl,Z⟩;have am:=zq (d.o.trans (Z.mono aB.o));clear Z)
     go_roundw
     case rel=>exact ⟨n+1,kab,by go_num,am,b⟩
     case measure=>simp [intOf];omega
   obtain rfl:n=l.length:=kab;have hr:=b.o;rw [List.drop_length,qav (by have:=aA.o;omega)] at hr;obtain rfl:=qaa hr;clear b hr;go_wp2;go_ret;exact ⟨rfl,HB.o⟩
 rw [if_neg e] at hr;obtain rfl:=qaa hr;have aD:¬((l.length:Int)=(m.length:Int)):=kab;clear hr;go_enter func47,ntmps47;go_wp2;go_ret;exact ⟨rfl,qam _ _⟩
theorem zlg (k:Nat) (W:World) (A A':Option Addr) (c b:Nat) (l m:List S62) (r:Bool) (d:k62.C W A l.length l) (e:k62.C W A' m.length m) (j:l.length<=c) (n:m.length<=b) (hr:zov (zfo k) l m=some r) :
  Calls prog 24 #[.agg #[.slice A l.length c],.agg #[.slice A' m.length b]] W (zqh W r):=by
 have aj:=zq (show Below W.heap.size W ((W.alloc (.cells #[.slice A l.length c] 36)).alloc (.cells #[.slice A' m.length b] 36)) from ((qam _ _).alloc (qad _) _).alloc kax _);have HE:=zq (eqfi_calls k _ A A' c b l m r (Kd.C_below d aj.o) (Kd.C_below e aj.o) j n hr);clear d e hr;go_enter func24,ntmps24;go_wp2_with (go_at_call 47;refine HE.o.mono ?_;rintro p w1 ⟨rfl,i⟩);go_ret;exact ⟨rfl,aj.o.trans (i.mono (by have:=aj.o.size;exact this))⟩
end
section
def srcA:ByteArray:=⟨#[108,101,116,32,97,32,61,32,110,111,116,32,40,116,114,117,101,32,111,114,32,98,41,32,97,110,100,32,112,111,114,116,32,105,110,32,123,32,56,48,44,32,49,32,45,32,57,32,125,59]⟩
def cTrueA:S60:=⟨1,⟨#[]⟩,⟨#[]⟩,[],[],[],[],13⟩
def cNameA:S60:=⟨3,⟨#[98]⟩,⟨#[]⟩,[],[],[],[],21⟩
def cOrA:S60:=⟨6,⟨#[]⟩,⟨#[]⟩,[],[],[],[cTrueA,cNameA],13⟩
def zvn:S60:=⟨4,⟨#[]⟩,⟨#[]⟩,[],[],[],[cOrA],8⟩
def zuy:S60:=⟨8,⟨#[]⟩,⟨#[]⟩,[],[⟨80,80⟩,⟨1,9⟩],[],[],28⟩
def cAndA:S60:=⟨5,⟨#[]⟩,⟨#[]⟩,[],[],[],[zvn,zuy],8⟩
def zhc:S62:=⟨1,⟨#[97]⟩,cAndA,0⟩
def srcB:ByteArray:=⟨#[108,101,116,32,97,32,61,32,59]⟩
theorem parse_A:zgm srcA=([zhc],0,0):=kae
theorem parse_B:zgm srcB=([],90,8):=kae
def outA:List UInt8:=[108,101,116,32,97,61,110,111,116,40,116,114,117,101,32,111,114,32,98,41,97,110,100,32,112,111,114,116,32,105,110,123,56,48,44,49,45,57,125,59]
theorem zsv:zfd [zhc]=(outA,true):=kae
theorem print_0:zfd [⟨0,⟨#[]⟩,z60,0⟩]=([],false):=kae
theorem same_A:zov (zfo 5) [zhc] [zhc]=some true:=kae
theorem same_0:zov (zfo 5) [zhc] []=some false:=kae
end
section
theorem zgh.reads:∀ {l:List S62} {W:World} {b:Nat} {cells:List Value} {L:List Nat},zgh W b l cells L->∀ j p,l[j]?=some p->∃ cs,cs.length=11/\k62.K W p cs/\∀ r,r<11->cells[j*11+r]?=cs[r]?
 | [],_,_,_,_,_,j,p,h=>by simp at h
 | x::l,W,b,cells,L,⟨t,ts,M,N,h1,d,e,_⟩,j,p,h=>by
  have c:=h1.length;subst e;cases j with
  | zero=>
   have:x=p:=(by simpa using h);subst this;obtain ⟨u,c3,w,c4,A5,c5,A6,c6,rfl,n,g3,o,g4,q,g5,s,g6⟩:=zce h1.K;refine ⟨_,rfl,zru W x n g3 o g4 q g5 s g6,fun r hr=>?_⟩;rw [Nat.zero_mul,Nat.zero_add,qbs (by simpa using hr)];rfl
  | succ j=>
   obtain ⟨cs,i,k,m⟩:=zgh.reads d j p (by simpa using h);refine ⟨cs,i,k,fun r hr=>?_⟩;rw [qbo (by simp [c];omega),<-m r hr];congr 1;simp [c];omega
theorem Pol.C {W:World} {b:Nat} {l:List S62} {v:Value} (h:Pol W b l v):∃ A c,v = .slice A l.length c/\l.length<=c/\k62.C W A l.length l:=by
 obtain ⟨cells,L,hr,hi,-,-⟩:=h;obtain ⟨A,c,rfl,e,-⟩:=hr.form;exact ⟨A,c,rfl,e,Row.C (d:=k62) hr rfl fun j p i=>hi.reads j p i⟩
def zvd:Nat->S60->Bool
 | 0,_=>true
 | k+1,x=>(decide (x.f0<7)||decide (x.f0=8))&&(x.f4.all fun p=>decide (-9223372036854775808<=p.f0)&&decide (p.f0<=9223372036854775807)&&decide (-9223372036854775808<=p.f1)&&decide (p.f1<=9223372036854775807))&&x.f6.all (zvd k)
theorem zqj:∀ (k:Nat) (x:S60),zvd k x=true->Wide k x
 | 0,_,_=>trivial
 | k+1,x,h=>by
  unfold zvd at h;rw [qbd,qbd,qbn,qbn,Bool.or_eq_true,decide_eq_true_eq,decide_eq_true_eq] at h;refine ⟨⟨h.1.1,fun p hp=>?_⟩,fun y b=>zqj k y (h.2 y b)⟩;have:=h.1.2 p hp;simp only [qbd,decide_eq_true_eq] at this;exact ⟨⟨this.1.1.1,this.1.1.2⟩,this.1.2,this.2⟩
theorem zuk:∀ x∈[zhc],Wide 16 x.f2:=fun x b=>by
 have:x=zhc:=by simpa using b
 subst this;exact zqj 16 _ (by decide +kernel)
theorem wide_0:∀ x∈[(⟨0,⟨#[]⟩,z60,0⟩:S62)],Wide 16 x.f2:=fun x b=>by
 have:x=⟨0,⟨#[]⟩,z60,0⟩:=by simpa using b
 subst this;exact zqj 16 _ (by decide +kernel)
theorem zta {α:Type} (d:Kd α) (W:World) (A:Option Addr):d.C W A 0 []:=⟨rfl,kab,fun h=>absurd h kad⟩
theorem zero_C (W:World):k62.C (W.alloc (.cells #[.int .i64 0,.string ⟨#[]⟩,.int .i64 0,.string ⟨#[]⟩,.string ⟨#[]⟩,.slice none 0 0,.slice none 0 0,.slice none 0 0,.slice none 0 0,.int .i64 0,.int .i64 0] 62)) (some ⟨W.heap.size,0,none⟩) 1 [⟨0,⟨#[]⟩,z60,0⟩]:=by
 refine Row.C (d:=k62) (b:=W.heap.size) (ty:=62) (c:=1) (cells:=[.int .i64 0,.string ⟨#[]⟩,.int .i64 0,.string ⟨#[]⟩,.string ⟨#[]⟩,.slice none 0 0,.slice none 0 0,.slice none 0 0,.slice none 0 0,.int .i64 0,.int .i64 0]) ?_ rfl fun j p e=>?_
 ·exact ⟨rfl,.inr ⟨W.heap.size,1,_,rfl,qad _,qac W _,qad _,by simp only [maxLen];omega,kad,rfl⟩⟩
 have i:j=0:=by have:=(qbm.1 e).1;simp at this;exact this
 subst i;have:(⟨0,⟨#[]⟩,z60,0⟩:S62)=p:=by simpa using e
 subst this;exact ⟨_,rfl,zru _ _ (A5:=none) (c5:=0) (qad _) (zta _ _ _) (A6:=none) (c6:=0) (qad _) (zta _ _ _) (A7:=none) (c7:=0) (qad _) (zta _ _ _) (A8:=none) (c8:=0) (qad _) (zta _ _ _),fun r hr=>by rw [Nat.zero_mul,Nat.zero_add];rfl⟩
theorem awake_calls (W:World) (l:Inv W) :
  Calls prog 10 #[] W fun e W'=>e = .returned (.bool true)/\Below W.heap.size W W':=by
 have HI:=zq l;have a1:=zq (show Calls prog 11 #[.string srcA] W (zkp W [zhc] 0 0) from by have:=zim srcA W l;rwa [parse_A] at this);have a6:=zq (fun w (h:Below W.heap.size W w)=>show Calls prog 11 #[.string srcB] w (zkp w [] 90 8) from by have:=zim srcB w (l.below h);rwa [parse_B] at this);have aL:=zq (fun w A c (h:Below W.heap.size W w) (i:k62.C w A 1 [zhc]) (j:1<=c)=>show Calls prog 20 #[.agg #[.slice A 1 c]] w fun e W'=>e = .returned (.tuple #[.string ⟨#[108,101,116,32,97,61,110,111,116,40,116,114,117,101,32,111,114,32,98,41,97,110,100,32,112,111,114,116,32,105,110,123,56,48,44,49,45,57,125,59]⟩,.int .i64 0])/\Below w.heap.size w W' from by
  have:=zkb w (l.below h) A c [zhc] i j kad zuk (by decide +kernel);rw [show zls [zhc]=(outA,0) from by unfold zls;rw [zsv];rfl] at this;exact this)
 have aM:=zq (fun w n (h:Below W.heap.size W w) (hn:w.heap.size=n)=>show Calls prog 20 #[.agg #[.slice (some ⟨n,0,none⟩) 1 1]] (w.alloc (.cells #[.int .i64 0,.string ⟨#[]⟩,.int .i64 0,.string ⟨#[]⟩,.string ⟨#[]⟩,.slice none 0 0,.slice none 0 0,.slice none 0 0,.slice none 0 0,.int .i64 0,.int .i64 0] 62)) fun e W'=>e = .returned (.tuple #[.string ⟨#[]⟩,.int .i64 93])/\Below w.heap.size w W' from by
  subst hn;have:=zkb (w.alloc (.cells #[.int .i64 0,.string ⟨#[]⟩,.int .i64 0,.string ⟨#[]⟩,.string ⟨#[]⟩,.slice none 0 0,.slice none 0 0,.slice none 0 0,.slice none 0 0,.int .i64 0,.int .i64 0] 62)) (l.below (h.alloc h.size _)) (some ⟨w.heap.size,0,none⟩) 1 [⟨0,⟨#[]⟩,z60,0⟩] (zero_C w) (qad _) kad wide_0 (by decide +kernel);rw [show zls [⟨0,⟨#[]⟩,z60,0⟩]=([],93) from by unfold zls;rw [print_0];rfl] at this;refine this.mono fun e w' hw=>⟨hw.1,?_⟩;exact (qam _ _ |>.alloc (qad _) _).trans (hw.2.mono (by simp)))
 have aN:=zq (fun w A c (h:Below W.heap.size W w) (i:k62.C w A 1 [zhc]) (j:1<=c)=>show Calls prog 22 #[.agg #[.slice A 1 c]] w fun e W'=>e = .returned (.bool true)/\Below w.heap.size w W' from by
  have:=sright_calls w (l.below h) A c [zhc] i j kad zuk (by decide +kernel);rw [zsv] at this;exact this)
 have aO:=zq (fun w A c (i:k62.C w A 1 [zhc]) (j:1<=c)=>show Calls prog 24 #[.agg #[.slice A 1 c],.agg #[.slice A 1 c]] w (zqh w true) from zlg 5 w A A c c [zhc] [zhc] true i i j j same_A);have aP:=zq (fun w A c (i:k62.C w A 1 [zhc]) (j:1<=c)=>show Calls prog 24 #[.agg #[.slice A 1 c],.agg #[.slice none 0 0]] w (zqh w false) from zlg 5 w A none c 0 [zhc] [] false i (zta _ _ _) j (qad _) same_0);unfold srcA at a1;unfold srcB at a6;clear l;go_enter func10,ntmps10;go_upto_region 5 with (first
  | (go_at_call 11;refine a1.o.mono ?_;rintro e1 w1 ⟨v1,rfl,aT,aE⟩;obtain ⟨U,c1,rfl,aX,aS⟩:=aT.C;have am:=zq (aE.alloc aE.size (.cells #[.slice U 1 c1] 36));have Z:=zq (Kd.C_below aS (zad (qam _ _) (.cells #[.slice U 1 c1] 36)));have a7:=zq (qac w1 (.cells #[.slice U 1 c1] 36));have s:=zq aX;clear aT aS aE aX a1)
  | (go_at_call 20;refine (aL.o _ _ _ am.o Z.o s.o).mono ?_;rintro e2 w2 ⟨rfl,y⟩;have aj:=zq (zaz am.o am.o.size y);have aI:=zq (Kd.C_below Z.o y);have a8:=zq ((y.block _ (zam a7.o)).trans a7.o);clear aL y am Z a7)
  | (go_at_call 11;refine (a6.o _ aj.o).mono ?_;rintro e3 w3 ⟨v3,rfl,aU,aW⟩;obtain ⟨A3,c3,rfl,bp,bo⟩:=aU.C;have B:=zad aW (.cells #[.slice A3 0 c3] 36);have q:=zq (zaz aj.o aj.o.size B);have aJ:=zq (Kd.C_below aI.o B);have aA:=zq ((B.block _ (zam a8.o)).trans a8.o);clear a6 aU aW bo bp B aj aI a8)
  | (go_at_call 20;refine (aM.o _ _ q.o (qae ..)).mono ?_;rintro e4 b ⟨rfl,z⟩;have r:=zq (zaz q.o q.o.size z);have af:=zq (Kd.C_below aJ.o z);have aK:=zq ((z.block _ (zam aA.o)).trans aA.o);clear aM z q aJ aA))
 obtain ⟨ad,A5,c5,A6,c6,A7,c7,A8,c8,rfl,x0,x1,D,E,G,I,J,L,M,O,aZ,-,-,-,-,-,-,m8,g8⟩:=zsg af.o 0 kad kad;replace g8:k60.C b A8 2 [zvn,zuy]:=g8;obtain ⟨d,B3,b3,B4,b4,B5,b5,B6,b6,rfl,-,-,-,-,-,-,y6,-,-,-,-,-,-,-,-,x⟩:=zkn g8 0 kad kad;obtain ⟨bk,D3,d3,D4,d4,D5,d5,D6,d6,hbd,-,-,-,-,z4,-,-,-,-,-,-,u,-,-,-,-⟩:=zkn g8 1 kad kad;obtain rfl:d=bk:=qaa hbd;replace x:k60.C b B6 1 [cOrA]:=x;replace u:k68.C b D4 2 [⟨80,80⟩,⟨1,9⟩]:=u;obtain ⟨ed,E3,br,E4,bs,E5,bu,E6,bv,rfl,-,-,-,-,-,-,-,u7,-,-,-,-,-,-,-,-⟩:=zkn x 0 kad kad;obtain ⟨m,rfl,v0,v1⟩:=znw u 1 kad kad;have aV:∀ (ad:Addr) (k:Nat),ad.add ((0:Int).toNat*k)=ad:=fun ad k=>by show ad.add (0*k)=ad;rw [Nat.zero_mul];unfold Addr.add;simp
 rw [aV] at x0 x1 D E G I J L M O aZ y6 u7;replace D:b.cell? ⟨ad.block,ad.off+2,none⟩=some (.int .i64 5):=D;replace E:b.cell? ⟨ad.block,ad.off+3,none⟩=some (.string ⟨#[]⟩):=E;replace G:b.cell? ⟨ad.block,ad.off+4,none⟩=some (.string ⟨#[]⟩):=G;replace I:b.cell? ⟨ad.block,ad.off+5,none⟩=some (.slice A5 0 c5):=I;replace J:b.cell? ⟨ad.block,ad.off+6,none⟩=some (.slice A6 0 c6):=J;replace L:b.cell? ⟨ad.block,ad.off+7,none⟩=some (.slice A7 0 c7):=L;replace M:b.cell? ⟨ad.block,ad.off+8,none⟩=some (.slice (some d) 2 c8):=M;replace O:b.cell? ⟨ad.block,ad.off+9,none⟩=some (.int .i64 8):=O;replace y6:b.cell? ⟨d.block,d.off+6,none⟩=some (.slice (some ed) 1 b6):=y6;replace u7:b.cell? ⟨ed.block,ed.off+7,none⟩=some (.int .i64 13):=u7;replace z4:b.cell? ⟨d.block,d.off+8+4,none⟩=some (.slice (some m) 2 d4):=z4;replace v0:b.cell? ⟨m.block,m.off+2,none⟩=some (.int .i64 1):=v0;replace v1:b.cell? ⟨m.block,m.off+2+1,none⟩=some (.int .i64 9):=v1;have q0:=zab aK.o 0;have HX:=zq (qac b (.cells #[.int .i64 5,.string ⟨#[]⟩,.string ⟨#[]⟩,.slice A5 0 c5,.slice A6 0 c6,.slice A7 0 c7,.slice (some d) 2 c8,.int .i64 8] 60));have HF:=zq (fun w (h:Below b.heap.size b w)=>And.intro (zag h q0) (And.intro (zag h y6) (And.intro (zag h u7) (And.intro (zag h z4) (And.intro (zag h v0) (zag h v1))))));have HK:=zq (fun w (h:Below b.heap.size b w)=>Kd.C_below af.o h);have p:=zq (zad (qam b.heap.size b) (.cells #[.int .i64 5,.string ⟨#[]⟩,.string ⟨#[]⟩,.slice A5 0 c5,.slice A6 0 c6,.slice A7 0 c7,.slice (some d) 2 c8,.int .i64 8] 60));clear g8 m8 x u aV hbd x0 x1 aZ y6 u7 z4 v0 v1 af aK;have bq:=fun o=>zag (zad (qam b.heap.size b) o) q0;go_wp2_with (first
  | (go_at_call 22;refine (aN.o _ _ _ (zaz r.o r.o.size p.o) (HK.o _ p.o) s.o).mono ?_;rintro e5 w5 ⟨rfl,aF⟩;have aQ:=zq ((aF.block _ (zam HX.o)).trans HX.o);have aB:=zaz p.o p.o.size aF;have X:=zq aB;obtain ⟨r0,-⟩:=HF.o _ aB;clear aF aB aN q0 bq D E G I J L M O)
  | (go_at_call 24;refine (aO.o _ _ _ (HK.o _ X.o) s.o).mono ?_;rintro e6 w6 ⟨rfl,aG⟩;have aR:=zq ((aG.block _ (zam aQ.o)).trans aQ.o);have aC:=zaz X.o X.o.size aG;have Y:=zq aC;obtain ⟨s0,-⟩:=HF.o _ aC;clear aG aC aO r0)
  | (go_at_call 24;refine (aP.o _ _ _ (HK.o _ Y.o) s.o).mono ?_;rintro e7 w7 ⟨rfl,aH⟩;have aY:=(aH.block _ (zam aR.o)).trans aR.o;have aD:=zaz Y.o Y.o.size aH;have bb:=zq aD;obtain ⟨t0,t1,t2,t3,t4,t5⟩:=HF.o _ aD;obtain ⟨p0,p1,p2,p3,p4,p5,p6,p7⟩:=zbj aY;clear aH aD aY aP s0))
 go_ret;exact ⟨rfl,zaz r.o r.o.size bb.o⟩
end
section
attribute [local go_sem] zdu zds zek zej zcv zcu zdt zdr
mutual
def lychgateref03_ParsePrefix.j0:Nat->Int->Int->Int->Bool->Option (Int×Int×Int)
 | 0,_,_,_,_=>none
 | k+1,x7,x8,x9,x10=>if x8=0 then (lychgateref03_ParsePrefix.j1 k (!x10) x7 x9) else (lychgateref03_ParsePrefix.j1 k true x7 x9)
def lychgateref03_ParsePrefix.j1:Nat->Bool->Int->Int->Option (Int×Int×Int)
 | 0,_,_,_=>none
 | k+1,x38,x306000,x306001=>if x38=true then (some (0,0,30)) else ((lychgateref03_Right.f x306000 x306001).bind fun t306=>(if t306=true then (some (x306000,x306001,0)) else (some (0,0,30))))
end
def lychgateref03_ParsePrefix.f (k:Nat) (a0:ByteArray):Option (Int×Int×Int):=(lychgateref03_cut.f k a0 47).bind fun c=>((lychgateref03_Parse.f k c.1).bind fun b=>(if c.2.2=true then ((lychgateref03_number.f k c.2.1 32).bind fun d=>(lychgateref03_ParsePrefix.j0 k b.1 b.2 d.1 d.2)) else (lychgateref03_ParsePrefix.j0 k b.1 b.2 32 true)))
theorem lychgateref03_ParsePrefix.calls (k:Nat) (a0:ByteArray) (x:Int) (y:Int) (z:Int) (w:World) (h:lychgateref03_ParsePrefix.f k a0=some (x,y,z)) :
  Calls prog 119 #[.string a0] w fun e w'=>e = .returned (.tuple #[.agg #[.int .i64 x,.int .i64 y],.int .i64 z])/\Below w.heap.size w w':=by
 have b5:=underlying47;have HB:=zq (qam w.heap.size w);have H:((lychgateref03_cut.f k a0 47).bind fun U=>((lychgateref03_Parse.f k U.1).bind fun D=>(if U.2.2=true then ((lychgateref03_number.f k U.2.1 32).bind fun a6=>(lychgateref03_ParsePrefix.j0 k D.1 D.2 a6.1 a6.2)) else (lychgateref03_ParsePrefix.j0 k D.1 D.2 32 true))))=some (x,y,z):=h;clear h;obtain ⟨⟨W,X,a8⟩,A2,H⟩:=kbd H;try dsimp only at H
 obtain ⟨⟨d,n⟩,A3,H⟩:=kbd H;try dsimp only at H
 have M:=zq H;clear H;go_enter func119,ntmps119
 go_upto_if 24 with (first|((with_reducible refine zcf (N:=2) rfl ?_);refine zca ?hg (N:=2) ?hd (cs:=#[.int .i64 0,.int .i64 0]) (t:=47) ?hr ?_;(case hd=>rfl);(case hg=>rfl);(case hr=>first|(go_simp;done)|(go_simp;rfl));intro c hg w5 A i;have ao:=zq A;have ax:=zq (kge hg (zas kaa):w.heap.size<=c);replace HB:=zq (zau kaa i);clear i A hg)|((with_reducible refine zar (f:=145) rfl ?_);refine zbr (some 15) rfl rfl func145 kae rfl #[.string a0,.int .u8 47] rfl kac ?_;(with_reducible refine (lychgateref03_cut.calls k a0 47 W X a8 _ A2.o).mono ?_);rintro e w' ⟨rfl,⟨nd,rfl⟩⟩;refine ⟨_,rfl,?_⟩)|((with_reducible refine zar (f:=146) rfl ?_);refine zbr (some 21) rfl rfl func146 kae rfl #[.string W] rfl kac ?_;(with_reducible refine (lychgateref03_Parse.calls k W d n _ A3.o).mono ?_);rintro e w' ⟨rfl,⟨nd,rfl⟩⟩;refine ⟨_,rfl,?_⟩))
 (try simp only [Act.put,List.setIfInBounds_toArray,List.set_cons_zero,List.set_cons_succ])
 go_cut [9,10] (fun v9 aI wc=>∃ (m:Nat) (j:Int) (J:Bool),v9 = .int .i64 j/\aI = .bool J/\Zq (lychgateref03_ParsePrefix.j0 m d n j J=some (x,y,z))/\Zq (m<=k)/\Zq (wc.heap[c]?=some (.cells #[.int .i64 0,.int .i64 0] 47 (0,0)))/\Zq (Below w.heap.size w wc))
 case first=>
  have H:=M.o;clear M;by_cases c6:a8=true
  ·subst c6;rw [if_pos rfl] at H;replace H:=qaw.mp H;obtain ⟨⟨Y,Z⟩,af,H⟩:=H;replace H:(lychgateref03_ParsePrefix.j0 k d n Y Z)=some (x,y,z):=H;have A7:=zq af;clear af;have q:=zq H;clear H;go_wp2_with (first|((with_reducible refine zar (f:=147) rfl ?_);refine zbr (some 27) rfl rfl func147 kae rfl #[.string X,.int .i64 32] rfl kac ?_;(with_reducible refine (lychgateref03_number.calls k X 32 Y Z _ A7.o).mono ?_);rintro e w' ⟨rfl,⟨nd,rfl⟩⟩;refine ⟨_,rfl,?_⟩))
   go_meet
   case rel=>exact ⟨_,(Y),(Z),kaf,kaf,q,⟨by first|omega|exact qad _⟩,⟨kba⟩,⟨kbo⟩⟩
  replace c6:=qbc.mpr c6;subst c6;rw [if_neg (show ¬(false=true) by decide)] at H;have q:=zq H;clear H;go_wp2
  go_meet
  case rel=>exact ⟨_,(32),(true),kaf,kaf,q,⟨by first|omega|exact qad _⟩,⟨kba⟩,⟨kbo⟩⟩
 case rest=>
  clear M;try clear c1
  try clear p2
  try clear c6
  obtain ⟨m,j,J,rfl,rfl,r,a1,ao,HB⟩:=hcut;cases m with
  | zero=>exact absurd r.o (by simp [lychgateref03_ParsePrefix.j0])
  | succ aG=>
   have H:=r.o;clear r;simp only [lychgateref03_ParsePrefix.j0] at H;have O:=zq H;clear H;go_upto_region 8 with (first|((with_reducible refine zcf (N:=11) rfl ?_);refine zca ?hg (N:=11) ?hd (cs:=#[.int .i64 0,.int .i64 0]) (t:=47) ?hr ?_;(case hd=>rfl);(case hg=>rfl);(case hr=>first|(go_simp;done)|(go_simp;rfl));intro l hg w9 A i;have b:=zq A;have p:=zq (kge hg (zas kbo):w.heap.size<=l);have s:=zq ((by rw [hg];exact Nat.ne_of_lt (zam (g:=c) (o := .cells #[.int .i64 0,.int .i64 0] 47 (0,0)) kba):c≠l));have B:=zq ((by rw [hg];exact Nat.ne_of_gt (zam (g:=c) (o := .cells #[.int .i64 0,.int .i64 0] 47 (0,0)) kba):l≠c));replace ao:=zq (zaq (g:=c) (o := .cells #[.int .i64 0,.int .i64 0] 47 (0,0)) kba i);replace HB:=zq (zau kbo i);clear i A hg;have bw:=B.o;have b1:=s.o;have aC:w9.cell? ⟨l,0,none⟩=some (.int .i64 0):=(zab b.o 0).trans rfl;have aD:w9.cell? ⟨l,1,none⟩=some (.int .i64 0):=(zab b.o 1).trans rfl;have aE:=zac b.o 0;have aF:=zac b.o 1));(try simp only [Act.put,List.setIfInBounds_toArray,List.set_cons_zero,List.set_cons_succ])
   go_cut [38] (fun aJ wc=>∃ (m:Nat) (L:Bool),aJ = .bool L/\Zq (lychgateref03_ParsePrefix.j1 m L d j=some (x,y,z))/\Zq (m<=aG)/\Zq (wc.heap[c]?=some (.cells #[.int .i64 0,.int .i64 0] 47 (0,0)))/\Zq (wc.heap[l]?=some (.cells #[.int .i64 d,.int .i64 j] 47 (0,0)))/\Zq (Below w.heap.size w wc))
   case first=>
    have H:=O.o;clear O;by_cases c12:n=0
    ·rw [if_pos c12] at H;have u:(n==0)=true:=qaq.mpr c12;have a7:(n !=0)=false:=qap.mpr c12;clear c12
     (first|rw [u]|(simp only [zjj,zpt];rw [u])|skip)
     have q:=zq H;clear H;go_wp2
     go_meet
     case rel=>exact ⟨_,(!J),kaf,q,⟨by have:=a1.o;first|omega|exact qad _⟩,⟨by (repeat (first|(with_reducible refine zah ?_ _)|(with_reducible refine zak ?_)|(with_reducible refine zaf ?_ _)|refine zat ?_ s.o _));(with_reducible repeat (first|refine zah ?_ _|refine zak ?_|refine zaf ?_ _));exact ao.o⟩,⟨by (with_reducible repeat (first|refine zah ?_ _|refine zak ?_|refine zaf ?_ _));refine zan (cs:=#[.int .i64 d,.int .i64 0]) ?_ 1 _ rfl;(with_reducible repeat (first|refine zah ?_ _|refine zak ?_|refine zaf ?_ _));refine zan (cs:=#[.int .i64 0,.int .i64 0]) ?_ 0 _ rfl;(with_reducible repeat (first|refine zah ?_ _|refine zak ?_|refine zaf ?_ _));exact b.o⟩,⟨by repeat (first|(with_reducible first|exact HB.o|apply zad|apply zaa|apply zae|refine zaj ?_ ax.o|refine zaj ?_ p.o)|exact HB.o)⟩⟩
    rw [if_neg c12] at H;have u:(n==0)=false:=qag.mpr c12;have a7:(n !=0)=true:=qax.mpr c12
    (first|rw [u]|(simp only [zjj,zpt];rw [u])|skip)
    have q:=zq H;clear H;go_wp2
    go_meet
    case rel=>exact ⟨_,(true),kaf,q,⟨by have:=a1.o;first|omega|exact qad _⟩,⟨by (repeat (first|(with_reducible refine zah ?_ _)|(with_reducible refine zak ?_)|(with_reducible refine zaf ?_ _)|refine zat ?_ s.o _));(with_reducible repeat (first|refine zah ?_ _|refine zak ?_|refine zaf ?_ _));exact ao.o⟩,⟨by (with_reducible repeat (first|refine zah ?_ _|refine zak ?_|refine zaf ?_ _));refine zan (cs:=#[.int .i64 d,.int .i64 0]) ?_ 1 _ rfl;(with_reducible repeat (first|refine zah ?_ _|refine zak ?_|refine zaf ?_ _));refine zan (cs:=#[.int .i64 0,.int .i64 0]) ?_ 0 _ rfl;(with_reducible repeat (first|refine zah ?_ _|refine zak ?_|refine zaf ?_ _));exact b.o⟩,⟨by repeat (first|(with_reducible first|exact HB.o|apply zad|apply zaa|apply zae|refine zaj ?_ ax.o|refine zaj ?_ p.o)|exact HB.o)⟩⟩
   case rest=>
    clear O;(try clear c1);(try clear p2);(try clear c6);(try clear c10);(try clear aL);(try clear c12);(try clear u);(try clear a7);(try clear aC);(try clear aD);(try clear aE);(try clear aF);(try clear p2);obtain ⟨m,L,rfl,r,aK,ao,b,HB⟩:=hcut;cases m with
    | zero=>exact absurd r.o (by simp [lychgateref03_ParsePrefix.j1])
    | succ b6=>
     have H:=r.o;clear r;simp only [lychgateref03_ParsePrefix.j1] at H;by_cases E:L=true
     ·subst E;rw [if_pos rfl] at H;simp only [qah,qao] at H;obtain ⟨rfl,rfl,rfl⟩:=H;have bx:=s.o;have b2:=B.o;have aM:wc.cell? ⟨c,0,none⟩=some (.int .i64 0):=(zab ao.o 0).trans rfl;have aN:wc.cell? ⟨c,1,none⟩=some (.int .i64 0):=(zab ao.o 1).trans rfl;have aY:=zac ao.o 0;have aZ:=zac ao.o 1;go_wp2;refine qaf (zbg rfl _ _ c 47 #[.int .i64 0,.int .i64 0] (0,0) _ rfl kbc underlying47 rfl kae) rfl ?_;exact ⟨by first|rfl|(simp [zap,zao]<;>rfl)|(simp [*,zap,zao]<;>rfl),by repeat (first|(with_reducible first|exact HB.o|apply zad|apply zaa|apply zae|refine zaj ?_ ax.o|refine zaj ?_ p.o)|exact HB.o)⟩
     replace E:=qbc.mpr E;subst E;rw [if_neg (show ¬(false=true) by decide)] at H;obtain ⟨aH,ad,H⟩:=kbd H;(try dsimp only at H);by_cases G:aH=true
     ·subst G;rw [if_pos rfl] at H;simp only [qah,qao] at H;obtain ⟨rfl,rfl,rfl⟩:=H;have bz:=B.o;have b3:=s.o;have aO:wc.cell? ⟨l,0,none⟩=some (.int .i64 d):=(zab b.o 0).trans rfl;have aP:wc.cell? ⟨l,1,none⟩=some (.int .i64 j):=(zab b.o 1).trans rfl;have bb:=zac b.o 0;have bd:=zac b.o 1;go_wp2_with (first|((with_reducible refine zar (f:=148) rfl ?_);refine zbr (some 41) rfl rfl func148 kae rfl #[.agg #[.int .i64 d,.int .i64 j]] rfl kac ?_;(with_reducible refine (lychgateref03_Right.calls d j _ _ ad.o).mono ?_);rintro e I ⟨rfl,i⟩;refine ⟨_,rfl,?_⟩;replace ao:=zq (zaq (g:=c) (o := .cells #[.int .i64 0,.int .i64 0] 47 (0,0)) kba i);replace b:=zq (zaq (g:=l) (o := .cells #[.int .i64 d,.int .i64 j] 47 (0,0)) (by (with_reducible repeat (first|refine zah ?_ _|refine zak ?_|refine zaf ?_ _));exact b.o) i);replace HB:=zq (zau (by repeat (first|(with_reducible first|exact HB.o|apply zad|apply zaa|apply zae|refine zaj ?_ ax.o|refine zaj ?_ p.o)|exact HB.o)) i);(try clear i);(try clear aB);(try clear hk);(try clear hi);have aQ:I.cell? ⟨l,0,none⟩=some (.int .i64 d):=(zab b.o 0).trans rfl;have aR:I.cell? ⟨l,1,none⟩=some (.int .i64 j):=(zab b.o 1).trans rfl;have bk:=zac b.o 0;have bo:=zac b.o 1;have aS:I.cell? ⟨c,0,none⟩=some (.int .i64 0):=(zab ao.o 0).trans rfl;have aT:I.cell? ⟨c,1,none⟩=some (.int .i64 0):=(zab ao.o 1).trans rfl;have bp:=zac ao.o 0;have bq:=zac ao.o 1));refine qaf (zbg rfl _ _ c 47 #[.int .i64 d,.int .i64 j] (0,0) _ rfl (by (with_reducible repeat (first|refine zah ?_ _|refine zak ?_|refine zaf ?_ _));refine zan (cs:=#[.int .i64 d,.int .i64 0]) ?_ 1 _ rfl;(with_reducible repeat (first|refine zah ?_ _|refine zak ?_|refine zaf ?_ _));refine zan (cs:=#[.int .i64 0,.int .i64 0]) ?_ 0 _ rfl;(with_reducible repeat (first|refine zah ?_ _|refine zak ?_|refine zaf ?_ _));exact ao.o) underlying47 rfl kae) rfl ?_;exact ⟨by first|rfl|(simp [zap,zao]<;>rfl)|(simp [*,zap,zao]<;>rfl),by repeat (first|(with_reducible first|exact HB.o|apply zad|apply zaa|apply zae|refine zaj ?_ ax.o|refine zaj ?_ p.o)|exact HB.o)⟩
     replace G:=qbc.mpr G;subst G;rw [if_neg (show ¬(false=true) by decide)] at H;simp only [qah,qao] at H;obtain ⟨rfl,rfl,rfl⟩:=H;have b0:=B.o;have b4:=s.o;have aU:wc.cell? ⟨l,0,none⟩=some (.int .i64 d):=(zab b.o 0).trans rfl;have aV:wc.cell? ⟨l,1,none⟩=some (.int .i64 j):=(zab b.o 1).trans rfl;have br:=zac b.o 0;have bs:=zac b.o 1;go_wp2_with (first|((with_reducible refine zar (f:=148) rfl ?_);refine zbr (some 41) rfl rfl func148 kae rfl #[.agg #[.int .i64 d,.int .i64 j]] rfl kac ?_;(with_reducible refine (lychgateref03_Right.calls d j _ _ ad.o).mono ?_);rintro e aA ⟨rfl,i⟩;refine ⟨_,rfl,?_⟩;replace ao:=zq (zaq (g:=c) (o := .cells #[.int .i64 0,.int .i64 0] 47 (0,0)) kba i);replace b:=zq (zaq (g:=l) (o := .cells #[.int .i64 d,.int .i64 j] 47 (0,0)) (by (with_reducible repeat (first|refine zah ?_ _|refine zak ?_|refine zaf ?_ _));exact b.o) i);replace HB:=zq (zau (by repeat (first|(with_reducible first|exact HB.o|apply zad|apply zaa|apply zae|refine zaj ?_ ax.o|refine zaj ?_ p.o)|exact HB.o)) i);(try clear i);(try clear aB);(try clear hk);(try clear hi);have aW:aA.cell? ⟨c,0,none⟩=some (.int .i64 0):=(zab ao.o 0).trans rfl;have aX:aA.cell? ⟨c,1,none⟩=some (.int .i64 0):=(zab ao.o 1).trans rfl;have bu:=zac ao.o 0;have bv:=zac ao.o 1));refine qaf (zbg rfl _ _ c 47 #[.int .i64 0,.int .i64 0] (0,0) _ rfl kbc underlying47 rfl kae) rfl ?_;exact ⟨by first|rfl|(simp [zap,zao]<;>rfl)|(simp [*,zap,zao]<;>rfl),by repeat (first|(with_reducible first|exact HB.o|apply zad|apply zaa|apply zae|refine zaj ?_ ax.o|refine zaj ?_ p.o)|exact HB.o)⟩
def lychgateref08_numbered.l0:Nat->ByteArray->Int->Option (Int×ByteArray×Int×Int×Int×Int×Bool)
 | 0,_,_=>none
 | k+1,b,c=>if c<(b.size:Int) then (if 0<=c then (if (bt b c)=46 then ((lychgateref03_ParsePrefix.f k b).bind fun d=>(some (5,(⟨#[]⟩:ByteArray),0,d.1,d.2.1,0,(d.2.2==0)))) else (if (bt b c)=47 then ((lychgateref03_ParsePrefix.f k b).bind fun e=>(some (5,(⟨#[]⟩:ByteArray),0,e.1,e.2.1,0,(e.2.2==0)))) else (lychgateref08_numbered.l0 k b (wrap64 (c+1))))) else (none)) else (some (0,(⟨#[]⟩:ByteArray),0,0,0,0,false))
def lychgateref08_numbered.f (k:Nat) (a0:ByteArray):Option (Int×ByteArray×Int×Int×Int×Int×Bool):=(lychgateref08_number.f k a0).bind fun b=>(if b.2=true then (some (4,(⟨#[]⟩:ByteArray),b.1,0,0,0,true)) else (lychgateref08_numbered.l0 k a0 0))
theorem lychgateref08_numbered.calls (k:Nat) (a0:ByteArray) (I:Int) (J:ByteArray) (L:Int) (M:Int) (O:Int) (U:Int) (W:Bool) (w:World) (h:lychgateref08_numbered.f k a0=some (I,J,L,M,O,U,W)) :
  Calls prog 86 #[.string a0] w fun e w'=>e = .returned (.tuple #[.agg #[.int .i64 I,.string J,.int .i64 L,.int .i64 M,.int .i64 O,.int .i64 U],.bool W])/\Below w.heap.size w w':=by
 have cm:=underlying49;have cl:=underlying47;have HB:=zq (qam w.heap.size w);have H:((lychgateref08_number.f k a0).bind fun a7=>(if a7.2=true then (some (4,(⟨#[]⟩:ByteArray),a7.1,0,0,0,true)) else (lychgateref08_numbered.l0 k a0 0)))=some (I,J,L,M,O,U,W):=h;clear h;obtain ⟨⟨ad,bs⟩,A2,H⟩:=kbd H;try dsimp only at H
 by_cases c3:bs=true
 ·subst c3;rw [if_pos rfl] at H;simp only [qah,qao] at H;obtain ⟨rfl,rfl,rfl,rfl,rfl,rfl,rfl⟩:=H;go_enter func86,ntmps86;go_wp2_with (first|((with_reducible refine zcf (N:=2) rfl ?_);refine zca ?hg (N:=2) ?hd (cs:=#[.int .i64 0,.string (⟨#[]⟩:ByteArray),.int .i64 0,.int .i64 0,.int .i64 0,.int .i64 0]) (t:=49) ?hr ?_;(case hd=>rfl);(case hg=>rfl);(case hr=>first|(go_simp;done)|(go_simp;rfl));intro c hg B q d;have al:=zq q;have bc:=zq (kge hg (zas kaa):w.heap.size<=c);replace HB:=zq (zau kaa d);clear d q hg)|((with_reducible refine zar (f:=118) rfl ?_);refine zbr (some 11) rfl rfl func118 kae rfl #[.string a0] rfl kac ?_;(with_reducible refine (lychgateref08_number.calls k a0 ad _ _ A2.o).mono ?_);rintro e w' ⟨rfl,⟨nd,rfl⟩⟩;refine ⟨_,rfl,?_⟩;(try (rw [drewN_self B];generalize Y:World.drewN B _=B;have aA:Zq (B.heap[c]?=some (.cells #[.int .i64 0,.string (⟨#[]⟩:ByteArray),.int .i64 0,.int .i64 0,.int .i64 0,.int .i64 0] 49 (0,0))):=⟨by rw [<-Y];exact kar⟩;have aB:Zq (Below w.heap.size w B):=⟨by rw [<-Y];exact kaq⟩;clear al HB Y;have al:=aA;have HB:=aB;clear aA aB));obtain ⟨aU,aV,aW,aX,aY,aZ,bb,bd,bk,bo,bp,bq⟩:=zby al.o));refine qaf (zbg rfl _ _ c 49 #[.int .i64 4,.string (⟨#[]⟩:ByteArray),.int .i64 ad,.int .i64 0,.int .i64 0,.int .i64 0] (0,0) _ rfl (by apply zci;(with_reducible repeat (first|refine zah ?_ _|refine zak ?_|refine zaf ?_ _));exact al.o) underlying49 rfl kae) rfl ?_;exact ⟨by first|rfl|(simp [zap,zao]<;>rfl)|(simp [*,zap,zao]<;>rfl),kaq⟩
 replace c3:=qbc.mpr c3;subst c3;rw [if_neg (show ¬(false=true) by decide)] at H;have G:=zq H;clear H;go_enter func86,ntmps86;go_wp2_with (first|((with_reducible refine zcf (N:=2) rfl ?_);refine zca ?hg (N:=2) ?hd (cs:=#[.int .i64 0,.string (⟨#[]⟩:ByteArray),.int .i64 0,.int .i64 0,.int .i64 0,.int .i64 0]) (t:=49) ?hr ?_;(case hd=>rfl);(case hg=>rfl);(case hr=>first|(go_simp;done)|(go_simp;rfl));intro c hg w6 q d;have al:=zq q;have bc:=zq (kge hg (zas kaa):w.heap.size<=c);replace HB:=zq (zau kaa d);clear d q hg)|((with_reducible refine zar (f:=118) rfl ?_);refine zbr (some 11) rfl rfl func118 kae rfl #[.string a0] rfl kac ?_;(with_reducible refine (lychgateref08_number.calls k a0 ad _ _ A2.o).mono ?_);rintro e w' ⟨rfl,⟨nd,rfl⟩⟩;refine ⟨_,rfl,?_⟩));go_loopg [6] k (fun kq v6 w'=>∃ (b:Int) (i:Int) (j:ByteArray) (l:Int) (m:Int) (n:Int) (p:Int),v6 = .int .i64 b/\Zq (lychgateref08_numbered.l0 kq a0 b=some (I,J,L,M,O,U,W))/\Zq (kq<=k)/\Zq (w'.heap[c]?=some (.cells #[.int .i64 i,.string j,.int .i64 l,.int .i64 m,.int .i64 n,.int .i64 p] 49 (0,0)))/\Zq (Below w.heap.size w w'));case atStart=>exact ⟨(0),(0),((⟨#[]⟩:ByteArray)),(0),(0),(0),(0),kaf,G,⟨qad _⟩,⟨kar⟩,⟨kaq⟩⟩
 case round=>
  clear G;try clear c1
  try clear p2
  try clear c3
  try clear aU
  try clear aV
  try clear aW
  try clear aX
  try clear aY
  try clear aZ
  try clear bb
  try clear bd
  try clear bk
  try clear bo
  try clear bp
  try clear bq
  obtain ⟨b,i,j,l,m,n,p,rfl,X,af,al,HB⟩:=hrel;cases gk with
  | zero=>exact absurd X.o (by simp [lychgateref08_numbered.l0])
  | succ Z=>
   have H:=X.o;clear X;simp only [lychgateref08_numbered.l0] at H;by_cases c7:b<(a0.size:Int)
   ·rw [if_pos c7] at H;have aS:decide (b<(a0.size:Int))=true:=qab c7;clear c7;by_cases c8:0<=b
    ·rw [if_pos c8] at H;have bw:decide (0<=b)=true:=qab c8;clear c8;by_cases c10:(bt a0 b)=46
     ·rw [if_pos c10] at H;have aO:((bt a0 b)==46)=true:=qaq.mpr c10;have aP:((bt a0 b)!=46)=false:=qap.mpr c10;clear c10;obtain ⟨⟨aC,aD,bu⟩,aI,H⟩:=kbd H;(try dsimp only at H);simp only [qah,qao] at H;obtain ⟨rfl,rfl,rfl,rfl,rfl,rfl,rfl⟩:=H;have r:0<=(b:Int):=kao;have s:b<(a0.size:Int):=kao;have a8:=zcm a0 b;replace r:=eq_true r;replace s:=eq_true s;go_wp2_with (first|((with_reducible refine zar (f:=119) rfl ?_);refine zbr (some 35) rfl rfl func119 kae rfl #[.string a0] rfl kac ?_;(with_reducible refine (lychgateref03_ParsePrefix.calls Z a0 aC aD bu _ aI.o).mono ?_);rintro e cn ⟨rfl,d⟩;refine ⟨_,rfl,?_⟩;replace al:=zq (zaq (g:=c) (o := .cells #[.int .i64 i,.string j,.int .i64 l,.int .i64 m,.int .i64 n,.int .i64 p] 49 (0,0)) kar d);replace HB:=zq (zau kaq d);(try clear d);(try clear aT);(try clear hk);(try clear hi))|((with_reducible refine zcf (N:=7) rfl ?_);refine zca ?hg (N:=7) ?hd (cs:=#[.int .i64 0,.int .i64 0]) (t:=47) ?hr ?_;(case hd=>rfl);(case hg=>rfl);(case hr=>first|(go_simp;done)|(go_simp;rfl));intro x hg aG q d;have D:=zq q;have aK:=zq (kge hg (zas kaq):w.heap.size<=x);have a1:=zq ((by rw [hg];exact Nat.ne_of_lt (zam (g:=c) (o := .cells #[.int .i64 i,.string j,.int .i64 l,.int .i64 m,.int .i64 n,.int .i64 p] 49 (0,0)) kar):c≠x));have aM:=zq ((by rw [hg];exact Nat.ne_of_gt (zam (g:=c) (o := .cells #[.int .i64 i,.string j,.int .i64 l,.int .i64 m,.int .i64 n,.int .i64 p] 49 (0,0)) kar):x≠c));replace al:=zq (zaq (g:=c) (o := .cells #[.int .i64 i,.string j,.int .i64 l,.int .i64 m,.int .i64 n,.int .i64 p] 49 (0,0)) kar d);replace HB:=zq (zau kaq d);clear d q hg;have ch:=aM.o;have cj:=a1.o;have bx:aG.cell? ⟨x,0,none⟩=some (.int .i64 0):=(zab D.o 0).trans rfl;have bz:aG.cell? ⟨x,1,none⟩=some (.int .i64 0):=(zab D.o 1).trans rfl;have bL:=zac D.o 0;have bM:=zac D.o 1;obtain ⟨b0,b1,b2,b3,b4,b5,bN,bO,bP,bQ,bR,bS⟩:=zby al.o));refine qaf (zbg rfl _ _ c 49 #[.int .i64 5,.string (⟨#[]⟩:ByteArray),.int .i64 0,.int .i64 aC,.int .i64 aD,.int .i64 0] (0,0) _ rfl (by apply zci;(repeat (first|(with_reducible refine zah ?_ _)|(with_reducible refine zak ?_)|(with_reducible refine zaf ?_ _)|refine zat ?_ a1.o _));(with_reducible repeat (first|refine zah ?_ _|refine zak ?_|refine zaf ?_ _));exact al.o) underlying49 rfl kae) rfl ?_;exact ⟨by first|rfl|(simp [zap,zao]<;>rfl)|(simp [*,zap,zao]<;>rfl),by repeat (first|(with_reducible first|exact HB.o|apply zad|apply zaa|apply zae|refine zaj ?_ bc.o|refine zaj ?_ aK.o)|exact HB.o)⟩
     rw [if_neg c10] at H;have aO:((bt a0 b)==46)=false:=qag.mpr c10;have aP:((bt a0 b)!=46)=true:=qax.mpr c10;by_cases u:(bt a0 b)=47
     ·rw [if_pos u] at H;have aQ:((bt a0 b)==47)=true:=qaq.mpr u;have aR:((bt a0 b)!=47)=false:=qap.mpr u;clear u;obtain ⟨⟨aE,aF,bv⟩,aJ,H⟩:=kbd H;(try dsimp only at H);simp only [qah,qao] at H;obtain ⟨rfl,rfl,rfl,rfl,rfl,rfl,rfl⟩:=H;have r:0<=(b:Int):=kao;have s:b<(a0.size:Int):=kao;have a8:=zcm a0 b;replace r:=eq_true r;replace s:=eq_true s;have z:0<=(b:Int):=kao;have A:b<(a0.size:Int):=kao;have br:=zcm a0 b;replace z:=eq_true z;replace A:=eq_true A;go_wp2_with (first|((with_reducible refine zar (f:=119) rfl ?_);refine zbr (some 35) rfl rfl func119 kae rfl #[.string a0] rfl kac ?_;(with_reducible refine (lychgateref03_ParsePrefix.calls Z a0 aE aF bv _ aJ.o).mono ?_);rintro e cp ⟨rfl,d⟩;refine ⟨_,rfl,?_⟩;replace al:=zq (zaq (g:=c) (o := .cells #[.int .i64 i,.string j,.int .i64 l,.int .i64 m,.int .i64 n,.int .i64 p] 49 (0,0)) kar d);replace HB:=zq (zau kaq d);(try clear d);(try clear aT);(try clear hk);(try clear hi))|((with_reducible refine zcf (N:=7) rfl ?_);refine zca ?hg (N:=7) ?hd (cs:=#[.int .i64 0,.int .i64 0]) (t:=47) ?hr ?_;(case hd=>rfl);(case hg=>rfl);(case hr=>first|(go_simp;done)|(go_simp;rfl));intro y hg aH q d;have E:=zq q;have aL:=zq (kge hg (zas kaq):w.heap.size<=y);have a6:=zq ((by rw [hg];exact Nat.ne_of_lt (zam (g:=c) (o := .cells #[.int .i64 i,.string j,.int .i64 l,.int .i64 m,.int .i64 n,.int .i64 p] 49 (0,0)) kar):c≠y));have aN:=zq ((by rw [hg];exact Nat.ne_of_gt (zam (g:=c) (o := .cells #[.int .i64 i,.string j,.int .i64 l,.int .i64 m,.int .i64 n,.int .i64 p] 49 (0,0)) kar):y≠c));replace al:=zq (zaq (g:=c) (o := .cells #[.int .i64 i,.string j,.int .i64 l,.int .i64 m,.int .i64 n,.int .i64 p] 49 (0,0)) kar d);replace HB:=zq (zau kaq d);clear d q hg;have ci:=aN.o;have ck:=a6.o;have b6:aH.cell? ⟨y,0,none⟩=some (.int .i64 0):=(zab E.o 0).trans rfl;have b7:aH.cell? ⟨y,1,none⟩=some (.int .i64 0):=(zab E.o 1).trans rfl;have bT:=zac E.o 0;have bU:=zac E.o 1;obtain ⟨b8,b9,bA,bB,bD,bE,bV,bW,bX,bY,bZ,ca⟩:=zby al.o));refine qaf (zbg rfl _ _ c 49 #[.int .i64 5,.string (⟨#[]⟩:ByteArray),.int .i64 0,.int .i64 aE,.int .i64 aF,.int .i64 0] (0,0) _ rfl (by apply zci;(repeat (first|(with_reducible refine zah ?_ _)|(with_reducible refine zak ?_)|(with_reducible refine zaf ?_ _)|refine zat ?_ a6.o _));(with_reducible repeat (first|refine zah ?_ _|refine zak ?_|refine zaf ?_ _));exact al.o) underlying49 rfl kae) rfl ?_;exact ⟨by first|rfl|(simp [zap,zao]<;>rfl)|(simp [*,zap,zao]<;>rfl),by repeat (first|(with_reducible first|exact HB.o|apply zad|apply zaa|apply zae|refine zaj ?_ bc.o|refine zaj ?_ aL.o)|exact HB.o)⟩
     rw [if_neg u] at H;have aQ:((bt a0 b)==47)=false:=qag.mpr u;have aR:((bt a0 b)!=47)=true:=qax.mpr u;have G:=zq H;clear H;have r:0<=(b:Int):=kao;have s:b<(a0.size:Int):=kao;have a8:=zcm a0 b;replace r:=eq_true r;replace s:=eq_true s;have z:0<=(b:Int):=kao;have A:b<(a0.size:Int):=kao;have br:=zcm a0 b;replace z:=eq_true z;replace A:=eq_true A;go_wp2
     go_roundg Z
     case measure=>have:=af.o;omega
     case rel=>exact ⟨(wrap64 (b+1)),(i),(j),(l),(m),(n),(p),kaf,G,⟨by have:=af.o;omega⟩,⟨kar⟩,⟨kaq⟩⟩
    rw [if_neg c8] at H;exact absurd H (by simp)
   rw [if_neg c7] at H;have aS:decide (b<(a0.size:Int))=false:=qai c7;clear c7;simp only [qah,qao] at H;obtain ⟨rfl,rfl,rfl,rfl,rfl,rfl,rfl⟩:=H;have bF:wr.cell? ⟨c,0,none⟩=some (.int .i64 i):=(zab al.o 0).trans rfl;have bG:wr.cell? ⟨c,1,none⟩=some (.string j):=(zab al.o 1).trans rfl;have bH:wr.cell? ⟨c,2,none⟩=some (.int .i64 l):=(zab al.o 2).trans rfl;have bI:wr.cell? ⟨c,3,none⟩=some (.int .i64 m):=(zab al.o 3).trans rfl;have bJ:wr.cell? ⟨c,4,none⟩=some (.int .i64 n):=(zab al.o 4).trans rfl;have bK:wr.cell? ⟨c,5,none⟩=some (.int .i64 p):=(zab al.o 5).trans rfl;have cb:=zac al.o 0;have cc:=zac al.o 1;have cd:=zac al.o 2;have ce:=zac al.o 3;have cf:=zac al.o 4;have cg:=zac al.o 5;go_wp2;refine qaf (zbg rfl _ _ c 49 #[.int .i64 0,.string (⟨#[]⟩:ByteArray),.int .i64 0,.int .i64 0,.int .i64 0,.int .i64 0] (0,0) _ rfl (by apply zci;(with_reducible repeat (first|refine zah ?_ _|refine zak ?_|refine zaf ?_ _));exact al.o) underlying49 rfl kae) rfl ?_;exact ⟨by first|rfl|(simp [zap,zao]<;>rfl)|(simp [*,zap,zao]<;>rfl),kaq⟩
mutual
def lychgateref08_text.l0:Nat->ByteArray->List Int->Int->Option (ByteArray×Int×Bool)
 | 0,_,_,_=>none
 | k+1,x0,x7,x8=>if x8<(x0.size:Int) then (if 0<=x8 then (if (bt x0 x8)=34 then (some (strOfNums x7,wrap64 (x8+1),decide ((x7.length:Int)<=200))) else (if (bt x0 x8)<32 then (lychgateref08_text.j1 k x0 x7 x8 (bt x0 x8) true) else (lychgateref08_text.j1 k x0 x7 x8 (bt x0 x8) (decide ((bt x0 x8)>126))))) else (none)) else (some ((⟨#[]⟩:ByteArray),0,false))
def lychgateref08_text.j1:Nat->ByteArray->List Int->Int->Int->Bool->Option (ByteArray×Int×Bool)
 | 0,_,_,_,_,_=>none
 | k+1,x0,x7,x8,x9,x31=>if x31=true then (some ((⟨#[]⟩:ByteArray),0,false)) else (if x9=92 then (if (wrap64 (x8+1))=(x0.size:Int) then (some ((⟨#[]⟩:ByteArray),0,false)) else (if 0<=(wrap64 (x8+1)) then (if (wrap64 (x8+1))<(x0.size:Int) then (if (bt x0 (wrap64 (x8+1)))=34 then (if x7.length<140737488355328 then (lychgateref08_text.l0 k x0 (x7++[bt x0 (wrap64 (x8+1))]) (wrap64 ((wrap64 (x8+1))+1))) else (none)) else (if (bt x0 (wrap64 (x8+1)))=92 then (if x7.length<140737488355328 then (lychgateref08_text.l0 k x0 (x7++[bt x0 (wrap64 (x8+1))]) (wrap64 ((wrap64 (x8+1))+1))) else (none)) else (some ((⟨#[]⟩:ByteArray),0,false)))) else (none)) else (none))) else (if x7.length<140737488355328 then (lychgateref08_text.l0 k x0 (x7++[x9]) (wrap64 (x8+1))) else (none)))
end
def lychgateref08_text.f (k:Nat) (a0:ByteArray) (a1:Int):Option (ByteArray×Int×Bool):=lychgateref08_text.l0 k a0 ([]:List Int) (wrap64 (a1+1))
theorem lychgateref08_text.calls (k:Nat) (a0:ByteArray) (a1:Int) (n:ByteArray) (p:Int) (q:Bool) (w:World) (h:lychgateref08_text.f k a0 a1=some (n,p,q)) :
  Calls prog 87 #[.string a0,.int .i64 a1] w fun e w'=>e = .returned (.tuple #[.string n,.int .i64 p,.bool q])/\Below w.heap.size w w':=by
 have HB:=zq (qam w.heap.size w);have H:(lychgateref08_text.l0 k a0 ([]:List Int) (wrap64 (a1+1)))=some (n,p,q):=h;clear h;have j:=zq H;clear H;go_enter func87,ntmps87;go_wp2;go_loopg [7,8] k (fun J v7 v8 w'=>∃ (i:List Int) (d:Int),v8 = .int .i64 d/\Zq (lychgateref08_text.l0 J a0 i d=some (n,p,q))/\Zq (J<=k)/\Zq (Kd.R (Kd.int .u8) 5 w' w.heap.size (fun _=>True) v7 i)/\Zq (Below w.heap.size w w'));case atStart=>exact ⟨(([]:List Int)),(wrap64 (a1+1)),kaf,j,⟨qad _⟩,⟨by first|exact Kd.R_nil _ _ _ _ _|exact Kd.N_nil _ _ _ _ _|exact Kd.V_nil _ _ _ _ _|exact Kd.Q_nil _ _ _ _ _|exact Kd.S_nil _ _ _ _ _⟩,⟨kaa⟩⟩
 case round=>
  clear j;try clear p2
  obtain ⟨i,d,rfl,D,r,ba,HB⟩:=hrel;cases gk with
  | zero=>exact absurd D.o (by simp [lychgateref08_text.l0])
  | succ k1=>
   have H:=D.o;clear D;simp only [lychgateref08_text.l0] at H;by_cases c3:d<(a0.size:Int)
   ·rw [if_pos c3] at H;have aI:decide (d<(a0.size:Int))=true:=qab c3;clear c3;by_cases c4:0<=d
    ·rw [if_pos c4] at H;have b0:decide (0<=d)=true:=qab c4;clear c4;by_cases c6:(bt a0 d)=34
     ·rw [if_pos c6] at H;have aJ:((bt a0 d)==34)=true:=qaq.mpr c6;have aK:((bt a0 d)!=34)=false:=qap.mpr c6;clear c6;simp only [qah,qao] at H;obtain ⟨rfl,rfl,rfl⟩:=H;have L:0<=(d:Int):=kao;have M:d<(a0.size:Int):=kao;have aN:=zcm a0 d;replace L:=eq_true L;replace M:=eq_true M;have b2:=znn (P:=prog) underlying64 underlying5 underlying9 (Kd.own_of_R ba.o);obtain ⟨b4,b7,b1⟩:=Kd.R_slice ba.o;subst b1;go_wp2
      go_ret3
      exact ⟨by first|rfl|(simp [zap,zao]<;>rfl)|(simp [*,zap,zao]<;>rfl),kaa⟩
     rw [if_neg c6] at H;have aJ:((bt a0 d)==34)=false:=qag.mpr c6;have aK:((bt a0 d)!=34)=true:=qax.mpr c6;have aE:=zq H;clear H;have L:0<=(d:Int):=kao;have M:d<(a0.size:Int):=kao;have aN:=zcm a0 d;replace L:=eq_true L;replace M:=eq_true M;go_upto_region 8 with (fail)
     go_cut [31] (fun v31 wc=>∃ (J:Nat) (aD:Bool),v31 = .bool aD/\Zq (lychgateref08_text.j1 J a0 i d (bt a0 d) aD=some (n,p,q))/\Zq (J<=k1)/\Zq (Kd.R (Kd.int .u8) 5 wc w.heap.size (fun _=>True) u7 i)/\Zq (Below w.heap.size w wc))
     case first=>
      have H:=aE.o;clear aE;by_cases c10:(bt a0 d)<32
      ·rw [if_pos c10] at H;have U:decide ((bt a0 d)<32)=true:=qab c10;clear c10
       (first|rw [U]|(simp only [zjj,zpt];rw [U])|skip)
       have j:=zq H;clear H;go_wp2
       go_meet
       case rel=>exact ⟨_,(true),kaf,j,⟨by have:=r.o;first|omega|exact qad _⟩,⟨kbz⟩,⟨kaa⟩⟩
      rw [if_neg c10] at H;have U:decide ((bt a0 d)<32)=false:=qai c10;clear c10
      (first|rw [U]|(simp only [zjj,zpt];rw [U])|skip)
      have j:=zq H;clear H;go_wp2
      go_meet
      case rel=>exact ⟨_,(decide ((bt a0 d)>126)),kaf,j,⟨by have:=r.o;first|omega|exact qad _⟩,⟨kbz⟩,⟨kaa⟩⟩
     case rest=>
      clear aE;(try clear c1);(try clear p2);(try clear c3);(try clear aI);(try clear c4);(try clear b0);(try clear L);(try clear M);(try clear aN);(try clear c6);(try clear aJ);(try clear aK);(try clear p6);(try clear b2);(try clear c8);(try clear c10);(try clear U);(try clear p2);(try clear L);(try clear M);obtain ⟨J,aD,rfl,D,O,ba,HB⟩:=hcut;cases J with
      | zero=>exact absurd D.o (by simp [lychgateref08_text.j1])
      | succ x=>
       have H:=D.o;clear D;simp only [lychgateref08_text.j1] at H;by_cases a6:aD=true
       ·subst a6;rw [if_pos rfl] at H;simp only [qah,qao] at H;obtain ⟨rfl,rfl,rfl⟩:=H;go_wp2
        go_ret3
        exact ⟨by first|rfl|(simp [zap,zao]<;>rfl)|(simp [*,zap,zao]<;>rfl),kaa⟩
       replace a6:=qbc.mpr a6;subst a6;rw [if_neg (show ¬(false=true) by decide)] at H;by_cases c12:(bt a0 d)=92
       ·rw [if_pos c12] at H;have bs:((bt a0 d)==92)=true:=qaq.mpr c12;have bu:((bt a0 d)!=92)=false:=qap.mpr c12;clear c12;by_cases E:(wrap64 (d+1))=(a0.size:Int)
        ·rw [if_pos E] at H;have aG:((wrap64 (d+1))==(a0.size:Int))=true:=qaq.mpr E;have aH:((wrap64 (d+1))!=(a0.size:Int))=false:=qap.mpr E;clear E;simp only [qah,qao] at H;obtain ⟨rfl,rfl,rfl⟩:=H;go_wp2
         go_ret3
         exact ⟨by first|rfl|(simp [zap,zao]<;>rfl)|(simp [*,zap,zao]<;>rfl),kaa⟩
        rw [if_neg E] at H;have aG:((wrap64 (d+1))==(a0.size:Int))=false:=qag.mpr E;have aH:((wrap64 (d+1))!=(a0.size:Int))=true:=qax.mpr E;obtain ⟨c,u⟩:∃ j_:Int,(wrap64 (d+1))=j_:=⟨_,rfl⟩;replace H:(if 0<=(c) then (if (c)<(a0.size:Int) then (if (bt a0 (c))=34 then (if i.length<140737488355328 then (lychgateref08_text.l0 x a0 (i++[bt a0 (c)]) (wrap64 ((c)+1))) else (none)) else (if (bt a0 (c))=92 then (if i.length<140737488355328 then (lychgateref08_text.l0 x a0 (i++[bt a0 (c)]) (wrap64 ((c)+1))) else (none)) else (some ((⟨#[]⟩:ByteArray),0,false)))) else (none)) else (none))=some (n,p,q):=(by first|(rw [u] at H;exact H)|(simp only [u] at H ⊢;exact H));(try rw [u] at aG);(try rw [u] at aH);have b8:(IntKind.i64.wrap (d+1))=c:=(zjj _).trans u;by_cases a7:0<=(c)
        ·rw [if_pos a7] at H;have b5:decide (0<=(c))=true:=qab a7;clear a7;by_cases a8:(c)<(a0.size:Int)
         ·rw [if_pos a8] at H;have b6:decide ((c)<(a0.size:Int))=true:=qab a8;clear a8;by_cases G:(bt a0 (c))=34
          ·rw [if_pos G] at H;have bv:((bt a0 (c))==34)=true:=qaq.mpr G;have bw:((bt a0 (c))!=34)=false:=qap.mpr G;clear G;by_cases c20:i.length<140737488355328
           ·rw [if_pos c20] at H;have bd:=zq c20;clear c20;obtain ⟨aV,X⟩:∃ y_:List Int,y_=(i++[bt a0 (c)]):=⟨_,rfl⟩;replace H:(lychgateref08_text.l0 x a0 aV (wrap64 ((c)+1)))=some (n,p,q):=(by first|(rw [X];with_reducible exact H)|(have l:=(qak _ _).symm.trans H;rw [X];with_reducible exact l)|(have l:=(qak _ _).symm.trans H;with_reducible exact l)|with_reducible exact H|(rw [X];exact H)|exact H);have bp:=zq X;clear X;have j:=zq H;clear H;have A:0<=((c):Int):=kao;have B:(c)<(a0.size:Int):=kao;have aM:=zcm a0 (c);replace A:=eq_true A;replace B:=eq_true B;have aQ:0<=((c):Int):=kao;have aT:(c)<(a0.size:Int):=kao;have b9:=zcm a0 (c);replace aQ:=eq_true aQ;replace aT:=eq_true aT;go_wp2_with (first|((with_reducible refine zav (b := .append) (xs:=#[.tmp 62,.tmp 64]) rfl ?_);at_builtin;refine Kd.R_append (Kd.int .u8) (w0:=w) w.heap.size rfl (.tmp 62) (.tmp 64) 64 5 (.int .u8 0) 1 rfl underlying64 zsj rfl kad kab u7 i (bt a0 (c)) [.int .u8 (bt a0 (c))] (fun _=>True) (fun _=>False) rfl rfl ?aP (fun _ hk=>hk.elim) ?aF ?aO ?aB ?aS ?aL ?_;(case aP=>exact rfl);(case aB=>exact kaa);(case aF=>exact (fun _ _=>trivial));(case aO=>exact kbz);(case aS=>exact (zas kaa));(case aL=>have:=bd.o;omega);intro bB bF m s hg W;rw [<-bp.o] at m;have y:=zq s;have z:=zq m;clear HB;clear ba;have HB:=y;have aY:=z;clear y z;clear m s hg W))
            go_roundg x
            case measure=>have:=r.o;have:=O.o;omega
            case rel=>exact ⟨(aV),(wrap64 ((c)+1)),(by first|rfl|(simp;done)|(simp only [<-u]<;>(first|rfl|simp))|(simp [*];done)),j,⟨by have:=r.o;have:=O.o;omega⟩,⟨by (with_reducible repeat (first|apply Kd.R_alloc|apply Kd.R_drewN|apply Kd.R_drew));exact aY.o⟩,⟨kaa⟩⟩
           rw [if_neg c20] at H;exact absurd H (by simp)
          rw [if_neg G] at H;have bv:((bt a0 (c))==34)=false:=qag.mpr G;have bw:((bt a0 (c))!=34)=true:=qax.mpr G;by_cases I:(bt a0 (c))=92
          ·rw [if_pos I] at H;have bx:((bt a0 (c))==92)=true:=qaq.mpr I;have bz:((bt a0 (c))!=92)=false:=qap.mpr I;clear I;by_cases aA:i.length<140737488355328
           ·rw [if_pos aA] at H;have bk:=zq aA;clear aA;obtain ⟨aW,Y⟩:∃ y_:List Int,y_=(i++[bt a0 (c)]):=⟨_,rfl⟩;replace H:(lychgateref08_text.l0 x a0 aW (wrap64 ((c)+1)))=some (n,p,q):=(by first|(rw [Y];with_reducible exact H)|(have l:=(qak _ _).symm.trans H;rw [Y];with_reducible exact l)|(have l:=(qak _ _).symm.trans H;with_reducible exact l)|with_reducible exact H|(rw [Y];exact H)|exact H);have bq:=zq Y;clear Y;have j:=zq H;clear H;have A:0<=((c):Int):=kao;have B:(c)<(a0.size:Int):=kao;have aM:=zcm a0 (c);replace A:=eq_true A;replace B:=eq_true B;have ad:0<=((c):Int):=kao;have af:(c)<(a0.size:Int):=kao;have b3:=zcm a0 (c);replace ad:=eq_true ad;replace af:=eq_true af;have aR:0<=((c):Int):=kao;have aU:(c)<(a0.size:Int):=kao;have bA:=zcm a0 (c);replace aR:=eq_true aR;replace aU:=eq_true aU;go_wp2_with (first|((with_reducible refine zav (b := .append) (xs:=#[.tmp 62,.tmp 64]) rfl ?_);at_builtin;refine Kd.R_append (Kd.int .u8) (w0:=w) w.heap.size rfl (.tmp 62) (.tmp 64) 64 5 (.int .u8 0) 1 rfl underlying64 zsj rfl kad kab u7 i (bt a0 (c)) [.int .u8 (bt a0 (c))] (fun _=>True) (fun _=>False) rfl rfl ?aP (fun _ hk=>hk.elim) ?aF ?aO ?aB ?aS ?aL ?_;(case aP=>exact rfl);(case aB=>exact kaa);(case aF=>exact (fun _ _=>trivial));(case aO=>exact kbz);(case aS=>exact (zas kaa));(case aL=>have:=bk.o;omega);intro bD bG m s hg W;rw [<-bq.o] at m;have y:=zq s;have z:=zq m;clear HB;clear ba;have HB:=y;have aZ:=z;clear y z;clear m s hg W))
            go_roundg x
            case measure=>have:=r.o;have:=O.o;omega
            case rel=>exact ⟨(aW),(wrap64 ((c)+1)),(by first|rfl|(simp;done)|(simp only [<-u]<;>(first|rfl|simp))|(simp [*];done)),j,⟨by have:=r.o;have:=O.o;omega⟩,⟨by (with_reducible repeat (first|apply Kd.R_alloc|apply Kd.R_drewN|apply Kd.R_drew));exact aZ.o⟩,⟨kaa⟩⟩
           rw [if_neg aA] at H;exact absurd H (by simp)
          rw [if_neg I] at H;have bx:((bt a0 (c))==92)=false:=qag.mpr I;have bz:((bt a0 (c))!=92)=true:=qax.mpr I;simp only [qah,qao] at H;obtain ⟨rfl,rfl,rfl⟩:=H;have A:0<=((c):Int):=kao;have B:(c)<(a0.size:Int):=kao;have aM:=zcm a0 (c);replace A:=eq_true A;replace B:=eq_true B;have ad:0<=((c):Int):=kao;have af:(c)<(a0.size:Int):=kao;have b3:=zcm a0 (c);replace ad:=eq_true ad;replace af:=eq_true af;go_wp2
          go_ret3
          exact ⟨by first|rfl|(simp [zap,zao]<;>rfl)|(simp only [<-u];first|rfl|(simp [zap,zao]<;>rfl))|(simp [*,zap,zao]<;>rfl),kaa⟩
         rw [if_neg a8] at H;exact absurd H (by simp)
        rw [if_neg a7] at H;exact absurd H (by simp)
       rw [if_neg c12] at H;have bs:((bt a0 d)==92)=false:=qag.mpr c12;have bu:((bt a0 d)!=92)=true:=qax.mpr c12;by_cases aC:i.length<140737488355328
       ·rw [if_pos aC] at H;have bo:=zq aC;clear aC;obtain ⟨aX,Z⟩:∃ y_:List Int,y_=(i++[(bt a0 d)]):=⟨_,rfl⟩;replace H:(lychgateref08_text.l0 x a0 aX (wrap64 (d+1)))=some (n,p,q):=(by first|(rw [Z];with_reducible exact H)|(have l:=(qak _ _).symm.trans H;rw [Z];with_reducible exact l)|(have l:=(qak _ _).symm.trans H;with_reducible exact l)|with_reducible exact H|(rw [Z];exact H)|exact H);have br:=zq Z;clear Z;have j:=zq H;clear H;go_wp2_with (first|((with_reducible refine zav (b := .append) (xs:=#[.tmp 62,.tmp 64]) rfl ?_);at_builtin;refine Kd.R_append (Kd.int .u8) (w0:=w) w.heap.size rfl (.tmp 62) (.tmp 64) 64 5 (.int .u8 0) 1 rfl underlying64 zsj rfl kad kab u7 i (bt a0 d) [.int .u8 (bt a0 d)] (fun _=>True) (fun _=>False) rfl rfl ?aP (fun _ hk=>hk.elim) ?aF ?aO ?aB ?aS ?aL ?_;(case aP=>exact rfl);(case aB=>exact kaa);(case aF=>exact (fun _ _=>trivial));(case aO=>exact kbz);(case aS=>exact (zas kaa));(case aL=>have:=bo.o;omega);intro bE bH m s hg W;rw [<-br.o] at m;have y:=zq s;have z:=zq m;clear HB;clear ba;have HB:=y;have bb:=z;clear y z;clear m s hg W))
        go_roundg x
        case measure=>have:=r.o;have:=O.o;omega
        case rel=>exact ⟨(aX),(wrap64 (d+1)),kaf,j,⟨by have:=r.o;have:=O.o;omega⟩,⟨by (with_reducible repeat (first|apply Kd.R_alloc|apply Kd.R_drewN|apply Kd.R_drew));exact bb.o⟩,⟨kaa⟩⟩
       rw [if_neg aC] at H;exact absurd H (by simp)
    rw [if_neg c4] at H;exact absurd H (by simp)
   rw [if_neg c3] at H;have aI:decide (d<(a0.size:Int))=false:=qai c3;clear c3;simp only [qah,qao] at H;obtain ⟨rfl,rfl,rfl⟩:=H;go_wp2
   go_ret3
   exact ⟨by first|rfl|(simp [zap,zao]<;>rfl)|(simp [*,zap,zao]<;>rfl),kaa⟩
end
end Go.Proofs.YtjeekocidaogoaaGreatDoor.H
