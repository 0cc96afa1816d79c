import Derived.Test.YtjeekocidaogoaaGreatDoorK7RefH
import Derived.Test.YtjeekocidaogoaaGreatDoorK7Mut
import Derived.Test.YtjeekocidaogoaaGreatDoorK7Hx11
import Derived.Test.YtjeekocidaogoaaGreatDoorK7SmC
import Derived.Test.YtjeekocidaogoaaGreatDoorK7BkC
import Derived.Test.YtjeekocidaogoaaGreatDoorK7PsG
import Derived.Test.YtjeekocidaogoaaGreatDoorK7Atoms
set_option linter.unusedVariables false
set_option linter.unusedSimpArgs false
set_option maxRecDepth 100000
set_option maxHeartbeats 8000000
open Go.Proofs.Tryz
namespace Go.Proofs.YtjeekocidaogoaaGreatDoor.H
open Go.RowKit Go.Proofs.YtjeekocidaogoaaGreatDoor.Hand Go.Proofs.YtjeekocidaogoaaGreatDoorW.PrintWords Go.Proofs.YtjeekocidaogoaaGreatDoorW.PrintLast Go.Proofs.YtjeekocidaogoaaGreatDoorW.PrintMore
section
theorem text_l0 (s:ByteArray) (E:s.size<=8000):∀ (d i k:Nat) (acc:List UInt8),i+d=(bl s).length->2*d+1<=k->acc.length<=i ->
  lychgateref08_text.l0 k s (acc.map fun b=>(b.toNat:Int)) (i:Int)=some (qdR acc i (qdS ((bl s).drop i))):=by
 have D:=zbm s;intro d;induction d using Nat.strongRecOn with
 | _ d r=>
 intro i k acc hi hk A;obtain ⟨k,rfl⟩:∃ m,k=m+1:=⟨k-1,kab⟩;have z:(acc.map fun b=>(b.toNat:Int)).length=acc.length:=qci ..;simp only [lychgateref08_text.l0];by_cases hd:d=0
 ·rw [if_neg kab,qaz kab];rfl
 have p:i<(bl s).length:=kab;rw [if_pos kab,if_pos kab,zfm s i p,zct i kab,zem _ i p];have x:=(bl s)[i].toNat_lt;generalize (bl s)[i]=c at x;by_cases j:c.toNat=34
 ·rw [if_pos kab,zob _ _ j,zog,z];simp [qdR];omega
 rw [if_neg kab];have snoc:∀ e:UInt8,(acc.map fun b=>(b.toNat:Int))++[(e.toNat:Int)]=(acc++[e]).map fun b=>(b.toNat:Int):=fun e=>by simp
 have o:∀ e:UInt8,(acc++[e]).length=acc.length+1:=fun e=>by simp
 obtain ⟨k,rfl⟩:∃ m,k=m+1:=⟨k-1,kab⟩;by_cases w:c.toNat<32
 ·rw [if_pos kab,zlr _ _ (.inl w)];simp only [lychgateref08_text.j1];rfl
 rw [if_neg kab];by_cases u:126<c.toNat
 ·rw [qac kab,zlr _ _ (.inr u)];simp only [lychgateref08_text.j1];rfl
 rw [qak kab];simp only [lychgateref08_text.j1];rw [if_neg kad];by_cases n:c.toNat=92
 ·rw [if_pos kab,zct i kab];by_cases B:i+1=(bl s).length
  ·rw [if_pos kab,qaz kab];simp only [qdS];rw [if_neg j];rfl
  have q:i+1<(bl s).length:=kab;rw [if_neg kab,if_pos kab,if_pos kab,zfm s (i+1) q,zct (i+1) kab,zem _ (i+1) q,zoa _ _ _ n];have y:=(bl s)[i+1].toNat_lt;generalize (bl s)[i+1]=e at y;have key:=fun (h:e.toNat=34\/e.toNat=92)=>r (d-2) kab (i+2) k (acc++[e]) kab kab (by rw [o];omega);rw [show i+1+1=i+2 by omega,snoc];by_cases g:e.toNat=34
  ·rw [if_pos kab,if_pos kab,if_pos (.inl g),key (.inl g),zht]
  rw [if_neg kab];by_cases g2:e.toNat=92
  ·rw [if_pos kab,if_pos kab,if_pos (.inr g2),key (.inr g2),zht]
  rw [if_neg kab,if_neg kab];rfl
 rw [if_neg kab,if_pos kab,snoc,zkx _ _ j n kab,zct i kab,r (d-1) kab (i+1) k (acc++[c]) kab kab (by rw [o];omega),zht]
theorem text_ev (s:ByteArray) (b:s.size<=8000) (i:Nat) (hi:i<s.size) (k:Nat) (hk:18000<=k):lychgateref08_text.f k s (i:Int)=some (qdR [] (i+1) (qdS ((bl s).drop (i+1)))):=by
 have d:=zbm s;unfold lychgateref08_text.f;rw [zct i kab];exact text_l0 s b ((bl s).length-(i+1)) (i+1) k [] kab kab (by simp)
theorem sign_ev (s:ByteArray) (B:s.size<=8000) (i:Nat) (hi:i<s.size) (c:Int) (k:Nat) (hk:20<=k) :
  lychgateref08_one.l0 k s (i:Int) c 0=some (if c=123\/c=125\/c=40\/c=41\/c=44\/c=59\/c=61\/c=126\/c=45 then (7,s.extract i (i+1),0,0,0,0,((i+1:Nat):Int),0) else (0,(⟨#[]⟩:ByteArray),0,0,0,0,0,80)):=by
 obtain ⟨k,rfl⟩:∃ m,k=m+10:=⟨k-10,kab⟩;have w:wrap64 ((i:Int)+1)=((i+1:Nat):Int):=zct i kab;have st:∀ (k j:Nat) (b:Int),j<9->bt (⟨#[123,125,40,41,44,59,61,126,45]⟩:ByteArray) (j:Int)=b->lychgateref08_one.l0 (k+1) s (i:Int) c (j:Int)=if b=c then some (7,s.extract i (i+1),0,0,0,0,((i+1:Nat):Int),0) else lychgateref08_one.l0 k s (i:Int) c ((j+1:Nat):Int):=by
  intro k j b A z;simp only [lychgateref08_one.l0];rw [if_pos kab,if_pos kab,z,zct j kab,w];by_cases h:b=c
  ·rw [if_pos h,if_pos h,if_pos kab,if_pos kab,if_pos kab,qax,qax]
  rw [if_neg h,if_neg h]
 have y:lychgateref08_one.l0 (k+1) s (i:Int) c ((9:Nat):Int)=some (0,(⟨#[]⟩:ByteArray),0,0,0,0,0,80):=by
  simp only [lychgateref08_one.l0];rw [if_neg kab]
 show lychgateref08_one.l0 (k+10) s (i:Int) c ((0:Nat):Int)=_;rw [st (k+9) 0 123 kad kad];by_cases d:c=123
 ·rw [if_pos d.symm,if_pos kab]
 rw [if_neg (fun e=>d e.symm)];rw [st (k+8) 1 125 kad kad];by_cases h1:c=125
 ·rw [if_pos h1.symm,if_pos kab]
 rw [if_neg (fun e=>h1 e.symm)];rw [st (k+7) 2 40 kad kad];by_cases n:c=40
 ·rw [if_pos n.symm,if_pos kab]
 rw [if_neg (fun e=>n e.symm)];rw [st (k+6) 3 41 kad kad];by_cases o:c=41
 ·rw [if_pos o.symm,if_pos kab]
 rw [if_neg (fun e=>o e.symm)];rw [st (k+5) 4 44 kad kad];by_cases p:c=44
 ·rw [if_pos p.symm,if_pos kab]
 rw [if_neg (fun e=>p e.symm)];rw [st (k+4) 5 59 kad kad];by_cases q:c=59
 ·rw [if_pos q.symm,if_pos kab]
 rw [if_neg (fun e=>q e.symm)];rw [st (k+3) 6 61 kad kad];by_cases r:c=61
 ·rw [if_pos r.symm,if_pos kab]
 rw [if_neg (fun e=>r e.symm)];rw [st (k+2) 7 126 kad kad];by_cases u:c=126
 ·rw [if_pos u.symm,if_pos kab]
 rw [if_neg (fun e=>u e.symm)];rw [st (k+1) 8 45 kad kad];by_cases x:c=45
 ·rw [if_pos x.symm,if_pos kab]
 rw [if_neg (fun e=>x e.symm)];rw [y,if_neg kab]
theorem runS_within (m i:Int) (b:UInt8) (r:List UInt8) (j:∀ x:UInt8,zga m (x.toNat:Int)=gB i x) (d:gB i b=true) :
  ((b::r).takeWhile fun x=>zga m (x.toNat:Int)).length=runS i (b::r):=by
 have e:(fun x:UInt8=>zga m (x.toNat:Int))=gB i:=funext j;rw [e,qcb d,qbe,runS];omega
theorem extract_run (s:ByteArray) (i n:Nat):s.extract i (i+n)=toS (((bl s).drop i).take n):=by
 apply ByteArray.ext;apply Array.toList_inj.1;simp [toS,bl,ByteArray.data_extract,Array.toList_extract]
theorem one_ev (s:ByteArray) (hz:s.size<=8000) (i:Nat) (hi:i<s.size) (k:Nat) (hk:18000<=k) (h1:inS ((bl s).drop i)≠1) (U:inS ((bl s).drop i)≠2) :
  match tokS ((bl s).drop i) with
  | .inl e=>e≠0/\∃ v,lychgateref08_one.f k s (i:Int)=some v/\v.2.2.2.2.2.2.2=e
  | .inr (t,n)=>t.f0≠0/\∃ z,lychgateref08_one.f k s (i:Int)=some (t.f0,t.f1,t.f2,t.f3.f0,t.f3.f1,z,((i+n:Nat):Int),0):=by
 have hl:=zbm s;have Z:i<(bl s).length:=kab;have w:=zem (bl s) i Z;generalize hF:lychgateref08_one.f k s (i:Int)=F;unfold lychgateref08_one.f at hF;rw [if_pos kab,if_pos kab,zfm s i Z,zkh,zkj,zkk] at hF;simp only [qam] at hF;have E:∀ j:Int,runS j ((bl s).drop i)<=(bl s).length-i:=fun j=>by have:=zin j ((bl s).drop i);rwa [qbr] at this
 have O:∀ (m j:Int),(∀ x:UInt8,zga m (x.toNat:Int)=gB j x)->gB j (bl s)[i]=true->lychgateref08_run.f k m s (i:Int)=some ((i+runS j ((bl s).drop i):Nat):Int):=by
  intro m j hm p;rw [ref_run_eq m s kab i k kab kab,w,runS_within m j _ _ hm p]
 have q:∀ j:Int,s.extract i (i+runS j ((bl s).drop i))=toS (((bl s).drop i).take (runS j ((bl s).drop i))):=fun j=>extract_run s i _;have G:∀ j:Int,(toS (((bl s).drop i).take (runS j ((bl s).drop i)))).size=runS j ((bl s).drop i):=fun j=>by
  rw [zdk,qbq,qbr];have:=E j;omega
 have M:∀ j:Int,0<runS j ((bl s).drop i):=fun j=>by rw [w];exact zkw j _ _
 rw [w] at h1 U;have aA:=text_ev s hz i hi k hk;have a7:zbc ((bl s)[i].toNat:Int)=5->(∀ x∈((bl s).drop i).take (runS 5 ((bl s).drop i)),gB 5 x=true):=by
  intro h5;rw [w,zph];intro x q;rcases qcj.1 q with rfl|q
  ·have:=begins_5 _ h5;show zev 5 _=true;rw [zol];exact qac (.inl this)
  exact qbv.1 List.all_takeWhile x q
 have J:zbc ((bl s)[i].toNat:Int)≠1:=h1;have A:zbc ((bl s)[i].toNat:Int)≠2:=U;have a8:tokS ((bl s).drop i)=(if zbc ((bl s)[i].toNat:Int)=6 then
   match qdS ((bl s).drop (i+1)) with
   | some (o,n)=>if o.length<=200 then .inr (⟨6,toS o,0,⟨0,0⟩,0⟩,n+1) else .inl 83
   | none => .inl 83
  else if zbc ((bl s)[i].toNat:Int)=0 then .inl 80
  else finS (zbc ((bl s)[i].toNat:Int)) (toS (((bl s).drop i).take (runS (zbc ((bl s)[i].toNat:Int)) ((bl s).drop i))))):=by
  rw [w];rfl
 rw [a8];have aB:=(bl s)[i].toNat_lt;have L:∀ j:Int,j=3\/j=4\/j=5->zbc ((bl s)[i].toNat:Int)=j->gB j (bl s)[i]=true:=by
  intro j hj p;show zev j _=true;unfold zbc at p;rcases hj with rfl|rfl|rfl
  ·rw [zth];refine qac ?_
   repeat' (first|(split at p)|omega|(cases p;done))
  ·rw [ztg];refine qac ?_
   repeat' (first|(split at p)|omega|(cases p;done))
  rw [zol];refine qac ?_
  repeat' (first|(split at p)|omega|(cases p;done))
 have d:zbc ((bl s)[i].toNat:Int)=if 97<=((bl s)[i].toNat:Int)/\((bl s)[i].toNat:Int)<=122 then 3 else if 65<=((bl s)[i].toNat:Int)/\((bl s)[i].toNat:Int)<=90 then 4 else if 48<=((bl s)[i].toNat:Int)/\((bl s)[i].toNat:Int)<=57 then 5 else if ((bl s)[i].toNat:Int)=34 then 6
   else if ((bl s)[i].toNat:Int)=123\/((bl s)[i].toNat:Int)=125\/((bl s)[i].toNat:Int)=40\/((bl s)[i].toNat:Int)=41\/((bl s)[i].toNat:Int)=44\/((bl s)[i].toNat:Int)=59\/((bl s)[i].toNat:Int)=61\/((bl s)[i].toNat:Int)=126\/((bl s)[i].toNat:Int)=45 then 7 else 0:=by
  unfold zbc at J A ⊢;by_cases a:((bl s)[i].toNat:Int)=32\/((bl s)[i].toNat:Int)=9\/((bl s)[i].toNat:Int)=10\/((bl s)[i].toNat:Int)=13
  ·rw [if_pos a] at J;exact absurd rfl J
  rw [if_neg a] at A ⊢;by_cases b:((bl s)[i].toNat:Int)=35
  ·rw [if_pos b] at A;exact absurd rfl A
  rw [if_neg b]
 generalize hI:zbc ((bl s)[i].toNat:Int)=I at *;generalize hC:((bl s)[i].toNat:Int)=c at *;by_cases c3:97<=c/\c<=122
 ·rw [if_pos c3] at d;subst d;have hr:=O 1 3 (fun x=>rfl) (L 3 (.inl rfl) rfl);have hp:=M 3;have Y:=E 3;rw [if_pos (qac c3),hr] at hF;simp only [qam] at hF;rw [if_pos kab,if_pos kab,qax,qax,q,ref_isword_eq _ k kab] at hF;simp only [qam] at hF;have hs:=G 3;rw [if_neg kad,if_neg kad,finS,if_pos rfl];generalize toS (((bl s).drop i).take (runS 3 ((bl s).drop i)))=x at hs hF ⊢;by_cases hw:ziu x=true
  ·rw [if_pos hw] at hF ⊢;exact ⟨by simp,0,by rw [<-hF,hs]⟩
  rw [if_neg hw] at hF ⊢;by_cases y:x.size>32
  ·rw [if_pos y];rw [if_pos (by unfold wrap64;omega)] at hF;exact ⟨kad,_,hF.symm,rfl⟩
  rw [if_neg y];rw [if_neg (by unfold wrap64;omega)] at hF;exact ⟨by simp,0,by rw [<-hF,hs]⟩
 rw [if_neg c3] at d;rw [if_neg (by simpa using c3)] at hF;by_cases c4:65<=c/\c<=90
 ·rw [if_pos c4] at d;subst d;have hr:=O 2 4 (fun x=>rfl) (L 4 (.inr (.inl rfl)) rfl);have hp:=M 4;have Y:=E 4;rw [if_pos (qac c4),hr] at hF;simp only [qam] at hF;have hs:=G 4;have u:=q 4;rw [if_neg kad,if_neg kad,finS,if_neg kad,if_pos rfl];generalize toS (((bl s).drop i).take (runS 4 ((bl s).drop i)))=x at hs u ⊢;by_cases y:x.size>16
  ·rw [if_pos y];rw [if_pos (by unfold wrap64;omega)] at hF;exact ⟨kad,_,hF.symm,rfl⟩
  rw [if_neg y];rw [if_neg (by unfold wrap64;omega),if_pos kab,if_pos kab,qax,qax,u] at hF;exact ⟨by simp,0,by rw [<-hF,hs]⟩
 rw [if_neg c4] at d;rw [if_neg (by simpa using c4)] at hF;by_cases c5:48<=c/\c<=57
 ·rw [if_pos c5] at d;subst d;have hr:=O 3 5 (fun x=>rfl) (L 5 (.inr (.inr rfl)) rfl);have hp:=M 5;have Y:=E 5;rw [if_pos (qac c5),hr] at hF;simp only [qam] at hF;have hs:=G 5;have u:=q 5;have a6:=a7 rfl;rw [if_pos kab,if_pos kab,qax,qax,u] at hF;obtain ⟨v,hv,ad,af⟩:=numbered_ev (toS (((bl s).drop i).take (runS 5 ((bl s).drop i)))) kab kab a6 k kab;rw [hv] at hF;simp only [qam] at hF;rw [if_neg kad,if_neg kad,finS,if_neg kad,if_neg kad,if_pos rfl];generalize toS (((bl s).drop i).take (runS 5 ((bl s).drop i)))=x at hs ad af ⊢;rw [<-ad];by_cases D:v.2.2.2.2.2.2=true
  ·rw [if_pos D] at hF ⊢;have a1:=af D;have h4:(numS x).1=4\/(numS x).1=5:=num_kind x (by rw [<-a1];exact D);refine ⟨by show (numS x).1≠0;omega,v.2.2.2.2.2.1,?_⟩;rw [<-hF,a1,hs]
  rw [if_neg D] at hF ⊢;exact ⟨kad,_,hF.symm,rfl⟩
 rw [if_neg c5] at d;rw [if_neg (by simpa using c5)] at hF;by_cases c6:c=34
 ·rw [if_pos c6] at d;subst d;rw [if_pos c6,aA] at hF;rw [if_pos rfl];simp only [qam] at hF
  match hq:qdS ((bl s).drop (i+1)) with
  | none=>
   rw [hq] at hF;exact ⟨kad,_,hF.symm,rfl⟩
  | some (o,n)=>
   rw [hq] at hF;simp only [qdR,List.nil_append] at hF;dsimp only;by_cases hh:o.length<=200
   ·rw [if_pos hh];have B:some ((6:Int),toS o,(0:Int),(0:Int),(0:Int),(0:Int),((i+1+n:Nat):Int),(0:Int))=F:=(if_pos (qac hh)).symm.trans hF;rw [show i+1+n=i+(n+1) by omega] at B;exact ⟨by simp,0,B.symm⟩
   rw [if_neg hh];have B:some ((0:Int),(⟨#[]⟩:ByteArray),(0:Int),(0:Int),(0:Int),(0:Int),(0:Int),(83:Int))=F:=(if_neg (by simpa using hh)).symm.trans hF;exact ⟨kad,_,B.symm,rfl⟩
 rw [if_neg c6] at d;rw [if_neg c6,sign_ev s hz i hi c k kab] at hF;by_cases c7:c=123\/c=125\/c=40\/c=41\/c=44\/c=59\/c=61\/c=126\/c=45
 ·rw [if_pos c7] at d;subst d;have X:runS 7 ((bl s).drop i)=1:=by
   rw [w,runS];have:(List.takeWhile (gB 7) ((bl s).drop (i+1)))=[]:=by
    cases (bl s).drop (i+1) with
    | nil=>rfl
    | cons a r=>exact qcc (by show ¬zev 7 _=true;unfold zev;rw [if_neg kad,if_neg kad,if_neg kad,if_neg kad,if_neg kad];decide)
   rw [this];rfl
  have u:=q 7;have hs:=G 7;rw [X] at u hs;rw [if_pos c7,u] at hF;rw [if_neg kad,if_neg kad,X,finS,if_neg kad,if_neg kad,if_neg kad,if_pos rfl];exact ⟨by simp,0,by rw [<-hF,hs]⟩
 rw [if_neg c7] at d;subst d;rw [if_neg c7] at hF;rw [if_neg kad,if_pos rfl];exact ⟨kad,_,hF.symm,rfl⟩
theorem begins_one (c:Int):zbc c=1↔(c=32\/c=9\/c=10\/c=13):=by
 unfold zbc;constructor
 ·intro h
  repeat' (first|assumption|(cases h;done)|(split at h))
 intro h;rw [if_pos h]
theorem zke (c:Int):zbc c=2↔c=35:=by
 unfold zbc;constructor
 ·intro h
  repeat' (first|assumption|(cases h;done)|(split at h))
 intro h;rw [if_neg kab,if_pos h]
theorem dropWhile_stops (i:Int) (r:List UInt8):zmo i (r.dropWhile (gB i))=true:=by
 induction r with
 | nil=>rfl
 | cons c t d=>
  by_cases b:gB i c=true
  ·rw [List.dropWhile_cons_of_pos b];exact d
  rw [List.dropWhile_cons_of_neg b];show (!gB i c)=true;simpa using b
theorem blank_step (b:UInt8) (r:List UInt8) (p:Nat) (k:zbc (b.toNat:Int)=1):zhe (b::r) p=zhe r (p+1):=by
 have key:∀ (w v:List UInt8) (q:Nat),(∀ x∈w,zbc (x.toNat:Int)=1)->zmo 1 v=true->zhe (w++v) q=zhe v (q+w.length):=by
  intro w v q o n;by_cases h:w=[]
  ·subst h;rfl
  exact scan_blank w v q h o n
 have m:r=r.takeWhile (gB 1)++r.dropWhile (gB 1):=(List.takeWhile_append_dropWhile ..).symm;have j:zmo 1 (r.dropWhile (gB 1))=true:=dropWhile_stops 1 r;have e:∀ x∈r.takeWhile (gB 1),zbc (x.toNat:Int)=1:=fun x d=>by
  have:=qbv.1 List.all_takeWhile x d;rw [gB1] at this;exact qar.1 this
 rw [m];generalize r.takeWhile (gB 1)=w at e;generalize r.dropWhile (gB 1)=v at j;rw [key w v (p+1) e j,<-List.cons_append,key (b::w) v p (fun x d=>by
  rcases qcj.1 d with rfl|d
  ·exact k
  exact e x d) j,qbe]
 rw [show p+1+w.length=p+(w.length+1) by omega]
theorem remark_step (b:UInt8) (r:List UInt8) (p:Nat) (d:zbc (b.toNat:Int)=2):zhe (b::r) p=zhe ((b::r).drop (runS 2 (b::r))) (p+runS 2 (b::r)):=by
 have ht:tokS (b::r) = .inr (⟨0,toS ((b::r).take (runS 2 (b::r))),0,⟨0,0⟩,0⟩,runS 2 (b::r)):=by
  simp only [tokS];rw [d,if_neg kad,if_neg kad,finS,if_neg kad,if_neg kad,if_neg kad,if_neg kad,zdk,qbq,Nat.min_eq_left (zin _ _)]
 rw [zlm _ p _ _ ht];exact zsj _
theorem gB2 (b:UInt8):gB 2 b=decide ((b.toNat:Int)≠10):=by
 show zev 2 _=_;unfold zev;rw [if_neg kad,if_pos rfl];rw [Bool.eq_iff_iff,qbc,qbw]
theorem ref_remark (s:ByteArray) (n:s.size<=8000) (acc:List S49):∀ (d i k:Nat),i+d=s.size ->
  lychgateref08_Scan.l1 (k+d+1) s acc (i:Int)=lychgateref08_Scan.l0 (k+d-(((bl s).drop i).takeWhile (gB 2)).length) s acc ((i+(((bl s).drop i).takeWhile (gB 2)).length:Nat):Int):=by
 have m:=zbm s;intro d;induction d with
 | zero=>
  intro i k hi;rw [lychgateref08_Scan.l1];rw [if_neg kab,qaz kab];rfl
 | succ d j=>
  intro i k hi;have b:i<(bl s).length:=kab;rw [show k+(d+1)+1=(k+d+1)+1 by omega];rw [lychgateref08_Scan.l1];rw [if_pos kab,if_pos kab,zfm s i b,zem _ i b];by_cases h:((bl s)[i].toNat:Int)=10
  ·rw [if_pos h,qcc (by rw [gB2,qak (fun e=>e h)];decide)];rfl
  rw [if_neg h,qcb (by rw [gB2];exact qac h),zct i kab,j (i+1) k kab,qbe];rw [show k+d-((List.drop (i+1) (bl s)).takeWhile (gB 2)).length=k+(d+1)-(((List.drop (i+1) (bl s)).takeWhile (gB 2)).length+1) by omega,show i+1+((List.drop (i+1) (bl s)).takeWhile (gB 2)).length=i+(((List.drop (i+1) (bl s)).takeWhile (gB 2)).length+1) by omega]
theorem ref_scan_l0 (s:ByteArray) (E:s.size<=8000):∀ (d i k:Nat) (acc:List S49),i+d=s.size->18000+8001+4*d<=k->acc.length<=i ->
  lychgateref08_Scan.l0 k s acc (i:Int)=some (zpf acc (zhe ((bl s).drop i) i)):=by
 have hl:=zbm s;intro d;induction d using Nat.strongRecOn with
 | _ d A=>
 intro i k acc hi hk Z;obtain ⟨k,rfl⟩:∃ m,k=m+2:=⟨k-2,kab⟩;rw [show k+2=(k+1)+1 by omega];simp only [lychgateref08_Scan.l0];by_cases hd:d=0
 ·rw [if_neg kab,qaz kab,scanU_nil,if_pos kab];have:i=s.size:=kab;subst this;rfl
 have B:i<(bl s).length:=kab;rw [if_pos kab,if_pos kab,zfm s i B];have j:=zem (bl s) i B;have J:(if ((bl s)[i].toNat:Int)=32 then (lychgateref08_Scan.j1 (k+1) s acc (i:Int) ((bl s)[i].toNat:Int) (((bl s)[i].toNat:Int)==32)) else (if ((bl s)[i].toNat:Int)=9 then (lychgateref08_Scan.j1 (k+1) s acc (i:Int) ((bl s)[i].toNat:Int) (((bl s)[i].toNat:Int)==9)) else (if ((bl s)[i].toNat:Int)=10 then (lychgateref08_Scan.j1 (k+1) s acc (i:Int) ((bl s)[i].toNat:Int) (((bl s)[i].toNat:Int)==10)) else (lychgateref08_Scan.j1 (k+1) s acc (i:Int) ((bl s)[i].toNat:Int) (((bl s)[i].toNat:Int)==13))))) =
   lychgateref08_Scan.j1 (k+1) s acc (i:Int) ((bl s)[i].toNat:Int) (decide (zbc ((bl s)[i].toNat:Int)=1)):=by
  have b:zbc ((bl s)[i].toNat:Int)=1↔(((bl s)[i].toNat:Int)=32\/((bl s)[i].toNat:Int)=9\/((bl s)[i].toNat:Int)=10\/((bl s)[i].toNat:Int)=13):=begins_one _;generalize ((bl s)[i].toNat:Int)=c at b;by_cases p:c=32
  ·rw [if_pos p,qac (b.2 (.inl p)),p];rfl
  rw [if_neg p];by_cases q:c=9
  ·rw [if_pos q,qac (b.2 (.inr (.inl q))),q];rfl
  rw [if_neg q];by_cases r:c=10
  ·rw [if_pos r,qac (b.2 (.inr (.inr (.inl r)))),r];rfl
  rw [if_neg r];by_cases w:c=13
  ·rw [qac (b.2 (.inr (.inr (.inr w)))),w];rfl
  rw [qak (fun h=>by have:=b.1 h;omega),show (c==13)=false by rw [<-Bool.not_eq_true,qar];exact w]
 rw [J];simp only [lychgateref08_Scan.j1];by_cases b:zbc ((bl s)[i].toNat:Int)=1
 ·rw [if_pos (qac b),zct i kab,A (d-1) kab (i+1) k acc kab kab kab,j,blank_step _ _ _ b]
 rw [if_neg (by simpa using b)];by_cases o:zbc ((bl s)[i].toNat:Int)=2
 ·rw [if_pos ((zke _).1 o)];have L:k=(k-d-1)+d+1:=kab;have hg:gB 2 (bl s)[i]=true:=by
   rw [gB2];have:=(zke _).1 o;exact qac kab
  rw [L,ref_remark s E acc d i (k-d-1) hi,j,remark_step _ _ _ o];have X:((bl s)[i]::(bl s).drop (i+1)).takeWhile (gB 2)=(bl s)[i]::((bl s).drop (i+1)).takeWhile (gB 2):=qcb hg;have O:(((bl s)[i]::(bl s).drop (i+1)).takeWhile (gB 2)).length=runS 2 ((bl s)[i]::(bl s).drop (i+1)):=by rw [X,qbe,runS];omega
  rw [O,<-j];have M:=zin 2 ((bl s).drop i);rw [qbr] at M;have af:0<runS 2 ((bl s).drop i):=by rw [j];exact zkw _ _ _
  rw [A (d-runS 2 ((bl s).drop i)) kab (i+runS 2 ((bl s).drop i)) _ acc kab kab kab,List.drop_drop]
 rw [if_neg (fun h=>o ((zke _).2 h))];have h1:inS ((bl s).drop i)≠1:=by rw [j];exact b
 have I:inS ((bl s).drop i)≠2:=by rw [j];exact o
 have u:=one_ev s E i kab k kab h1 I;have U:(bl s).drop i≠[]:=by rw [j];simp
 match ht:tokS ((bl s).drop i) with
 | .inl e=>
  rw [ht] at u;obtain ⟨G,v,y,D⟩:=u;rw [y,scanU_err _ _ e U ht];simp only [qam];rw [if_neg (by rw [D];exact G),D];rfl
 | .inr (t,n)=>
  rw [ht] at u;obtain ⟨t0,z,y⟩:=u;have Y:=zlh _ _ _ ht;rw [qbr] at Y;rw [y,zlm _ _ _ _ ht,if_neg t0];simp only [qam,if_true];have ad:(acc++[atS t i]).length=acc.length+1:=by simp
  rw [if_pos kab];show lychgateref08_Scan.l0 k s (acc++[atS t i]) _=_;rw [A (d-n) kab (i+n) k (acc++[atS t i]) kab kab kab,List.drop_drop];cases zhe ((bl s).drop (i+n)) (i+n) with
  | inl x=>rfl
  | inr ts=>simp [zpf,addT,qbl]
theorem zlq (s:ByteArray) (k:Nat) (hk:60000<=k):lychgateref08_Scan.f k s=some (zcr s):=by
 have b:=zbm s;unfold lychgateref08_Scan.f zcr;by_cases h:s.size>8000
 ·rw [if_pos kab,if_pos h]
 rw [if_neg kab,if_neg h];have:=ref_scan_l0 s kab s.size 0 k [] kab kab (by simp);rw [show ((0:Nat):Int)=0 from rfl] at this;rw [this,List.drop_zero];unfold zhe;rw [b]
end
section
theorem zri (p:S49->Prop) (k:∀ q,p (endS q)) (ht:∀ (u:List UInt8) (t:S49) (n q:Nat),tokS u = .inr (t,n)->t.f0≠0->p (atS t q)) :
  ∀ (d:Nat) (u:List UInt8) (q:Nat) (l:List S49),zgf d u q = .inr l->∀ t∈l,p t
 | 0,_,_,_,h=>by cases h
 | _+1,[],q,l,h=>by
  cases h;intro t m;rw [qbk] at m;rw [m];exact k q
 | d+1,b::r,q,l,h=>by
  simp only [zgf] at h;split at h
  ·cases h
  rename_i t n s;split at h
  ·cases h
  rename_i ts w;have o:=zri p k ht d _ _ ts w;have h:=Sum.inr.inj h;by_cases e:t.f0=0
  ·rw [if_pos e] at h;rw [<-h];exact o
  rw [if_neg e] at h;rw [<-h];intro x j;rcases qcj.1 j with rfl|j
  ·exact ht _ t n q s e
  exact o x j
theorem sign_run (b:UInt8) (r:List UInt8):runS 7 (b::r)=1:=by
 show 1+_=1;have:r.takeWhile (gB 7)=[]:=by
  cases r with
  | nil=>rfl
  | cons c t=>
   have:gB 7 c=false:=by
    unfold gB zev;simp
   rw [qcc (by rw [this];decide)]
 rw [this];rfl
theorem num_kind3 (x:ByteArray):(numS x).1=0\/(numS x).1=4\/(numS x).1=5:=by
 unfold numS;cases h:lex_numbered.f x with
 | none=>exact .inl rfl
 | some v=>
  right;show v.1=4\/v.1=5;revert h;unfold lex_numbered.f;intro h;obtain ⟨c,-,h⟩:=qba.1 h;by_cases b:c=true
  ·rw [if_pos b] at h;obtain ⟨p,-,h⟩:=qba.1 h;rw [<-qaa h];exact .inr rfl
  rw [if_neg b] at h;split at h
  ·rw [<-qaa h];left;split<;>rfl
  cases h
theorem tok_sign (u:List UInt8) (t:S49) (n:Nat) (h:tokS u = .inr (t,n)) (d:t.f0=7):t.f1.size=1:=by
 match u with
 | []=>cases h
 | b::r=>
  simp only [tokS] at h;by_cases j:zbc (b.toNat:Int)=6
  ·rw [if_pos j] at h;split at h
   ·split at h
    ·obtain ⟨rfl,-⟩:=Prod.mk.inj (Sum.inr.inj h);simp at d
    cases h
   cases h
  rw [if_neg j] at h;by_cases e:zbc (b.toNat:Int)=0
  ·rw [if_pos e] at h;cases h
  rw [if_neg e] at h;unfold finS at h;split at h
  ·split at h
   ·obtain ⟨rfl,-⟩:=Prod.mk.inj (Sum.inr.inj h);simp at d
   split at h
   ·cases h
   obtain ⟨rfl,-⟩:=Prod.mk.inj (Sum.inr.inj h);simp at d
  split at h
  ·split at h
   ·cases h
   obtain ⟨rfl,-⟩:=Prod.mk.inj (Sum.inr.inj h);simp at d
  split at h
  ·split at h
   ·obtain ⟨rfl,-⟩:=Prod.mk.inj (Sum.inr.inj h);have:=num_kind3 (toS ((b::r).take (runS (zbc (b.toNat:Int)) (b::r))));exfalso;have k:(numS (toS ((b::r).take (runS (zbc (b.toNat:Int)) (b::r))))).1=7:=d;omega
   cases h
  split at h
  ·rename_i hi;obtain ⟨rfl,-⟩:=Prod.mk.inj (Sum.inr.inj h);show (toS ((b::r).take (runS (zbc (b.toNat:Int)) (b::r)))).size=1;rw [hi,sign_run,zdk];rfl
  obtain ⟨rfl,-⟩:=Prod.mk.inj (Sum.inr.inj h);simp at d
theorem scanA_sign (s:ByteArray):∀ t∈(zcr s).1,t.f0=7->t.f1.size=1:=by
 unfold zcr;by_cases hs:s.size>8000
 ·rw [if_pos hs];intro t ht;cases ht
 rw [if_neg hs];cases d:zgf (s.size+1) (bl s) 0 with
 | inl x=>intro t ht;cases ht
 | inr l=>
  have:=zri (fun t=>t.f0=7->t.f1.size=1) (fun q h=>by simp [endS] at h) (fun u t n q h _ b=>tok_sign u t n h b) _ _ _ _ d;intro t ht;exact this t (by simpa [zpf] using ht)
end
section
def PolR (W:World) (b:Nat) (l:List S62) (v:Value):Prop:=∃ cells L,Row W b 62 11 v l.length cells/\zex W b l cells L/\∀ k,v.ownBlock=some k->k∉L
def RefQ (W:World) (l:List S62) (b at_:Int) (e:Ending) (W':World):Prop:=
 ∃ v,e = .returned (.tuple #[.agg #[v],.int .i64 b,.int .i64 at_])/\PolR W' W.heap.size l v/\Below W.heap.size W W'
theorem PolR.nil (W:World) (b:Nat):PolR W b [] (.slice none 0 0):=⟨[],[],Row.nil _ _ _ _,⟨rfl,rfl⟩,fun k h=>by simp [Value.ownBlock] at h⟩
theorem PolR.frame {W W1:World} {b:Nat} {l:List S62} {v:Value} (h:PolR W b l v) (hh:∀ k,b<=k->k<W.heap.size->W1.heap[k]?=W.heap[k]?):PolR W1 b l v:=by
 obtain ⟨cells,L,h1,d,e⟩:=h;exact ⟨cells,L,h1.frame fun g hg=>hh g (h1.blk hg).1 (h1.blk hg).2.1,d.frame fun g hg=>hh g (d.lt g hg).1 (d.lt g hg).2,e⟩
theorem PolR.lower {W:World} {b b':Nat} {l:List S62} {v:Value} (d:b'<=b) (h:PolR W b l v):PolR W b' l v:=by
 obtain ⟨cells,L,h1,e,j⟩:=h;exact ⟨cells,L,h1.lower d,e.lower d,j⟩
structure QInv (W:World) (g T c:Nat) (toks:List Tok) (st:RS) (l:List S62) (v:Value) (W':World):Prop where
 st:RSt W' g T c toks st
 bel:Below W.heap.size W W'
 res:W'.heap[W.heap.size]?=some (.cells #[.slice none 0 0] 36 (0,0))
 pol:W'.heap[g+1]?=some (.cells #[v] 36 (0,0))
 row:PolR W' (g+2) l v
 far:W.heap.size<T/\T<g
 many:l.length<=101
section
variable {W W1 W2:World} {g T c:Nat} {toks:List Tok} {st ay:RS} {l:List S62} {v:Value}
theorem QInv.move (h:QInv W g T c toks st l v W1) (d:RSt W2 g T c toks ay) (hF:Fr W1 W2 (·=g)):QInv W g T c toks ay l v W2:=by
 have e:=h.far;exact ⟨d,hF.below (fun k hk=>by omega) h.bel.size h.bel,hF.blk h.res kab,hF.blk h.pol kab,h.row.frame fun k h1 b=>hF.block k b kab,h.far,h.many⟩
theorem QInv.snoc {x:S62} {cs cells:List Value} {L M:List Nat} {v1:Value} {w1:World} (h:QInv W g T c toks st l v W2) (X:l.length<=100)
  (I:Row W2 (g+2) 62 11 v l.length cells) (hit:zex W2 (g+2) l cells L) (r:∀ b,v.ownBlock=some b->b∉L) {q:Nat} (B:g+2<=q) (u:∀ b,v.ownBlock=some b->b<q)
  (n:Tree W2 q x.f2 cs M)
  (G:Row w1 (g+2) 62 11 v1 (l.length+1) (cells++(([Value.int .i64 x.f0,Value.string x.f1]:List Value)++cs++[Value.int .i64 x.f3]))) (s:W2.grownBy w1 v.ownBlock) (d:v1.ownBlock=v.ownBlock\/v1.ownBlock=some (W2.heap.size+1)) :
  QInv W g T c toks st (l++[x]) v1 (w1.setCell ⟨g+1,0,none⟩ v1):=by
 have O:=h.far;have w:∀ b,v.ownBlock=some b->g+2<=b:=fun b m=>(I.blk m).1;have far:∀ k,k<W2.heap.size->v.ownBlock≠some k->w1.heap[k]?=W2.heap[k]?:=fun k hk hn=>s.block k hk (fun e=>hn e.symm);have o:∀ k,k<W2.heap.size->k<=g+1->w1.heap[k]?=W2.heap[k]?:=fun k hk U=>far k hk fun e=>by have:=w k e;omega
 have D:=h.st.lts.1;have A:=h.st.lts.2.1;have y:Fr W2 w1 (fun k=>some k=v.ownBlock):=Fr.of_grown s (fun k hk=>hk.symm);have z:PolR w1 (g+2) (l++[x]) v1:=by
  refine ⟨_,L++M,by rw [qal];exact G,zex.snoc (hit.frame fun k hk=>far k (hit.lt k hk).2 fun e=>r k e hk) (Tree.lower B (n.frame fun k hk=>far k (n.lt k hk).2 fun e=>?_)),?_⟩
  ·have:=u k e;have:=(n.lt k hk).1;omega
  intro b m j;rcases qbi.1 j with j|j
  ·rcases d with d|d
   ·exact r b (d ▸ m) j
   have h1:=(hit.lt b j).2;rw [m] at d;have:=qaa d;omega
  rcases d with d|d
  ·have:=u b (d ▸ m);have:=(n.lt b j).1;omega
  have h1:=(n.lt b j).2;rw [m] at d;have:=qaa d;omega
 have E:=zam h.pol;refine ⟨(h.st.blk (o g D kab) (o T A kab)).far (by show g≠g+1;omega) (by show T≠g+1;omega) _,(y.below (fun k hk=>by have:=w k hk.symm;omega) h.bel.size h.bel).setCell (p:=⟨g+1,0,none⟩) (by show W.heap.size<=g+1;omega) _,
  zav ((o _ (zam h.res) kab).trans h.res) (by show W.heap.size≠g+1;omega) _,zan ((o _ E (qad _)).trans h.pol) 0 v1 rfl,
  z.frame fun k h1 J=>qbn w1 _ _ k (by show k≠g+1;omega),h.far,kbl⟩
end
def ItG (toks:List Tok) (K:Nat) (res:PR (List S62)) (k:Nat) (st:RS) (l:List S62):Prop:=
 (∃ i,st=⟨i,0,0⟩/\l.length<=100/\zfb toks K k i l=some res)\/(st.e≠0/\res = .bad st.e st.p)
section
variable {toks:List Tok} (aw:∀ i,(tk toks i).kind=7->(tk toks i).text.size=1)
include aw
theorem word_is (i:Nat):(isT (tk toks i) sLet||isT (tk toks i) zdf||isT (tk toks i) zeu)=(if (tk toks i).kind=1 then zfk (tk toks i) else none).isSome:=by
 have n:sLet.size=3:=kae;have o:zdf.size=5:=kae;have p:zeu.size=4:=kae;by_cases h1:(tk toks i).kind=1
 ·rw [if_pos h1,zgx h1,zgx h1,zgx h1];unfold zfk;by_cases b:(tk toks i).text.toList=sLet.toList
  ·rw [if_pos b,b];simp
  rw [if_neg b,qah.2 b];by_cases d:(tk toks i).text.toList=zdf.toList
  ·rw [if_pos d,d];simp
  rw [if_neg d,qah.2 d];by_cases e:(tk toks i).text.toList=zeu.toList
  ·rw [if_pos e,e];simp
  rw [if_neg e,qah.2 e];rfl
 have k:∀ w:ByteArray,w.size≠1->isT (tk toks i) w=false:=fun w m=>by
  cases j:isT (tk toks i) w with
  | false=>rfl
  | true=>
   unfold isT at j;rw [qbj,Bool.or_eq_true,qar,qar,qar] at j;have:=aw i kab;rw [zck j.2] at this;exact absurd this m
 rw [if_neg h1,k _ kab,k _ kab,k _ kab];rfl
omit aw in
theorem items_step {K k i:Nat} {res:PR (List S62)} {l:List S62} {x:S62} {st:RS} {r:PR S62} (p:l.length<100) (hr:zfr toks K l.length i=some r) (h:zfb toks K (k+1) i l=some res) (m:(tk toks i).kind≠8) (b:OkI r 0 x st):ItG toks K res k st (l++[x]):=by
 unfold zfb at h;rw [if_neg m,hr] at h;cases r with
 | bad e q=>
  obtain ⟨d,n,o⟩:=b;exact .inr ⟨by rw [d];exact o,by rw [d,n];exact (qaa h).symm⟩
 | ok y j=>
  obtain ⟨rfl,rfl⟩:=b;exact .inl ⟨j,rfl,by rw [qal,qay];omega,h⟩
end
end
section
theorem PolR.form {W:World} {b:Nat} {l:List S62} {v:Value} (h:PolR W b l v):∃ A cap,v = .slice A l.length cap/\l.length<=cap:=by
 obtain ⟨cells,L,h1,-,-⟩:=h;obtain ⟨A,cap,e,d,-⟩:=h1.form;exact ⟨A,cap,e,d⟩
theorem QInv.drewN {W W1:World} {g T c:Nat} {toks:List Tok} {st:RS} {l:List S62} {v:Value} (h:QInv W g T c toks st l v W1) (n:Nat):QInv W g T c toks st l v (W1.drewN n):=
 ⟨h.st.drewN n,zaa h.bel n,h.res,h.pol,h.row.frame fun _ _ _=>rfl,h.far,h.many⟩
theorem QInv.rows {W W1 W2:World} {g T c:Nat} {toks:List Tok} {st:RS} {l:List S62} {v:Value} (h:QInv W g T c toks st l v W1) (hF:Fr W1 W2 (·=g)) :
  ∃ cells L,Row W2 (g+2) 62 11 v l.length cells/\zex W2 (g+2) l cells L/\(∀ b,v.ownBlock=some b->b∉L)/\(∀ b,v.ownBlock=some b->b<W1.heap.size)/\g+1<W1.heap.size/\W1.heap.size<=W2.heap.size:=by
 obtain ⟨cells,L,h1,d,j⟩:=h.row;exact ⟨cells,L,h1.fr hF fun o n e=>by have:=(h1.blk n).1;omega,d.frame fun k hk=>hF.block k (d.lt k hk).2 (by have:=(d.lt k hk).1;show ¬k=g;omega),j,fun b m=>(h1.blk m).2.1,zam h.pol,hF.size⟩
def RefE (W:World) (r:PR (List S62)):Ending->World->Prop:=match r with
 | .ok x _=>RefQ W x 0 0
 | .bad e p=>RefQ W [] e p
theorem sign_tok {L:List S49} (h:∀ t∈L,t.f0=7->t.f1.size=1):∀ i,(tk (L.map zik) i).kind=7->(tk (L.map zik) i).text.size=1:=by
 intro i b;unfold tk at b ⊢;rw [qat,List.getElem?_map] at b ⊢;cases ht:L[i]? with
 | none=>rw [ht] at b;exact absurd b (by show ¬(8:Int)=7;decide)
 | some t=>
  rw [ht] at b;exact h t (qbz ht) b
theorem refparse_items (s:ByteArray) (W:World) (hf:(zcr s).2.1=0) (res:PR (List S62)) (z:zio ((zcr s).1.map zik)=some res) :
  Calls prog 12 #[.string s] W (RefE W res):=by
 obtain ⟨rr,qq,br,bu⟩:=zgk s hf;have aa:=zme br;have aw:=sign_tok (scanA_sign s);have bv:0<(zcr s).1.length:=by rw [br];simp
 have bb:lychgateref08_Scan.f 60000 s=some ((zcr s).1,0,(zcr s).2.2):=by rw [zlq s 60000 (qad _),<-hf]
 obtain ⟨L,hL⟩:∃ L,(zcr s).1=L:=⟨_,rfl⟩;rw [hL] at z aa aw bv bb bu;obtain ⟨toks,bw⟩:∃ toks,L.map zik=toks:=⟨_,rfl⟩;have b9:L.length=toks.length:=by rw [<-bw,qci]
 rw [bw] at z aa aw;rw [b9] at bu;unfold zio at z;have bc:=zq (lychgateref08_Scan.calls 60000 s L 0 (zcr s).2.2 (W.alloc (.cells #[.slice none 0 0] 36)) bb);have bx:=zq (zad (qan W.heap.size W) (.cells #[.slice none 0 0] 36));have b6:=zq (qab W (.cells #[.slice none 0 0] 36));have aW:=zq aa;have bd:=zq aw;have b1:=zq z;have b0:=zq bv;have b4:=zq bw;generalize (zcr s).2.2=pz at bc bb;clear br hf aa aw z bv bb hL;go_enter func12,ntmps12;go_upto_region 6 with (go_at_call 31;refine bc.o.mono ?_;rintro J w1 ⟨v0,rfl,hR,d⟩;obtain ⟨T,c,rfl,bk,ba⟩:=zsm hR b0.o;rw [b4.o] at ba;simp only [b4.o];have b8:T<w1.heap.size:=(by obtain ⟨cs,h1,-⟩:=ba;exact zam h1);have bk:W.heap.size<T:=(by rw [qae] at bk;omega);have bp:=qab (w1.alloc (.cells #[.slice (some ⟨T,0,none⟩) toks.length c,.int .i64 0,.int .i64 0,.int .i64 0] 79)) (.cells #[.slice none 0 0] 36);rw [qae] at bp;have ae:=zq (QInv.mk (W:=W) (l:=[]) (st:=⟨0,0,0⟩) (v := .slice none 0 0) (((RSt.mk (s:=⟨0,0,0⟩) (qab w1 (.cells #[.slice (some ⟨T,0,none⟩) toks.length c,.int .i64 0,.int .i64 0,.int .i64 0] 79)) (by obtain ⟨cs,h1,h2⟩:=ba;exact ⟨cs,zaf h1 _,h2⟩) bu (by have:=b0.o;show 0<toks.length;omega)).alloc (.cells #[.slice none 0 0] 36))) (zad (zad (zbb bx.o bx.o.size d) _) _) (zaf (zaf (zaq b6.o d) _) _) bp (PolR.nil _ _) ⟨bk,b8⟩ (by simp));clear hR d ba bp);obtain ⟨g,hg⟩:∃ g,w1.heap.size=g:=⟨_,rfl⟩;simp only [hg] at ae ⊢;clear hg;go_loopg [10] (toks.length+1) (fun k t10 wr=>∃ st:RS,∃ l:List S62,∃ v:Value,Zq (QInv W g T c toks st l v wr)/\Zq (ItG toks (5*toks.length+4) res k st l));case atStart=>exact ⟨⟨0,0,0⟩,[],_,ae,⟨.inl ⟨0,rfl,by simp,b1.o⟩⟩⟩
 case round=>
  obtain ⟨st,l,v,HX,HG⟩:=hrel;clear ae b1 bc;obtain ⟨A,cap,rfl,bD⟩:=HX.o.row.form;obtain ⟨u0,u1,u2,e0,J,U,X,e4,O⟩:=HX.o.st.look;have b5:=HX.o.st.here;have m:=zab HX.o.pol 0;simp only [qaj,qag] at m;rcases HG.o with ⟨i,rfl,hl,hr⟩|⟨he,hr⟩
  ·cases gk with
   | zero=>cases hr
   | succ k=>
   dsimp only at u0 u1 u2 e0 J U X e4 O b5;by_cases h8:(tk toks i).kind=8
   ·have b7:((tk toks i).kind !=8)=false:=(by rw [h8];decide);have z:res = .ok l i:=by
     unfold zfb at hr;rw [if_pos h8] at hr;exact (qaa hr).symm
    have aI:=zq z;have r0:=zab HX.o.res 0;have rf:=zac HX.o.res 0;simp only [qaj,qag] at r0;clear h8 hr z HG;go_wp2
    go_quiet (fail)
    go_wp2;refine qaf (zbh rfl _ _ W.heap.size 36 #[.slice A l.length cap] (0,0) _ rfl (by first|exact zan (cs':=#[.slice A l.length cap]) HX.o.res 0 _ rfl|exact zan (cs':=#[.slice A l.length cap]) (HX.o.drewN _).res 0 _ rfl) underlying36 rfl kae) rfl ?_;rw [aI.o];refine ⟨_,rfl,?_,?_⟩
    ·exact ((HX.o.drewN _).row.frame fun k h1 h2=>qbn _ ⟨W.heap.size,0,none⟩ _ k (by have:=HX.o.far;show k≠W.heap.size;omega)).lower (by have:=HX.o.far;have:=HX.o.st.lts;omega)
    first|exact (HX.o.bel).setCell (p:=⟨W.heap.size,0,none⟩) (qad _) _|exact ((HX.o.drewN _).bel).setCell (p:=⟨W.heap.size,0,none⟩) (qad _) _|exact (((HX.o.drewN _).bel).setCell (p:=⟨W.heap.size,0,none⟩) (qad _) _).drew
   have b7:((tk toks i).kind !=8)=true:=qbc.2 h8;have HH:=zq (And.intro hr (And.intro h8 hl));have aY:=h8;clear HG hr;by_cases aR:l.length=100
   ·have hA:((l.length:Int)==100)=true:=qar.2 kab;have bm:=zq (show (100:Nat)=l.length by omega);have Y:=zq hl;have aT:=word_is bd.o i;by_cases a6:isT (tk toks i) sLet=true
    ·have hw:(if (tk toks i).kind=1 then zfk (tk toks i) else none).isSome=true:=(by rw [<-aT];simp [a6]);have aH:zfr toks (5*toks.length+4) l.length i=some (.bad 92 (tk toks i).place):=by
      unfold zfr;cases hk:(if (tk toks i).kind=1 then zfk (tk toks i) else none) with
      | none=>rw [hk] at hw;cases hw
      | some kd=>exact if_pos aR
     have z:res = .bad 92 (tk toks i).place:=by
      have hr:=HH.o.1;unfold zfb at hr;rw [if_neg HH.o.2.1,aH] at hr;exact (qaa hr).symm
     have aI:=zq z;have aV:(⟨i,92,(tk toks i).place⟩:RS).e≠0:=(by show (92:Int)≠0;decide);have ad:=zq (fun W' (j:RSt W' g T c toks ⟨i,92,(tk toks i).place⟩)=>zve g T c toks aW.o W' _ aV j);have aX:=zq (fun W' (j:RSt W' g T c toks ⟨i,0,0⟩)=>zdm W' g T c toks ⟨i,0,0⟩ 92 (tk toks i).place j);have aJ:=zq (fun W' (j:RSt W' g T c toks ⟨i,0,0⟩)=>(show Calls prog 32 #[.pointer (some ⟨g,0,none⟩),.string sLet] W' fun e y=>e = .returned (.bool true)/\Below W'.heap.size W' y from by have:=zbt W' g T c toks ⟨i,0,0⟩ sLet j;rw [zdy,a6] at this;exact this));obtain ⟨b2,a7⟩:∃ b,isT (tk toks i) zdf=b:=⟨_,rfl⟩;have aK:=zq (fun W' (j:RSt W' g T c toks ⟨i,0,0⟩)=>(show Calls prog 32 #[.pointer (some ⟨g,0,none⟩),.string zdf] W' fun e y=>e = .returned (.bool b2)/\Below W'.heap.size W' y from by have:=zbt W' g T c toks ⟨i,0,0⟩ zdf j;rw [zdy,a7] at this;exact this));obtain ⟨b3,a8⟩:∃ b,isT (tk toks i) zeu=b:=⟨_,rfl⟩;have aN:=zq (fun W' (j:RSt W' g T c toks ⟨i,0,0⟩)=>(show Calls prog 32 #[.pointer (some ⟨g,0,none⟩),.string zeu] W' fun e y=>e = .returned (.bool b3)/\Below W'.heap.size W' y from by have:=zbt W' g T c toks ⟨i,0,0⟩ zeu j;rw [zdy,a8] at this;exact this));have Z:=zq (fun n=>HX.o.drewN n);clear h8 aR aY hl hw aH z aT a6 a7 a8;go_wp2
     go_quiet (fail)
     go_wp2_with (first
      | (go_at_call 32;refine (aJ.o _ (Z.o _).st).mono ?_;rintro J w1 ⟨rfl,d⟩;have HX:=zq ((Z.o _).move ((Z.o _).st.below d) (Fr.of_below d));have m:=zab HX.o.pol 0;obtain ⟨u0,u1,u2,e0,J,U,X,e4,O⟩:=HX.o.st.look;simp only [qaj,qag] at m;clear d aJ)
      | (go_at_call 32;refine (aK.o _ HX.o.st).mono ?_;rintro U w2 ⟨rfl,d⟩;have HX:=zq (HX.o.move (HX.o.st.below d) (Fr.of_below d));have m:=zab HX.o.pol 0;obtain ⟨u0,u1,u2,e0,J,U,X,e4,O⟩:=HX.o.st.look;simp only [qaj,qag] at m;clear d aK)
      | (go_at_call 32;refine (aN.o _ HX.o.st).mono ?_;rintro X w3 ⟨rfl,d⟩;have HX:=zq (HX.o.move (HX.o.st.below d) (Fr.of_below d));have m:=zab HX.o.pol 0;obtain ⟨u0,u1,u2,e0,J,U,X,e4,O⟩:=HX.o.st.look;simp only [qaj,qag] at m;clear d aN))
     have aZ:zcc 92 (tk toks i).place ⟨i,0,0⟩=⟨i,92,(tk toks i).place⟩:=if_pos rfl;go_region_law (go_simp;go_at_call 33;refine (aX.o _ (by first|exact HX.o.st|exact HX.o.st.drew|exact HX.o.st.drewN _)).mono ?_;rintro e9 w9 ⟨rfl,w,hF⟩;rw [aZ] at w;have HX:=zq (HX.o.move w kag);have m:=zab HX.o.pol 0;simp only [qaj,qag] at m;clear w hF);(all_goals go_wp2);all_goals go_region_law (first
      | (go_simp;go_at_call 34;refine (ad.o _ kaw).mono ?_;rintro O w5 ⟨x,ts,M,aG,rfl,D,w,hF,hQ⟩;obtain ⟨v3,v4,v5,v6,rfl,-,-,-,-,A3,n3,c3,A4,n4,c4,A5,n5,c5,A6,n6,c6,rfl,rfl,rfl,rfl⟩:=zax D;have q:=zq (HX.o.move w kag);obtain ⟨cells,L0,aE,hit,a1,aF,aA,aC⟩:=HX.o.rows (W2:=w5) kag;have B:=zq aE;have aO:=zq hit;have av:=zq a1;have aQ:=zq aF;have au:=zq (And.intro aA aC);have aP:=zq D;have HQ:=zq hQ;have pa:=zab q.o.pol 0;have pb:=fun o=>zab (zaf q.o.pol o) 0;simp only [qaj,qag] at pa pb;clear D w hF hQ aE hit a1 aF aA aC ad)
      | (refine zch (g+2) (by rfl) (.tmp 77) (.tmp 80) 34 62 (.agg zfz) 11 176 rfl rfl rfl rfl kad (.slice A l.length cap) l.length cells [.int .i64 x.f0,.string x.f1,.int .i64 x.f2.f0,.string x.f2.f1,.string x.f2.f2,.slice A3 n3 c3,.slice A4 n4 c4,.slice A5 n5 c5,.slice A6 n6 c6,.int .i64 x.f2.f7,.int .i64 x.f3] kbv rfl rfl ?aU B.o ?aB ?aM ?aL ?_;(case aU=>intro u hu;simp at hu;rcases hu with rfl|rfl|rfl|rfl|rfl|rfl|rfl|rfl|rfl|rfl|rfl<;>rfl);(case aB=>have:=au.o;omega);(case aM=>have:=Y.o;simp only [maxLen];omega);(case aL=>have:=Y.o;omega);intro v1 w6 G E aD aS;have af:=zq (QInv.snoc q.o Y.o B.o aO.o av.o kca aQ.o aP.o G E aD);have I:=(E.block _ (zam q.o.pol) (fun e=>by have:=(B.o.blk e.symm).1;omega)).trans q.o.pol;have x1:=zab I 0;have x2:=zac I 0;simp only [qaj,qag] at x1;obtain ⟨A9,c9,rfl,-,-⟩:=G.form;clear G E aD aS I))
     all_goals
      have GG:=zq (show ItG toks (5*toks.length+4) res k aG (l++[x]) from .inr ⟨by rw [HQ.o];exact aV,by rw [HQ.o];exact aI.o⟩);go_wp2
      (go_roundg k;(case measure=>omega);(case rel=>exact ⟨aG,l++[x],_,(by first|exact af|exact ⟨af.o.drew⟩),GG⟩))
    have a6:isT (tk toks i) sLet=false:=(by simpa using a6);by_cases a7:isT (tk toks i) zdf=true
    ·have hw:(if (tk toks i).kind=1 then zfk (tk toks i) else none).isSome=true:=(by rw [<-aT];simp [a6,a7]);have aH:zfr toks (5*toks.length+4) l.length i=some (.bad 92 (tk toks i).place):=by
      unfold zfr;cases hk:(if (tk toks i).kind=1 then zfk (tk toks i) else none) with
      | none=>rw [hk] at hw;cases hw
      | some kd=>exact if_pos aR
     have z:res = .bad 92 (tk toks i).place:=by
      have hr:=HH.o.1;unfold zfb at hr;rw [if_neg HH.o.2.1,aH] at hr;exact (qaa hr).symm
     have aI:=zq z;have aV:(⟨i,92,(tk toks i).place⟩:RS).e≠0:=(by show (92:Int)≠0;decide);have ad:=zq (fun W' (j:RSt W' g T c toks ⟨i,92,(tk toks i).place⟩)=>zve g T c toks aW.o W' _ aV j);have aX:=zq (fun W' (j:RSt W' g T c toks ⟨i,0,0⟩)=>zdm W' g T c toks ⟨i,0,0⟩ 92 (tk toks i).place j);have aJ:=zq (fun W' (j:RSt W' g T c toks ⟨i,0,0⟩)=>(show Calls prog 32 #[.pointer (some ⟨g,0,none⟩),.string sLet] W' fun e y=>e = .returned (.bool false)/\Below W'.heap.size W' y from by have:=zbt W' g T c toks ⟨i,0,0⟩ sLet j;rw [zdy,a6] at this;exact this));have aK:=zq (fun W' (j:RSt W' g T c toks ⟨i,0,0⟩)=>(show Calls prog 32 #[.pointer (some ⟨g,0,none⟩),.string zdf] W' fun e y=>e = .returned (.bool true)/\Below W'.heap.size W' y from by have:=zbt W' g T c toks ⟨i,0,0⟩ zdf j;rw [zdy,a7] at this;exact this));obtain ⟨b3,a8⟩:∃ b,isT (tk toks i) zeu=b:=⟨_,rfl⟩;have aN:=zq (fun W' (j:RSt W' g T c toks ⟨i,0,0⟩)=>(show Calls prog 32 #[.pointer (some ⟨g,0,none⟩),.string zeu] W' fun e y=>e = .returned (.bool b3)/\Below W'.heap.size W' y from by have:=zbt W' g T c toks ⟨i,0,0⟩ zeu j;rw [zdy,a8] at this;exact this));have Z:=zq (fun n=>HX.o.drewN n);clear h8 aR aY hl hw aH z aT a6 a7 a8;go_wp2
     go_quiet (fail)
     go_wp2_with (first
      | (go_at_call 32;refine (aJ.o _ (Z.o _).st).mono ?_;rintro J w1 ⟨rfl,d⟩;have HX:=zq ((Z.o _).move ((Z.o _).st.below d) (Fr.of_below d));have m:=zab HX.o.pol 0;obtain ⟨u0,u1,u2,e0,J,U,X,e4,O⟩:=HX.o.st.look;simp only [qaj,qag] at m;clear d aJ)
      | (go_at_call 32;refine (aK.o _ HX.o.st).mono ?_;rintro U w2 ⟨rfl,d⟩;have HX:=zq (HX.o.move (HX.o.st.below d) (Fr.of_below d));have m:=zab HX.o.pol 0;obtain ⟨u0,u1,u2,e0,J,U,X,e4,O⟩:=HX.o.st.look;simp only [qaj,qag] at m;clear d aK)
      | (go_at_call 32;refine (aN.o _ HX.o.st).mono ?_;rintro X w3 ⟨rfl,d⟩;have HX:=zq (HX.o.move (HX.o.st.below d) (Fr.of_below d));have m:=zab HX.o.pol 0;obtain ⟨u0,u1,u2,e0,J,U,X,e4,O⟩:=HX.o.st.look;simp only [qaj,qag] at m;clear d aN))
     have aZ:zcc 92 (tk toks i).place ⟨i,0,0⟩=⟨i,92,(tk toks i).place⟩:=if_pos rfl;go_region_law (go_simp;go_at_call 33;refine (aX.o _ (by first|exact HX.o.st|exact HX.o.st.drew|exact HX.o.st.drewN _)).mono ?_;rintro e9 w9 ⟨rfl,w,hF⟩;rw [aZ] at w;have HX:=zq (HX.o.move w kag);have m:=zab HX.o.pol 0;simp only [qaj,qag] at m;clear w hF);(all_goals go_wp2);all_goals go_region_law (first
      | (go_simp;go_at_call 34;refine (ad.o _ kaw).mono ?_;rintro O w5 ⟨x,ts,M,aG,rfl,D,w,hF,hQ⟩;obtain ⟨v3,v4,v5,v6,rfl,-,-,-,-,A3,n3,c3,A4,n4,c4,A5,n5,c5,A6,n6,c6,rfl,rfl,rfl,rfl⟩:=zax D;have q:=zq (HX.o.move w kag);obtain ⟨cells,L0,aE,hit,a1,aF,aA,aC⟩:=HX.o.rows (W2:=w5) kag;have B:=zq aE;have aO:=zq hit;have av:=zq a1;have aQ:=zq aF;have au:=zq (And.intro aA aC);have aP:=zq D;have HQ:=zq hQ;have pa:=zab q.o.pol 0;have pb:=fun o=>zab (zaf q.o.pol o) 0;simp only [qaj,qag] at pa pb;clear D w hF hQ aE hit a1 aF aA aC ad)
      | (refine zch (g+2) (by rfl) (.tmp 77) (.tmp 80) 34 62 (.agg zfz) 11 176 rfl rfl rfl rfl kad (.slice A l.length cap) l.length cells [.int .i64 x.f0,.string x.f1,.int .i64 x.f2.f0,.string x.f2.f1,.string x.f2.f2,.slice A3 n3 c3,.slice A4 n4 c4,.slice A5 n5 c5,.slice A6 n6 c6,.int .i64 x.f2.f7,.int .i64 x.f3] kbv rfl rfl ?aU B.o ?aB ?aM ?aL ?_;(case aU=>intro u hu;simp at hu;rcases hu with rfl|rfl|rfl|rfl|rfl|rfl|rfl|rfl|rfl|rfl|rfl<;>rfl);(case aB=>have:=au.o;omega);(case aM=>have:=Y.o;simp only [maxLen];omega);(case aL=>have:=Y.o;omega);intro v1 w6 G E aD aS;have af:=zq (QInv.snoc q.o Y.o B.o aO.o av.o kca aQ.o aP.o G E aD);have I:=(E.block _ (zam q.o.pol) (fun e=>by have:=(B.o.blk e.symm).1;omega)).trans q.o.pol;have x1:=zab I 0;have x2:=zac I 0;simp only [qaj,qag] at x1;obtain ⟨A9,c9,rfl,-,-⟩:=G.form;clear G E aD aS I))
     all_goals
      have GG:=zq (show ItG toks (5*toks.length+4) res k aG (l++[x]) from .inr ⟨by rw [HQ.o];exact aV,by rw [HQ.o];exact aI.o⟩);go_wp2
      (go_roundg k;(case measure=>omega);(case rel=>exact ⟨aG,l++[x],_,(by first|exact af|exact ⟨af.o.drew⟩),GG⟩))
    have a7:isT (tk toks i) zdf=false:=(by simpa using a7);by_cases a8:isT (tk toks i) zeu=true
    ·have hw:(if (tk toks i).kind=1 then zfk (tk toks i) else none).isSome=true:=(by rw [<-aT];simp [a6,a7,a8]);have aH:zfr toks (5*toks.length+4) l.length i=some (.bad 92 (tk toks i).place):=by
      unfold zfr;cases hk:(if (tk toks i).kind=1 then zfk (tk toks i) else none) with
      | none=>rw [hk] at hw;cases hw
      | some kd=>exact if_pos aR
     have z:res = .bad 92 (tk toks i).place:=by
      have hr:=HH.o.1;unfold zfb at hr;rw [if_neg HH.o.2.1,aH] at hr;exact (qaa hr).symm
     have aI:=zq z;have aV:(⟨i,92,(tk toks i).place⟩:RS).e≠0:=(by show (92:Int)≠0;decide);have ad:=zq (fun W' (j:RSt W' g T c toks ⟨i,92,(tk toks i).place⟩)=>zve g T c toks aW.o W' _ aV j);have aX:=zq (fun W' (j:RSt W' g T c toks ⟨i,0,0⟩)=>zdm W' g T c toks ⟨i,0,0⟩ 92 (tk toks i).place j);have aJ:=zq (fun W' (j:RSt W' g T c toks ⟨i,0,0⟩)=>(show Calls prog 32 #[.pointer (some ⟨g,0,none⟩),.string sLet] W' fun e y=>e = .returned (.bool false)/\Below W'.heap.size W' y from by have:=zbt W' g T c toks ⟨i,0,0⟩ sLet j;rw [zdy,a6] at this;exact this));have aK:=zq (fun W' (j:RSt W' g T c toks ⟨i,0,0⟩)=>(show Calls prog 32 #[.pointer (some ⟨g,0,none⟩),.string zdf] W' fun e y=>e = .returned (.bool false)/\Below W'.heap.size W' y from by have:=zbt W' g T c toks ⟨i,0,0⟩ zdf j;rw [zdy,a7] at this;exact this));have aN:=zq (fun W' (j:RSt W' g T c toks ⟨i,0,0⟩)=>(show Calls prog 32 #[.pointer (some ⟨g,0,none⟩),.string zeu] W' fun e y=>e = .returned (.bool true)/\Below W'.heap.size W' y from by have:=zbt W' g T c toks ⟨i,0,0⟩ zeu j;rw [zdy,a8] at this;exact this));have Z:=zq (fun n=>HX.o.drewN n);clear h8 aR aY hl hw aH z aT a6 a7 a8;go_wp2
     go_quiet (fail)
     go_wp2_with (first
      | (go_at_call 32;refine (aJ.o _ (Z.o _).st).mono ?_;rintro J w1 ⟨rfl,d⟩;have HX:=zq ((Z.o _).move ((Z.o _).st.below d) (Fr.of_below d));have m:=zab HX.o.pol 0;obtain ⟨u0,u1,u2,e0,J,U,X,e4,O⟩:=HX.o.st.look;simp only [qaj,qag] at m;clear d aJ)
      | (go_at_call 32;refine (aK.o _ HX.o.st).mono ?_;rintro U w2 ⟨rfl,d⟩;have HX:=zq (HX.o.move (HX.o.st.below d) (Fr.of_below d));have m:=zab HX.o.pol 0;obtain ⟨u0,u1,u2,e0,J,U,X,e4,O⟩:=HX.o.st.look;simp only [qaj,qag] at m;clear d aK)
      | (go_at_call 32;refine (aN.o _ HX.o.st).mono ?_;rintro X w3 ⟨rfl,d⟩;have HX:=zq (HX.o.move (HX.o.st.below d) (Fr.of_below d));have m:=zab HX.o.pol 0;obtain ⟨u0,u1,u2,e0,J,U,X,e4,O⟩:=HX.o.st.look;simp only [qaj,qag] at m;clear d aN))
     have aZ:zcc 92 (tk toks i).place ⟨i,0,0⟩=⟨i,92,(tk toks i).place⟩:=if_pos rfl;go_region_law (go_simp;go_at_call 33;refine (aX.o _ (by first|exact HX.o.st|exact HX.o.st.drew|exact HX.o.st.drewN _)).mono ?_;rintro e9 w9 ⟨rfl,w,hF⟩;rw [aZ] at w;have HX:=zq (HX.o.move w kag);have m:=zab HX.o.pol 0;simp only [qaj,qag] at m;clear w hF);(all_goals go_wp2);all_goals go_region_law (first
      | (go_simp;go_at_call 34;refine (ad.o _ kaw).mono ?_;rintro O w5 ⟨x,ts,M,aG,rfl,D,w,hF,hQ⟩;obtain ⟨v3,v4,v5,v6,rfl,-,-,-,-,A3,n3,c3,A4,n4,c4,A5,n5,c5,A6,n6,c6,rfl,rfl,rfl,rfl⟩:=zax D;have q:=zq (HX.o.move w kag);obtain ⟨cells,L0,aE,hit,a1,aF,aA,aC⟩:=HX.o.rows (W2:=w5) kag;have B:=zq aE;have aO:=zq hit;have av:=zq a1;have aQ:=zq aF;have au:=zq (And.intro aA aC);have aP:=zq D;have HQ:=zq hQ;have pa:=zab q.o.pol 0;have pb:=fun o=>zab (zaf q.o.pol o) 0;simp only [qaj,qag] at pa pb;clear D w hF hQ aE hit a1 aF aA aC ad)
      | (refine zch (g+2) (by rfl) (.tmp 77) (.tmp 80) 34 62 (.agg zfz) 11 176 rfl rfl rfl rfl kad (.slice A l.length cap) l.length cells [.int .i64 x.f0,.string x.f1,.int .i64 x.f2.f0,.string x.f2.f1,.string x.f2.f2,.slice A3 n3 c3,.slice A4 n4 c4,.slice A5 n5 c5,.slice A6 n6 c6,.int .i64 x.f2.f7,.int .i64 x.f3] kbv rfl rfl ?aU B.o ?aB ?aM ?aL ?_;(case aU=>intro u hu;simp at hu;rcases hu with rfl|rfl|rfl|rfl|rfl|rfl|rfl|rfl|rfl|rfl|rfl<;>rfl);(case aB=>have:=au.o;omega);(case aM=>have:=Y.o;simp only [maxLen];omega);(case aL=>have:=Y.o;omega);intro v1 w6 G E aD aS;have af:=zq (QInv.snoc q.o Y.o B.o aO.o av.o kca aQ.o aP.o G E aD);have I:=(E.block _ (zam q.o.pol) (fun e=>by have:=(B.o.blk e.symm).1;omega)).trans q.o.pol;have x1:=zab I 0;have x2:=zac I 0;simp only [qaj,qag] at x1;obtain ⟨A9,c9,rfl,-,-⟩:=G.form;clear G E aD aS I))
     all_goals
      have GG:=zq (show ItG toks (5*toks.length+4) res k aG (l++[x]) from .inr ⟨by rw [HQ.o];exact aV,by rw [HQ.o];exact aI.o⟩);go_wp2
      (go_roundg k;(case measure=>omega);(case rel=>exact ⟨aG,l++[x],_,(by first|exact af|exact ⟨af.o.drew⟩),GG⟩))
    have a8:isT (tk toks i) zeu=false:=(by simpa using a8);have hw:(if (tk toks i).kind=1 then zfk (tk toks i) else none)=none:=by
     cases hk:(if (tk toks i).kind=1 then zfk (tk toks i) else none) with
     | none=>rfl
     | some kd=>rw [hk,a6,a7,a8] at aT;cases aT
    have aH:∀ n,zfr toks (5*toks.length+4) n i=some (.bad 90 (tk toks i).place):=fun n=>by
     unfold zfr;rw [hw]
    have z:res = .bad 90 (tk toks i).place:=by
     have hr:=HH.o.1;unfold zfb at hr;rw [if_neg HH.o.2.1,aH] at hr;exact (qaa hr).symm
    have aI:=zq z;have ad:=zq (fun W' (j:RSt W' g T c toks ⟨i,0,0⟩)=>zux g T c toks aW.o bd.o (5*toks.length+4) 0 i 0 _ (qad _) kad (aH 0) W' j);have aJ:=zq (fun W' (j:RSt W' g T c toks ⟨i,0,0⟩)=>(show Calls prog 32 #[.pointer (some ⟨g,0,none⟩),.string sLet] W' fun e y=>e = .returned (.bool false)/\Below W'.heap.size W' y from by have:=zbt W' g T c toks ⟨i,0,0⟩ sLet j;rw [zdy,a6] at this;exact this));have aK:=zq (fun W' (j:RSt W' g T c toks ⟨i,0,0⟩)=>(show Calls prog 32 #[.pointer (some ⟨g,0,none⟩),.string zdf] W' fun e y=>e = .returned (.bool false)/\Below W'.heap.size W' y from by have:=zbt W' g T c toks ⟨i,0,0⟩ zdf j;rw [zdy,a7] at this;exact this));have aN:=zq (fun W' (j:RSt W' g T c toks ⟨i,0,0⟩)=>(show Calls prog 32 #[.pointer (some ⟨g,0,none⟩),.string zeu] W' fun e y=>e = .returned (.bool false)/\Below W'.heap.size W' y from by have:=zbt W' g T c toks ⟨i,0,0⟩ zeu j;rw [zdy,a8] at this;exact this));have Z:=zq (fun n=>HX.o.drewN n);clear h8 aR aY hl hw aH z aT a6 a7 a8;go_wp2
    go_quiet (fail)
    go_wp2_with (first
     | (go_at_call 32;refine (aJ.o _ (Z.o _).st).mono ?_;rintro J w1 ⟨rfl,d⟩;have HX:=zq ((Z.o _).move ((Z.o _).st.below d) (Fr.of_below d));have m:=zab HX.o.pol 0;obtain ⟨u0,u1,u2,e0,J,U,X,e4,O⟩:=HX.o.st.look;simp only [qaj,qag] at m;clear d aJ)
     | (go_at_call 32;refine (aK.o _ HX.o.st).mono ?_;rintro U w2 ⟨rfl,d⟩;have HX:=zq (HX.o.move (HX.o.st.below d) (Fr.of_below d));have m:=zab HX.o.pol 0;obtain ⟨u0,u1,u2,e0,J,U,X,e4,O⟩:=HX.o.st.look;simp only [qaj,qag] at m;clear d aK)
     | (go_at_call 32;refine (aN.o _ HX.o.st).mono ?_;rintro X w3 ⟨rfl,d⟩;have HX:=zq (HX.o.move (HX.o.st.below d) (Fr.of_below d));have m:=zab HX.o.pol 0;obtain ⟨u0,u1,u2,e0,J,U,X,e4,O⟩:=HX.o.st.look;simp only [qaj,qag] at m;clear d aN))
    all_goals go_region_law (first
     | (go_simp;go_at_call 34;refine (ad.o _ kaw).mono ?_;rintro O w5 ⟨x,ts,M,aG,rfl,D,w,hF,hQ⟩;obtain ⟨v3,v4,v5,v6,rfl,-,-,-,-,A3,n3,c3,A4,n4,c4,A5,n5,c5,A6,n6,c6,rfl,rfl,rfl,rfl⟩:=zax D;have q:=zq (HX.o.move w kag);obtain ⟨cells,L0,aE,hit,a1,aF,aA,aC⟩:=HX.o.rows (W2:=w5) kag;have B:=zq aE;have aO:=zq hit;have av:=zq a1;have aQ:=zq aF;have au:=zq (And.intro aA aC);have aP:=zq D;have HQ:=zq hQ;have pa:=zab q.o.pol 0;have pb:=fun o=>zab (zaf q.o.pol o) 0;simp only [qaj,qag] at pa pb;clear D w hF hQ aE hit a1 aF aA aC ad)
     | (refine zch (g+2) (by rfl) (.tmp 77) (.tmp 80) 34 62 (.agg zfz) 11 176 rfl rfl rfl rfl kad (.slice A l.length cap) l.length cells [.int .i64 x.f0,.string x.f1,.int .i64 x.f2.f0,.string x.f2.f1,.string x.f2.f2,.slice A3 n3 c3,.slice A4 n4 c4,.slice A5 n5 c5,.slice A6 n6 c6,.int .i64 x.f2.f7,.int .i64 x.f3] kbv rfl rfl ?aU B.o ?aB ?aM ?aL ?_;(case aU=>intro u hu;simp at hu;rcases hu with rfl|rfl|rfl|rfl|rfl|rfl|rfl|rfl|rfl|rfl|rfl<;>rfl);(case aB=>have:=au.o;omega);(case aM=>have:=Y.o;simp only [maxLen];omega);(case aL=>have:=Y.o;omega);intro v1 w6 G E aD aS;have af:=zq (QInv.snoc q.o Y.o B.o aO.o av.o kca aQ.o aP.o G E aD);have I:=(E.block _ (zam q.o.pol) (fun e=>by have:=(B.o.blk e.symm).1;omega)).trans q.o.pol;have x1:=zab I 0;have x2:=zac I 0;simp only [qaj,qag] at x1;obtain ⟨A9,c9,rfl,-,-⟩:=G.form;clear G E aD aS I))
    all_goals
     have GG:=zq (show ItG toks (5*toks.length+4) res k aG (l++[x]) from .inr (by obtain ⟨q1,q2,q3⟩:=HQ.o;exact ⟨by rw [q1];exact q3,by rw [q1,q2];exact aI.o⟩));go_wp2
     (go_roundg k;(case measure=>omega);(case rel=>exact ⟨aG,l++[x],_,(by first|exact af|exact ⟨af.o.drew⟩),GG⟩))
   have hA:((l.length:Int)==100)=false:=qah.2 kab;have Y:=zq hl;obtain ⟨r,bq,-⟩:=zmb aW.o (5*toks.length+4) l.length i b5 (qad _);have bz:=zq (And.intro bq (show l.length<100 by omega));have ad:=zq (fun W' (j:RSt W' g T c toks ⟨i,0,0⟩)=>zux g T c toks aW.o bd.o (5*toks.length+4) l.length i 0 r (qad _) aR bq W' j);clear h8 bq aR aY hl;go_wp2
   go_quiet (fail)
   go_wp2;go_region_law (first
    | (go_simp;go_at_call 34;refine (ad.o _ kaw).mono ?_;rintro O w5 ⟨x,ts,M,aG,rfl,D,w,hF,hQ⟩;obtain ⟨v3,v4,v5,v6,rfl,-,-,-,-,A3,n3,c3,A4,n4,c4,A5,n5,c5,A6,n6,c6,rfl,rfl,rfl,rfl⟩:=zax D;have q:=zq (HX.o.move w kag);obtain ⟨cells,L0,aE,hit,a1,aF,aA,aC⟩:=HX.o.rows (W2:=w5) kag;have B:=zq aE;have aO:=zq hit;have av:=zq a1;have aQ:=zq aF;have au:=zq (And.intro aA aC);have aP:=zq D;have HQ:=zq hQ;have pa:=zab q.o.pol 0;have pb:=fun o=>zab (zaf q.o.pol o) 0;simp only [qaj,qag] at pa pb;clear D w hF hQ aE hit a1 aF aA aC ad)
    | (refine zch (g+2) (by rfl) (.tmp 77) (.tmp 80) 34 62 (.agg zfz) 11 176 rfl rfl rfl rfl kad (.slice A l.length cap) l.length cells [.int .i64 x.f0,.string x.f1,.int .i64 x.f2.f0,.string x.f2.f1,.string x.f2.f2,.slice A3 n3 c3,.slice A4 n4 c4,.slice A5 n5 c5,.slice A6 n6 c6,.int .i64 x.f2.f7,.int .i64 x.f3] rfl rfl rfl ?aU B.o ?aB ?aM ?aL ?_;(case aU=>intro u hu;simp at hu;rcases hu with rfl|rfl|rfl|rfl|rfl|rfl|rfl|rfl|rfl|rfl|rfl<;>rfl);(case aB=>have:=au.o;omega);(case aM=>have:=Y.o;simp only [maxLen];omega);(case aL=>have:=Y.o;omega);intro v1 w6 G E aD aS;have af:=zq (QInv.snoc q.o Y.o B.o aO.o av.o kca aQ.o aP.o G E aD);have I:=(E.block _ (zam q.o.pol) (fun e=>by have:=(B.o.blk e.symm).1;omega)).trans q.o.pol;have x1:=zab I 0;have x2:=zac I 0;simp only [qaj,qag] at x1;obtain ⟨A9,c9,rfl,-,-⟩:=G.form;clear G E aD aS I))
   all_goals
    have GG:=zq (items_step bz.o.2 bz.o.1 HH.o.1 HH.o.2.1 HQ.o);go_wp2
    (go_roundg k;(case measure=>omega);(case rel=>exact ⟨aG,l++[x],_,(by first|exact af|exact ⟨af.o.drew⟩),GG⟩))
  have bA:(st.e==0)=false:=qah.2 he;have bB:(st.e !=0)=true:=qbc.2 he;have r0:=zab HX.o.res 0;have rf:=zac HX.o.res 0;have s3:=HX.o.st.facts.2.2.2.1;have aI:=zq hr;simp only [qaj,qag] at r0;clear he hr HG;go_wp2
  go_quiet (fail)
  go_wp2;go_region;all_goals (try go_wp2)
  all_goals
   refine qaf (zbh rfl _ _ W.heap.size 36 #[.slice none 0 0] (0,0) _ rfl (by first|exact zan (cs':=#[.slice none 0 0]) HX.o.res 0 _ rfl|exact zan (cs':=#[.slice none 0 0]) (HX.o.drewN _).res 0 _ rfl) underlying36 rfl kae) rfl ?_;rw [aI.o];refine ⟨_,rfl,?_,?_⟩
   ·exact PolR.nil _ _
   first|exact (HX.o.bel).setCell (p:=⟨W.heap.size,0,none⟩) (qad _) _|exact ((HX.o.drewN _).bel).setCell (p:=⟨W.heap.size,0,none⟩) (qad _) _|exact (((HX.o.drewN _).bel).setCell (p:=⟨W.heap.size,0,none⟩) (qad _) _).drew
end
section
theorem refparse_scan (s:ByteArray) (W:World) (hf:(zcr s).2.1≠0):Calls prog 12 #[.string s] W (RefQ W [] (zcr s).2.1 (zcr s).2.2):=by
 obtain ⟨⟨L,e,p⟩,j⟩:∃ x,zcr s=x:=⟨_,rfl⟩;rw [j] at hf ⊢;dsimp only at hf ⊢;have n:lychgateref08_Scan.f 60000 s=some (L,e,p):=by rw [zlq s 60000 (qad _),j]
 have u:=zq (lychgateref08_Scan.calls 60000 s L e p (W.alloc (.cells #[.slice none 0 0] 36)) n);have k:=zq (zad (qan W.heap.size W) (.cells #[.slice none 0 0] 36));have q:=zq (qab W (.cells #[.slice none 0 0] 36));have hE:(e !=0)=true:=qbc.2 hf;clear hf j n;go_enter func12,ntmps12;go_wp2_with (go_at_call 31;refine u.o.mono ?_;rintro y w1 ⟨v0,rfl,m,d⟩;obtain ⟨w,z,rfl⟩:=Kd.R_slice m;have am:=zq (zbb k.o k.o.size d);have b:=zaq q.o d;have r:=zq b;have r0:=zab b 0;have A:=zac b 0;simp only [qaj,qag] at r0;clear m d b);refine qaf (zbh rfl _ _ W.heap.size 36 #[.slice none 0 0] (0,0) _ rfl (zan (cs':=#[.slice none 0 0]) r.o 0 _ rfl) underlying36 rfl kae) rfl ?_;exact ⟨_,rfl,PolR.nil _ _,am.o.setCell (p:=⟨W.heap.size,0,none⟩) (qad _) _⟩
theorem zih (s:ByteArray) (W:World):Calls prog 12 #[.string s] W (RefQ W (zfa s).1 (zfa s).2.1 (zfa s).2.2):=by
 unfold zfa;by_cases hf:(zcr s).2.1=0
 ·rw [if_neg (fun h=>h hf)];obtain ⟨r,q,b,_⟩:=zgk s hf;obtain ⟨res,d⟩:=zje (zme b) (by rw [b];simp);have h:=refparse_items s W hf res d;rw [d];cases res<;>exact h
 rw [if_pos hf];exact refparse_scan s W hf
end
section
theorem zrr (s:ByteArray):wtI (zfa s).1<=8001:=by
 unfold zfa;by_cases hf:(zcr s).2.1=0
 ·rw [if_neg (fun h=>h hf)];obtain ⟨r,q,d,o⟩:=zgk s hf;have m:=zme d;obtain ⟨res,h,n⟩:=zkm m (5*((zcr s).1.map zik).length+4) (qad _) (((zcr s).1.map zik).length+1) 0 [] (by rw [d];simp) kab;have b:zio ((zcr s).1.map zik)=some res:=h;rw [b];cases res with
  | ok l j=>
   have h1:=policyP_w _ b;have k:=(n l j rfl).2;rw [qci] at k;show wtI l<=8001;omega
  | bad e p=>show wtI []<=8001;simp [wtI]
 rw [if_pos hf];simp [wtI]
def RI (W:World) (b:Nat) (l:List S62) (v:Value):Prop:=∃ cells L,Row W b 62 11 v l.length cells/\zex W b l cells L
theorem Pol.ri {W:World} {b:Nat} {l:List S62} {v:Value} (h:Pol W b l v):RI W b l v:=by
 obtain ⟨cells,L,h1,d,-,-⟩:=h;exact ⟨cells,L,h1,d⟩
theorem PolR.ri {W:World} {b:Nat} {l:List S62} {v:Value} (h:PolR W b l v):RI W b l v:=by
 obtain ⟨cells,L,h1,d,-⟩:=h;exact ⟨cells,L,h1,d⟩
theorem RI.below {W W1:World} {b:Nat} {l:List S62} {v:Value} (h:RI W b l v) (e:Below W.heap.size W W1):RI W1 b l v:=by
 obtain ⟨cells,L,h1,d⟩:=h;exact ⟨cells,L,h1.frame fun g hg=>e.block g (h1.blk hg).2.1,d.frame fun g hg=>e.block g (d.lt g hg).2⟩
theorem RI.form {W:World} {b:Nat} {l:List S62} {v:Value} (h:RI W b l v):∃ A c,v = .slice A l.length c:=by
 obtain ⟨cells,L,h1,d⟩:=h;obtain ⟨A,c,e,-⟩:=h1.form;exact ⟨A,c,e⟩
theorem zst {w:World} {b b':Nat} {l:List S62} {v d:Value} (h:RI w b l v) (k:RI w b' l d) (p:wtI l<=8001) :
  Calls prog 13 #[.agg #[v],.agg #[d]] w fun e w'=>e = .returned (.bool true)/\Below w.heap.size w w':=by
 obtain ⟨cells,L,h1,m⟩:=h;obtain ⟨cells',j,n,o⟩:=k;exact same_true w b b' l v d cells cells' L j h1 m n o p
end
section
def Sh (M:Nat):Nat->List Value->Nat->Prop:=fun _ _ n=>n<=M
structure BInv (W:World) (b B gl:Nat) (s t:ByteArray) (it kd nm sp pr:List Value) (wr:World):Prop where
 bel:Below b W wr
 sz:b<=wr.heap.size
 bk:BkS wr b B it kd nm sp pr
 fams:Fams wr b it kd nm sp pr (Sh 8001) (Sh 8001) (Sh 8001) (Sh 8001) (Sh 8001)
 l2:nm.length=kd.length
 l3:sp.length=kd.length
 l4:pr.length=kd.length
 lst:wr.heap[gl]?=some (.cells #[.string s,.string t,.string s] 9 (0,0))
theorem BInv.below {W w1 e:World} {b B gl:Nat} {s t:ByteArray} {it kd nm sp pr:List Value} (h:BInv W b B gl s t it kd nm sp pr w1) (d:Below w1.heap.size w1 e):BInv W b B gl s t it kd nm sp pr e:=
 ⟨h.bel.trans (d.mono h.sz),qas h.sz d.size,h.bk.tfr (ts:=[]) (TFr.of_below d) (fun t _=>by simp),h.fams.tfr (ts:=[]) (TFr.of_below d) (fun t _=>by simp),h.l2,h.l3,h.l4,(d.block _ (zam h.lst)).trans h.lst⟩
theorem BInv.put {W w1:World} {b B gl g:Nat} {s t:ByteArray} {it kd nm sp pr:List Value} {cs:Array Value} (h:BInv W b B gl s t it kd nm sp pr w1) (hg:w1.heap[g]?=some (.cells cs 36 (0,0))) (d:b<=g) (v:Value):BInv W b B gl s t it kd nm sp pr (w1.setCell ⟨g,0,none⟩ v):=by
 have hf:TFr w1 (w1.setCell ⟨g,0,none⟩ v) [36]:=(TFr.refl w1 _).setCell hg (by simp) v;exact ⟨h.bel.setCell d v,qas h.sz hf.size,h.bk.tfr hf kad,h.fams.tfr hf kad,h.l2,h.l3,h.l4,hf.blk h.lst kad⟩
theorem zpr {W:World} {b ty sz:Nat} {rows:List Value} {P:Nat->List Value->Nat->Prop} (h:Fam W b ty sz rows P):∀ X∈rows,∀ g,X.ownBlock=some g->g<W.heap.size:=fun X d g hg=>by
 obtain ⟨j,e⟩:=List.getElem?_of_mem d;obtain ⟨n,xs,h1,-⟩:=h.row j X e;exact (h1.blk hg).2.1
theorem Fam.more {W:World} {b c ty sz M w:Nat} {l r:List Value} {L:List Nat} (p:Fam W b ty sz l (Sh M)) (q:∀ X∈l,∀ g,X.ownBlock=some g->g<c) (o:b<=c) (s:w<=M)
  (hr:∀ X∈r,∃ n xs,Row W c ty sz X n xs/\n<=w) (hs:(r.flatMap Blk).Sublist L) (k:L.Nodup) (m:∀ g∈L,c<=g):Fam W b ty sz (l++r) (Sh M):=by
 refine p.append q (fun X d=>?_) (zmt.of_nodup (hs.nodup k)) fun X d g hg=>m g (hs.subset (List.mem_flatMap.2 ⟨X,d,zqt.2 hg⟩));obtain ⟨n,xs,h1,e⟩:=hr X d;exact ⟨n,xs,h1.lower o,fun j=>qas e s⟩
theorem BInv.more {W w1 u:World} {b B gl c:Nat} {s t:ByteArray} {it kd nm sp pr cells:List Value} {l:List S62} {v:Value} {L:List Nat} (h:BInv W b B gl s t it kd nm sp pr w1) (k:b<=c)
  (m:∀ X,(X∈it\/X∈kd\/X∈nm\/X∈sp\/X∈pr)->∀ g,X.ownBlock=some g->g<c) (r:Row w1 c 62 11 v l.length cells) (y:zex w1 c l cells L) (o:L.Nodup) (n:wtI l<=8001)
  (x:PolB w1 b c B it kd nm sp pr v (wtI l) L u):∃ kd' nm' sp' pr',kd'.length<=wtI l/\BInv W b B gl s t (it++[v]) (kd++kd') (nm++nm') (sp++sp') (pr++pr') u:=by
 obtain ⟨h1,q,kd',nm',sp',pr',w,e⟩:=x;have hf:=h.fams.tfr q kad;have p:∀ g∈L,c<=g:=fun g hg=>(y.lt g hg).1;refine ⟨kd',nm',sp',pr',e.len,h.bel.trans h1,qas h.sz h1.size,w,⟨?_,?_,?_,?_,?_⟩,?_,?_,?_,q.blk h.lst kad⟩
 ·have z:=zhq l;refine hf.fi.append (fun X d=>m X (.inl d)) (fun X d=>?_) (zmt.one v) fun X d g hg=>?_
  ·rw [qbk.1 d];exact ⟨_,_,(r.tfr q kad).lower k,fun j=>qas z n⟩
  rw [qbk.1 d] at hg;exact (r.blk hg).1
 ·exact hf.fk.more (fun X d=>m X (.inr (.inl d))) k n e.r1 e.b1 o p
 ·exact hf.fn.more (fun X d=>m X (.inr (.inr (.inl d)))) k n e.r2 e.b2 o p
 ·exact hf.fs.more (fun X d=>m X (.inr (.inr (.inr (.inl d))))) k n e.r3 e.b3 o p
 ·exact hf.fp.more (fun X d=>m X (.inr (.inr (.inr (.inr d))))) k n e.r4 e.b4 o p
 ·rw [qal,qal,h.l2,e.l2]
 ·rw [qal,qal,h.l3,e.l3]
 rw [qal,qal,h.l4,e.l4]
theorem BInv.low {W w1:World} {b B gl:Nat} {s t:ByteArray} {it kd nm sp pr:List Value} (h:BInv W b B gl s t it kd nm sp pr w1):∀ X,(X∈it\/X∈kd\/X∈nm\/X∈sp\/X∈pr)->∀ g,X.ownBlock=some g->g<w1.heap.size:=fun X d g hg=>by
 rcases d with d|d|d|d|d
 ·exact zpr h.fams.fi X d g hg
 ·exact zpr h.fams.fk X d g hg
 ·exact zpr h.fams.fn X d g hg
 ·exact zpr h.fams.fs X d g hg
 exact zpr h.fams.fp X d g hg
theorem BInv.ready {W w1:World} {b B gl:Nat} {s t:ByteArray} {it kd nm sp pr:List Value} (mb:Nat->ByteArray) (h:BInv W b B gl s t it kd nm sp pr w1):MSt w1 b B it kd nm sp pr (PM 8001 11 mkI 0 0) (PM 8001 8 mkI 0 0) (PM 8001 1 (mkS mb) 0 0) (PM 8001 2 mkI 0 0) (PM 8001 2 mkI 0 0) w1:=
 ⟨qan _ _,h.sz,h.bk,⟨h.fams.fi.mark0 mkI,h.fams.fk.mark0 mkI,h.fams.fn.mark0 (mkS mb),h.fams.fs.mark0 mkI,h.fams.fp.mark0 mkI⟩⟩
def zug (i:Nat):ByteArray:=(lychgatelaw09_mark.f (i:Int)).getD ⟨#[]⟩
theorem mark_said (i:Nat) (W:World):Calls prog 38 #[.int .i64 i] W fun e W'=>e = .returned (.string (zug i))/\Below W.heap.size W W':=by
 have h:∃ r,lychgatelaw09_mark.f (i:Int)=some r:=by
  unfold lychgatelaw09_mark.f;rw [qam,if_pos (by simp [strOfNums,ByteArray.size])];exact ⟨_,rfl⟩
 obtain ⟨r,hr⟩:=h;unfold zug;rw [hr];exact lychgatelaw09_mark.calls (i:Int) r W hr
theorem zex.tfr {W W1:World} {b:Nat} {ts:List Nat} (hf:TFr W W1 ts) (ht:∀ t∈[60,9,68,47],t∉ts):∀ {l:List S62} {cs:List Value} {L:List Nat},zex W b l cs L->zex W1 b l cs L
 | [],_,_,h=>h
 | _::_,_,_,⟨t,k,M,N,h1,d,e,j⟩=>⟨t,k,M,N,h1.tfr hf ht,zex.tfr hf ht d,e,j⟩
theorem RI.tfr {W W1:World} {b:Nat} {ts:List Nat} {l:List S62} {v:Value} (h:RI W b l v) (hf:TFr W W1 ts) (ht:∀ t∈[62,60,9,68,47],t∉ts):RI W1 b l v:=by
 obtain ⟨cells,L,h1,d⟩:=h;exact ⟨cells,L,h1.tfr hf (ht _ (by simp)),d.tfr hf fun t h=>ht t (qch _ h)⟩
theorem Pol.tfr {W W1:World} {b:Nat} {ts:List Nat} {l:List S62} {v:Value} (h:Pol W b l v) (hf:TFr W W1 ts) (ht:∀ t∈[62,60,9,68,47],t∉ts):Pol W1 b l v:=by
 obtain ⟨cells,L,h1,d,e,j⟩:=h;exact ⟨cells,L,h1.tfr hf (ht _ (by simp)),d.tfr hf fun t h=>ht t (qch _ h),e,j⟩
theorem Pol.below {W W1:World} {b:Nat} {l:List S62} {v:Value} (h:Pol W b l v) (d:Below W.heap.size W W1):Pol W1 b l v:=h.tfr (ts:=[]) (TFr.of_below d) (fun t _=>by simp)
theorem zpc {W w1:World} {b B gl c:Nat} {s t:ByteArray} {it kd nm sp pr:List Value} {l:List S62} {v:Value} (h:BInv W b B gl s t it kd nm sp pr w1) (p:b<=c)
  (q:∀ X,(X∈it\/X∈kd\/X∈nm\/X∈sp\/X∈pr)->∀ g,X.ownBlock=some g->g<c) (o:Pol w1 c l v) (m:wtI l<=8001) (hit:it.length<=1000) (x:kd.length<=50000) :
  Calls prog 14 #[.pointer (some ⟨B,0,none⟩),.agg #[v]] w1 fun e d=>e = .returned (.tuple #[])/\TFr w1 d zco/\∃ kd' nm' sp' pr',kd'.length<=8001/\BInv W b B gl s t (it++[v]) (kd++kd') (nm++nm') (sp++sp') (pr++pr') d:=by
 obtain ⟨cells,L,h1,j,n,w⟩:=o;refine (zcp w1 b c B it kd nm sp pr l v cells L h1 j h.bk h.sz hit kab h.l2 h.l3 h.l4).mono ?_;rintro e d ⟨rfl,k⟩;obtain ⟨kd',nm',sp',pr',r,u⟩:=h.more p q h1 j n m k;exact ⟨rfl,k.2.1,kd',nm',sp',pr',qas r m,u⟩
theorem BInv.start (W:World) (s t:ByteArray):BInv W W.heap.size (W.heap.size+1) W.heap.size s t [] [] [] [] [] (((W.alloc (.cells #[.string s,.string t,.string s] 9)).alloc (.cells #[.slice none 0 0,.slice none 0 0,.slice none 0 0,.slice none 0 0,.slice none 0 0] 33)).alloc (.cells #[.slice none 0 0] 36)):=by
 have b:=zaf (qab (W.alloc (.cells #[.string s,.string t,.string s] 9)) (.cells #[.slice none 0 0,.slice none 0 0,.slice none 0 0,.slice none 0 0,.slice none 0 0] 33)) (.cells #[.slice none 0 0] 36);rw [qae] at b;refine ⟨(((qan _ W).alloc (qad _) _).alloc (by simp) _).alloc kbl _,kbl,⟨_,_,_,_,_,Nat.le_succ _,b,Row.nil _ _ _ _,Row.nil _ _ _ _,Row.nil _ _ _ _,Row.nil _ _ _ _,Row.nil _ _ _ _⟩,
  ⟨Fam.nil _ _ _ _ _,Fam.nil _ _ _ _ _,Fam.nil _ _ _ _ _,Fam.nil _ _ _ _ _,Fam.nil _ _ _ _ _⟩,rfl,rfl,rfl,zaf (zaf (qab W _) _) _⟩
end
section
theorem zqy (a b:Int):∃ r,lychgatelaw09_add.f a b=some r:=by
 unfold lychgatelaw09_add.f;split<;>exact ⟨_,rfl⟩
theorem zmw (a:Int):∃ r,lychgatelaw09_thrice.f a=some r:=by
 obtain ⟨x,b⟩:=zqy a a;obtain ⟨y,d⟩:=zqy a x;exact ⟨y,by simp [lychgatelaw09_thrice.f,b,d]⟩
theorem zrg (s t x:ByteArray) (i:Nat) (h:([s,t,s]:List ByteArray)[i]?=some x):(#[Value.string s,.string t,.string s])[i]?=some (.string x):=by
 match i,h with
 | 0,h=>obtain rfl:s=x:=(by simpa using h);rfl
 | 1,h=>obtain rfl:t=x:=(by simpa using h);rfl
 | 2,h=>obtain rfl:s=x:=(by simpa using h);rfl
 | _+3,h=>simp at h
theorem three_len (s t:ByteArray):([s,t,s]:List ByteArray).length=3:=rfl
theorem first_is (s t x:ByteArray) (h:([s,t,s]:List ByteArray)[0]?=some x):x=s:=by simpa using h.symm
theorem i_eq {i:Nat} (h:i=0):((i:Int)==0)=true:=qar.2 kab
theorem i_ne {i:Nat} (h:¬i=0):((i:Int)==0)=false:=qah.2 kab
theorem i_lt {i:Nat} (h:i<3):(i:Int)<3:=kab
theorem parses_calls (s t:ByteArray) (W:World) (aU:Inv W) (hs:s.size<=140737488351232) (ht:t.size<=140737488351232) :
  Calls prog 3 #[.string s,.string t] W fun e W'=>e = .returned (.bool true)/\Below W.heap.size W W':=by
 obtain ⟨x1,ba⟩:=zqy (s.size:Int) (t.size:Int);obtain ⟨x2,bb⟩:=zmw x1;obtain ⟨x3,bc⟩:=zmw x2;have Z:=zq (fun w=>lychgatelaw09_add.calls _ _ x1 w ba);have L:=zq (fun w=>lychgatelaw09_thrice.calls _ x2 w bb);have H3:=zq (fun w=>lychgatelaw09_thrice.calls _ x3 w bc);have HI:=zq aU;clear ba bb bc aU;by_cases b6:x3>2147483647
 ·go_enter func3,ntmps3;go_wp2_with (first
   | (go_at_call 9;refine (Z.o _).mono ?_;rintro e1 w1 ⟨rfl,hd⟩;have am:=zq hd.below;clear hd)
   | (go_at_call 8;refine (L.o _).mono ?_;rintro e2 w2 ⟨rfl,hd⟩;have aj:=zq (zbb am.o am.o.size hd.below);clear hd L)
   | (go_at_call 8;refine (H3.o _).mono ?_;rintro e3 w3 ⟨rfl,hd⟩;have A:=zq (zbb aj.o aj.o.size hd.below);clear hd))
  go_ret;exact ⟨rfl,A.o⟩
 have aF:=zq (fun w (h:Below W.heap.size W w)=>awake_calls w (HI.o.below h));go_enter func3,ntmps3;go_upto_region 4 with (first
  | (go_at_call 9;refine (Z.o _).mono ?_;rintro e1 w1 ⟨rfl,hd⟩;have am:=zq hd.below;clear hd)
  | (go_at_call 8;refine (L.o _).mono ?_;rintro e2 w2 ⟨rfl,hd⟩;have aj:=zq (zbb am.o am.o.size hd.below);clear hd L)
  | (go_at_call 8;refine (H3.o _).mono ?_;rintro e3 w3 ⟨rfl,hd⟩;have A:=zq (zbb aj.o aj.o.size hd.below);clear hd)
  | (go_at_call 10;refine (aF.o _ A.o).mono ?_;rintro e4 d ⟨rfl,aW⟩;have M:=zq (zbb A.o A.o.size aW);clear aW))
 clear Z H3 aF am aj A;obtain ⟨p0,aZ⟩:∃ p0,p0=(zfa s).1:=⟨_,rfl⟩;have a7:=zq aZ;clear aZ;have aN:=zq (BInv.start d s t);have aJ:=zq (show (((d.alloc (.cells #[.string s,.string t,.string s] 9)).alloc (.cells #[.slice none 0 0,.slice none 0 0,.slice none 0 0,.slice none 0 0,.slice none 0 0] 33)).alloc (.cells #[.slice none 0 0] 36)).heap[d.heap.size+1+1]?=some (.cells #[.slice none 0 0] 36 (0,0)) from by
  have:=qab ((d.alloc (.cells #[.string s,.string t,.string s] 9)).alloc (.cells #[.slice none 0 0,.slice none 0 0,.slice none 0 0,.slice none 0 0,.slice none 0 0] 33)) (.cells #[.slice none 0 0] 36);rw [qae,qae] at this;exact this)
 go_upto_region 7 with fail;go_wp2;go_loopg [9] 4 (fun f iv wr=>∃ (i:Nat) (it kd nm sp pr:List Value) (vf:Value),iv = .int .i64 i/\i<=3/\3-i<f/\it.length=i/\kd.length<=i*8001/\Zq (BInv d d.heap.size (d.heap.size+1) d.heap.size s t it kd nm sp pr wr)/\Zq (wr.heap[d.heap.size+1+1]?=some (.cells #[vf] 36 (0,0)))/\Zq (0<i->∃ c,RI wr c p0 vf));case atStart=>exact ⟨0,[],[],[],[],[],_,rfl,kab,kab,rfl,by simp,aN,aJ,⟨fun h=>absurd h kad⟩⟩
 case round=>
  clear aN aJ;obtain ⟨i,it,kd,nm,sp,pr,vf,rfl,hi,aC,hit,aD,D,G,HR⟩:=hrel;obtain ⟨f,rfl⟩:∃ f',gk=f'+1:=⟨gk-1,kab⟩;by_cases aY:i<3
  ·obtain ⟨x,hx⟩:∃ x,([s,t,s]:List ByteArray)[i]?=some x:=⟨_,qao (by rw [three_len];exact aY)⟩;have c0:=(zab D.o.lst i).trans (zrg s t x i hx);have Y:=zq (fun w (h:Below d.heap.size d w)=>zip x w (HI.o.below (zbb M.o M.o.size h)));have k:=zq (fun w=>zih x w);have u:=zq (zrr x);have HX:=zq hx;have bu:=zq (rfl:zfa x=zfa x);have b7:=i_lt aY;obtain ⟨r,hr⟩:∃ r,zfa x=r:=⟨_,rfl⟩;rw [hr] at Y k u;obtain ⟨pl,er,pp⟩:=r;have b0:=zq hr;have X:=zq (And.intro hit (And.intro aD aC));dsimp only at Y k u;clear hx hr bu hit aD aC hi;go_upto_region 15 with (first
    | (go_at_call 11;refine (Y.o _ D.o.bel).mono ?_;rintro e7 w7 ⟨v7,rfl,j,m⟩;obtain ⟨A7,c7,rfl⟩:=j.ri.form;have b:=zad m (.cells #[.slice A7 pl.length c7] 36);have aO:=zq (D.o.below b);have aK:=zq ((b.block _ (zam G.o)).trans G.o);have bw:=zq (fun h=>(HR.o h).imp fun c z=>z.below b);have bp:=zq (j.below (zad (qan _ _) (.cells #[.slice A7 pl.length c7] 36)));have aQ:=zq (qab w7 (.cells #[.slice A7 pl.length c7] 36));have b5:=(zab aO.o.lst i).trans (zrg s t x i HX.o);have b1:=zq (show d.heap.size+1+1<w7.heap.size from qce (zam G.o) m.size);clear j m b Y)
    | (go_at_call 12;refine (k.o _).mono ?_;rintro e8 w8 ⟨v8,rfl,j,m⟩;obtain ⟨A8,c8,rfl⟩:=j.ri.form;have b:=zad m (.cells #[.slice A8 pl.length c8] 36);have a8:=zq (aO.o.below b);have aL:=zq ((b.block _ (zam aK.o)).trans aK.o);have aB:=zq (fun h=>(bw.o h).imp fun c z=>z.below b);have aH:=zq (bp.o.below b);have ad:=zq (j.ri.below (zad (qan _ _) (.cells #[.slice A8 pl.length c8] 36)));have aE:=(b.block _ (zam aQ.o)).trans aQ.o;have aR:=zq aE;have y7:=zab aE 0;have y8:=zab (qab w8 (.cells #[.slice A8 pl.length c8] 36)) 0;simp only [qaj,qag] at y7 y8;clear j m b aE k)
    | (go_at_call 13;refine (zst aH.o.ri ad.o u.o).mono ?_;rintro e9 w9 ⟨rfl,n⟩;have q:=zq (a8.o.below n);have B:=zq ((n.block _ (zam aL.o)).trans aL.o);have bx:=zq (fun h=>(aB.o h).imp fun c z=>z.below n);have aI:=zq (aH.o.below n);have aS:=zq ((n.block _ (zam aR.o)).trans aR.o);clear n))
   have z9:=zab aS.o 0;simp only [qaj,qag] at z9;have aM:=zq D.o.low;have aP:=zq D.o.sz;have O:=zq (show it.length<=1000 from by have:=X.o;omega);have U:=zq (show kd.length<=50000 from by have:=X.o;omega);by_cases E:i=0
   ·have b3:=i_eq E;have HE:=zq (show p0=pl from by
     have h1:=HX.o;rw [E] at h1;rw [a7.o,<-first_is s t x h1,b0.o])
    have k0:=zab B.o 0;have k1:=zac B.o 0;simp only [qaj,qag] at k0;have br:=zq (q.o.put B.o (Nat.le_succ_of_le (Nat.le_succ _)) (.slice A7 pl.length c7));have bq:=zq (zan B.o 0 (.slice A7 pl.length c7) rfl);have b2:=zq ((TFr.refl w9 [36]).setCell (p:=0) B.o (by simp) (.slice A7 pl.length c7));have aG:=zq (aI.o.tfr b2.o kad);have b4:=zab (zav (p:=⟨d.heap.size+1+1,0,none⟩) aS.o (Nat.ne_of_gt b1.o) (.slice A7 pl.length c7)) 0;simp only [qaj,qag] at b4;clear E;go_wp2_with (go_at_call 14;refine (zpc br.o aP.o aM.o aG.o u.o O.o U.o).mono ?_;rintro aT bd ⟨rfl,y,kd',nm',sp',pr',J,I⟩;have a1:=zq I;have af:=zq (y.blk bq.o kad);have aA:=zq (aG.o.ri.tfr y kad);have a6:=zq J;clear y J I)
    go_roundg f
    case measure=>omega
    case rel=>
     have hn:=X.o;have hk:=a6.o;exact ⟨i+1,it++[.slice A7 pl.length c7],kd++kd',nm++nm',sp++sp',pr++pr',_,by first|rfl|(congr 1;unfold wrap64;omega),kab,kab,kbl,by rw [qal];omega,a1,af,⟨fun _=>⟨_,by rw [HE.o];exact aA.o⟩⟩⟩
   have b3:=i_ne E;have bz:=zq (bx.o (Nat.pos_of_ne_zero E));clear E;go_wp2_with (go_at_call 14;refine (zpc q.o aP.o aM.o aI.o u.o O.o U.o).mono ?_;rintro aT bd ⟨rfl,y,kd',nm',sp',pr',J,I⟩;have a1:=zq I;have af:=zq (y.blk B.o kad);have aA:=zq (bz.o.imp fun c z=>z.tfr y kad);have a6:=zq J;clear y J I)
   go_roundg f
   case measure=>omega
   case rel=>
    have hn:=X.o;have hk:=a6.o;exact ⟨i+1,it++[.slice A7 pl.length c7],kd++kd',nm++nm',sp++sp',pr++pr',_,by first|rfl|(congr 1;unfold wrap64;omega),kab,kab,kbl,by rw [qal];omega,a1,af,⟨fun _=>aA.o⟩⟩
  obtain rfl:i=3:=kab;obtain ⟨c,hR⟩:=HR.o kad;obtain ⟨A0,c0,rfl⟩:=hR.form;have bv:=zq hR;have O:=zq (show it.length<=1000 from by omega);have U:=zq (show kd.length<=100000 from by omega);have k:=zq (fun w=>zih s w);have u:=zq (zrr s);rw [<-a7.o] at k u;generalize (zfa s).2.1=er at k;generalize (zfa s).2.2=pp at k;clear hR HR hit aD aC hi a7;go_wp2_with (first
   | (go_at_call 12;refine (k.o _).mono ?_;rintro e8 w8 ⟨v8,rfl,j,m⟩;obtain ⟨A8,c8,rfl⟩:=j.ri.form;have b:=zad m (.cells #[.slice A8 p0.length c8] 36);have a8:=zq (D.o.below b);have aX:=(b.block _ (zam G.o)).trans G.o;have aB:=zq (bv.o.below b);have ad:=zq (j.ri.below (zad (qan _ _) (.cells #[.slice A8 p0.length c8] 36)));have y7:=zab aX 0;have y8:=zab (qab w8 (.cells #[.slice A8 p0.length c8] 36)) 0;simp only [qaj,qag] at y7 y8;clear j m b aX)
   | (go_at_call 13;refine (zst aB.o ad.o u.o).mono ?_;rintro e9 w9 ⟨rfl,n⟩;have q:=zq (a8.o.below n);clear n)
   | (go_at_call 15;refine (apart_calls zug (fun i _ W=>mark_said i W) _ _ _ 8001 _ _ _ _ _ kad (q.o.ready zug) O.o U.o q.o.l2 q.o.l3 q.o.l4).mono ?_;rintro aT bd ⟨rfl,aV⟩;have bk:=zq (zbb M.o M.o.size (q.o.bel.trans aV));clear aV))
  go_ret;exact ⟨rfl,bk.o⟩
end
end Go.Proofs.YtjeekocidaogoaaGreatDoor.H
