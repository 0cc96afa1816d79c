import Derived.Test.YtjeekocidaogoaaGreatDoorK6RefD
import Derived.Test.YtjeekocidaogoaaGreatDoorK6Mut
import Derived.Lib.AtoiAll
import Derived.Lib.ItoaMem
import Derived.Lib.IndexMore
import Derived.Lib.IndexAny
import Derived.Lib.IndexBytes
import Derived.Lib.Split
import Derived.Lib.SplitLaws
import Derived.Lib.CountLaws
import Derived.Test.YtjeekocidaogoaaGreatDoorK6PsG
import Derived.Test.YtjeekocidaogoaaGreatDoorK6Hx12
set_option linter.unusedVariables false
set_option linter.unusedSimpArgs false
set_option maxRecDepth 100000
set_option maxHeartbeats 8000000
open Go.Proofs.Tryz
namespace Go.Proofs.YtjeekocidaogoaaGreatDoor.H
open Go.RowKit Go.Proofs.YtjeekocidaogoaaGreatDoor.Hand Go.Proofs.YtjeekocidaogoaaGreatDoorW.PrintWords Go.Proofs.YtjeekocidaogoaaGreatDoorW.PrintLast Go.Proofs.YtjeekocidaogoaaGreatDoorW.PrintMore
section
structure ItR (W:World) (g T c:Nat) (toks:List Tok) (st:RS) (cells:Array Value) (W':World):Prop where
 st:RSt W' g T c toks st
 fr:Fr W W' (·=g)
 res:W'.heap[W.heap.size]?=some (.cells zfy 62 (0,0))
 itm:W'.heap[W.heap.size+1]?=some (.cells cells 62 (0,0))
section
variable {W W1 W2:World} {g T c:Nat} {toks:List Tok} {st ay:RS} {cells:Array Value}
theorem ItR.move (h:ItR W g T c toks st cells W1) (hg:g<W.heap.size) (b:RSt W2 g T c toks ay) (hF:Fr W1 W2 (·=g)):ItR W g T c toks ay cells W2:=
 ⟨b,h.fr.trans hF,hF.blk h.res kah,hF.blk h.itm (by show ¬W.heap.size+1=g;omega)⟩
theorem ItR.put (h:ItR W g T c toks st cells W1) (hg:g<W.heap.size) (d:T<W.heap.size) (k:Nat) (v:Value) {cells':Array Value} (b:cells.setIfInBounds k v=cells'):ItR W g T c toks st cells' (W1.setCell ⟨W.heap.size+1,k,none⟩ v):=by
 have hF:Fr W1 (W1.setCell ⟨W.heap.size+1,k,none⟩ v) (·=W.heap.size+1):=Fr.setCell (S:=(·=W.heap.size+1)) (Fr.refl _ _) (.inl rfl) _;subst b;exact ⟨h.st.fr hF kab kab,h.fr.then_ hF (fun k hk => .inr kab),hF.blk h.res kab,zan h.itm k v rfl⟩
theorem ItR.put8 {k:Int} {n:ByteArray} {a:Int} (h:ItR W g T c toks st (zcg k n a) W1) (hg:g<W.heap.size) (b:T<W.heap.size) (v0 v1 v2 v3 v4 v5 d e:Value) :
  ItR W g T c toks st #[.int .i64 k,.string n,v0,v1,v2,v3,v4,v5,d,e,.int .i64 a] ((((((((W1.setCell ⟨W.heap.size+1,2,none⟩ v0).setCell ⟨W.heap.size+1,3,none⟩ v1).setCell ⟨W.heap.size+1,4,none⟩ v2).setCell ⟨W.heap.size+1,5,none⟩ v3).setCell ⟨W.heap.size+1,6,none⟩ v4).setCell ⟨W.heap.size+1,7,none⟩ v5).setCell ⟨W.heap.size+1,8,none⟩ d).setCell ⟨W.heap.size+1,9,none⟩ e):=by
 have j:ItR W g T c toks st #[.int .i64 k,.string n,v0,.string ⟨#[]⟩,.string ⟨#[]⟩,.slice none 0 0,.slice none 0 0,.slice none 0 0,.slice none 0 0,.int .i64 0,.int .i64 a] _:=h.put hg b 2 v0 rfl;have l:ItR W g T c toks st #[.int .i64 k,.string n,v0,v1,.string ⟨#[]⟩,.slice none 0 0,.slice none 0 0,.slice none 0 0,.slice none 0 0,.int .i64 0,.int .i64 a] _:=j.put hg b 3 v1 rfl;have m:ItR W g T c toks st #[.int .i64 k,.string n,v0,v1,v2,.slice none 0 0,.slice none 0 0,.slice none 0 0,.slice none 0 0,.int .i64 0,.int .i64 a] _:=l.put hg b 4 v2 rfl;have o:ItR W g T c toks st #[.int .i64 k,.string n,v0,v1,v2,v3,.slice none 0 0,.slice none 0 0,.slice none 0 0,.int .i64 0,.int .i64 a] _:=m.put hg b 5 v3 rfl;have p:ItR W g T c toks st #[.int .i64 k,.string n,v0,v1,v2,v3,v4,.slice none 0 0,.slice none 0 0,.int .i64 0,.int .i64 a] _:=o.put hg b 6 v4 rfl;have q:ItR W g T c toks st #[.int .i64 k,.string n,v0,v1,v2,v3,v4,v5,.slice none 0 0,.int .i64 0,.int .i64 a] _:=p.put hg b 7 v5 rfl;have r:ItR W g T c toks st #[.int .i64 k,.string n,v0,v1,v2,v3,v4,v5,d,.int .i64 0,.int .i64 a] _:=q.put hg b 8 d rfl;exact r.put hg b 9 e rfl
theorem zoh (W:World) (m:Nat) (v0 v1 v2 v3 v4 v5 b d:Value):Fr W ((((((((W.setCell ⟨m,2,none⟩ v0).setCell ⟨m,3,none⟩ v1).setCell ⟨m,4,none⟩ v2).setCell ⟨m,5,none⟩ v3).setCell ⟨m,6,none⟩ v4).setCell ⟨m,7,none⟩ v5).setCell ⟨m,8,none⟩ b).setCell ⟨m,9,none⟩ d) (·=m):=by
 have e:=(Fr.refl W (·=m)).setCell (p:=⟨m,2,none⟩) (.inl rfl) v0;have j:=e.setCell (p:=⟨m,3,none⟩) (.inl rfl) v1;have l:=j.setCell (p:=⟨m,4,none⟩) (.inl rfl) v2;have n:=l.setCell (p:=⟨m,5,none⟩) (.inl rfl) v3;have o:=n.setCell (p:=⟨m,6,none⟩) (.inl rfl) v4;have q:=o.setCell (p:=⟨m,7,none⟩) (.inl rfl) v5;have r:=q.setCell (p:=⟨m,8,none⟩) (.inl rfl) b;exact r.setCell (p:=⟨m,9,none⟩) (.inl rfl) d
theorem ItR.over (h:ItR W g T c toks st cells W1) (hg:g<W.heap.size) (l:T<W.heap.size) (v0 v1 v2 v3 v4 v5 d e j v9 b:Value) :
  let W2:=zqm W1 W.heap.size v0 v1 v2 v3 v4 v5 d e j v9 b
  W2.heap[W.heap.size]?=some (.cells #[v0,v1,v2,v3,v4,v5,d,e,j,v9,b] 62 (0,0))/\RSt W2 g T c toks st/\Fr W W2 (·=g):=by
 intro W2;have hF:=zez W1 W.heap.size v0 v1 v2 v3 v4 v5 d e j v9 b;exact ⟨zij h.res _ _ _ _ _ _ _ _ _ _ _,h.st.fr hF kab kab,h.fr.then_ hF fun k hk => .inr kab⟩
end
def zub (W:World) (g T c:Nat) (toks:List Tok) (kd a:Int) (b:RS) (w:ByteArray) (j:RS->S60->Int->RS->Prop) (e:Ending) (W':World):Prop:=
 ∃ x d ts L st,e = .returned (.agg (([Value.int .i64 kd,Value.string (zai toks 2 b).text]:List Value)++ts++[Value.int .i64 a]).toArray)/\Tree W' W.heap.size x ts L/\RSt W' g T c toks (zdm toks ziz st)/\Fr W W' (·=g)/\j (zdm toks w (zba toks 2 b)) x d st
section
variable (g T c:Nat) (toks:List Tok) (aa:∀ k,k<toks.length->(tk toks k).kind≠8->k+1<toks.length)
include aa
theorem itemR_let (W:World) (s:RS) (QR:RS->S60->Int->RS->Prop) (af:isR toks sLet s=true) (h:RSt W g T c toks s)
  (aD:∀ W' st,RSt W' g T c toks st->Calls prog 59 #[.pointer (some ⟨g,0,none⟩),.string sOr] W' (zem W' g T c toks (QR st))) :
  Calls prog 34 #[.pointer (some ⟨g,0,none⟩)] W (zub W g T c toks 1 (tk toks s.i).place ⟨s.i+1,0,s.p⟩ sEq QR):=by
 have hg:=h.lts.1;have D:=h.lts.2.1;have hj:=aa s.i h.here (zqw af).1;have aC:s.e=0:=(zqw af).2;have M:=zq (fun W' (l:RSt W' g T c toks s)=>(show Calls prog 32 #[.pointer (some ⟨g,0,none⟩),.string sLet] W' fun e r=>e = .returned (.bool (isR toks sLet s))/\Below W'.heap.size W' r from zbs W' g T c toks s sLet l));rw [af] at M;have a1:=zq (fun W' (l:RSt W' g T c toks s)=>(show Calls prog 32 #[.pointer (some ⟨g,0,none⟩),.string zde] W' fun e r=>e = .returned (.bool (isR toks zde s))/\Below W'.heap.size W' r from zbs W' g T c toks s zde l));have a6:=zq (fun W' (l:RSt W' g T c toks s)=>(show Calls prog 32 #[.pointer (some ⟨g,0,none⟩),.string zet] W' fun e r=>e = .returned (.bool (isR toks zet s))/\Below W'.heap.size W' r from zbs W' g T c toks s zet l));have HK:=zq (fun W' (l:RSt W' g T c toks ⟨s.i+1,0,s.p⟩)=>(show Calls prog 57 #[.pointer (some ⟨g,0,none⟩),.int .i64 2] W' fun e' r=>e' = .returned (.agg #[.int .i64 (zai toks 2 ⟨s.i+1,0,s.p⟩).kind,.string (zai toks 2 ⟨s.i+1,0,s.p⟩).text,.int .i64 (zai toks 2 ⟨s.i+1,0,s.p⟩).num,.int .i64 (zai toks 2 ⟨s.i+1,0,s.p⟩).pa,.int .i64 (zai toks 2 ⟨s.i+1,0,s.p⟩).pb,.int .i64 (zai toks 2 ⟨s.i+1,0,s.p⟩).place])/\RSt r g T c toks (zba toks 2 ⟨s.i+1,0,s.p⟩)/\Fr W' r (·=g) from zdq W' g T c toks aa ⟨s.i+1,0,s.p⟩ 2 kad l));have a7:=zq (fun W' (l:RSt W' g T c toks (zba toks 2 ⟨s.i+1,0,s.p⟩))=>zbq g T c toks aa W' _ sEq l);have aH:=zq (fun W' st (l:RSt W' g T c toks st)=>zbq g T c toks aa W' st ziz l);have aF:=zq aD;have I:=fun o=>(h.alloc o).look;have u0:=fun o=>(I o).1;have u1:=fun o=>(I o).2.1;have v5:=fun o=>(I o).2.2.2.2.2.2.2.2;have aP:=h.here;have aQ:=h.many;have hn:=qac (W.alloc (.cells zfy 62)) (.cells (zcg 0 ⟨#[]⟩ (tk toks s.i).place) 62);rw [qae] at hn;have ah:=zq (ItR.mk ((h.alloc (.cells zfy 62)).alloc (.cells (zcg 0 ⟨#[]⟩ (tk toks s.i).place) 62)) (((Fr.refl W (·=g)).alloc _).alloc _) (zaf (qac W (.cells zfy 62)) _) hn);have HD:=zq (fun {st:RS} {cs:Array Value} {w:World} (h:ItR W g T c toks st cs w)=>(⟨h.st.drew,h.fr.drew,h.res,h.itm⟩:ItR W g T c toks st cs w.drew));have aO:=@zgy;clear h aD aa I hn;go_enter func34,ntmps34;go_wp2;go_region;all_goals go_wp2_with (first
  | (go_at_call 32;refine (M.o _ (kay:ItR W g T c toks s _ _).st).mono ?_;rintro e1 w1 ⟨rfl,q⟩;have O:=zq ((kay:ItR W g T c toks s (zcg 0 ⟨#[]⟩ (tk toks s.i).place) _).move hg ((kay:ItR W g T c toks s (zcg 0 ⟨#[]⟩ (tk toks s.i).place) _).st.below q) (Fr.of_below q));clear q M)
  | (go_at_call 32;refine (a1.o _ (O.o:ItR W g T c toks s _ _).st).mono ?_;rintro e2 w2 ⟨rfl,q⟩;have U:=zq ((O.o:ItR W g T c toks s (zcg 0 ⟨#[]⟩ (tk toks s.i).place) _).move hg ((O.o:ItR W g T c toks s (zcg 0 ⟨#[]⟩ (tk toks s.i).place) _).st.below q) (Fr.of_below q));clear q a1)
  | (go_at_call 32;refine (a6.o _ (U.o:ItR W g T c toks s _ _).st).mono ?_;rintro e3 w3 ⟨rfl,q⟩;have A:=zq ((U.o:ItR W g T c toks s (zcg 0 ⟨#[]⟩ (tk toks s.i).place) _).move hg ((U.o:ItR W g T c toks s (zcg 0 ⟨#[]⟩ (tk toks s.i).place) _).st.below q) (Fr.of_below q));clear q a6;obtain ⟨s0,s1,s2,s3,z1,z2,z3⟩:=A.o.st.facts;have k0:=zab A.o.itm 0;have f0:=zac A.o.itm 0;rw [aC] at s2)
  | (go_at_call 57;have a8:=zq ((A.o.put (cells':=zcg 1 ⟨#[]⟩ (tk toks s.i).place) hg D 0 (.int .i64 1) rfl).move hg ((A.o.put (cells':=zcg 1 ⟨#[]⟩ (tk toks s.i).place) hg D 0 (.int .i64 1) rfl).st.setI hj (z:=(s.i:Int)+1) kab) (Fr.setCell (S:=(·=g)) (Fr.refl _ _) (p:=⟨g,1,none⟩) (.inl rfl) _));refine (HK.o _ (by have:=a8.o.st;rw [aC] at this;exact this)).mono ?_;rintro e5 w5 ⟨rfl,m,hF⟩;have Y:=zq (a8.o.move hg m hF);have k1:=zab Y.o.itm 1;have f1:=zac Y.o.itm 1;clear m hF)
  | (go_at_call 58;have aA:=zq (Y.o.put (cells':=zcg 1 (zai toks 2 ⟨s.i+1,0,s.p⟩).text (tk toks s.i).place) hg D 1 (.string (zai toks 2 ⟨s.i+1,0,s.p⟩).text) rfl);refine (a7.o _ aA.o.st).mono ?_;rintro e7 w7 ⟨rfl,m,hF⟩;have Z:=zq (aA.o.move hg m hF);clear m hF a7)
  | (go_at_call 59;refine (aF.o _ _ Z.o.st).mono ?_;rintro e8 w8 ⟨y,d,cs,L,st,rfl,ad,m,hF,hQ⟩;obtain ⟨v3,v4,aU,v6,rfl,-,-,-,-,u,n3,c3,x,n4,c4,A5,G,c5,A6,n6,c6,rfl,rfl,rfl,rfl⟩:=zay ad;have b:=zq (Z.o.move hg m hF);have aG:=zq ad;have HQ:=zq hQ;have au:=zq (And.intro (zam Z.o.itm) hF.size);have l0:=fun j=>zab b.o.itm j;have m2:=zac b.o.itm 2;have m3:=zac b.o.itm 3;have m4:=zac b.o.itm 4;have m5:=zac b.o.itm 5;have m6:=zac b.o.itm 6;have m7:=zac b.o.itm 7;have m8:=zac b.o.itm 8;have m9:=zac b.o.itm 9;obtain ⟨⟨q0,q1,q2,q3,q4,q5,q6,q7,q8,q9,aL⟩,-⟩:=zbd b.o.itm;clear ad m hF hQ l0)
  | (go_at_call 58;have aB:=zq (b.o.put8 (k:=1) (n:=(zai toks 2 ⟨s.i+1,0,s.p⟩).text) (a:=(tk toks s.i).place) hg D (.int .i64 y.f0) (.string y.f1) (.string y.f2) (.slice u n3 c3) (.slice x n4 c4) (.slice A5 G c5) (.slice A6 n6 c6) (.int .i64 y.f7));refine (aH.o _ _ aB.o.st).mono ?_;rintro aN aM ⟨rfl,m,hF⟩;have X:=zq (aB.o.move hg m hF);have aE:=zq hF;obtain ⟨⟨q0,q1,q2,q3,q4,q5,q6,q7,q8,q9,aL⟩,-⟩:=zbd X.o.itm;obtain ⟨⟨o0,o1,o2,o3,o4,o5,o6,o7,o8,o9,aS⟩,⟨p0,p1,p2,p3,p4,p5,p6,p7,p8,p9,aT⟩⟩:=zbd X.o.res;clear m hF))
 all_goals
  obtain ⟨R1,R2,R3⟩:=X.o.over hg D (.int .i64 1) (.string (zai toks 2 ⟨s.i+1,0,s.p⟩).text) (.int .i64 y.f0) (.string y.f1) (.string y.f2) (.slice u n3 c3) (.slice x n4 c4) (.slice A5 G c5) (.slice A6 n6 c6) (.int .i64 y.f7) (.int .i64 (tk toks s.i).place);refine qaf (qat rfl _ _ W.heap.size 62 #[.int .i64 1,.string (zai toks 2 ⟨s.i+1,0,s.p⟩).text,.int .i64 y.f0,.string y.f1,.string y.f2,.slice u n3 c3,.slice x n4 c4,.slice A5 G c5,.slice A6 n6 c6,.int .i64 y.f7,.int .i64 (tk toks s.i).place] (0,0) _ rfl R1 underlying62 rfl kae) rfl ?_;have aR:=au.o;have J:=aG.o;have aK:=J.fr (zoh w8 (W.heap.size+1) (.int .i64 y.f0) (.string y.f1) (.string y.f2) (.slice u n3 c3) (.slice x n4 c4) (.slice A5 G c5) (.slice A6 n6 c6) (.int .i64 y.f7)) (fun B E e=>by have:=(J.lt B E).1;omega);have aI:=aK.fr aE.o (fun B E e=>by have:=(J.lt B E).1;omega);have aJ:=aI.fr (zez aM W.heap.size (.int .i64 1) (.string (zai toks 2 ⟨s.i+1,0,s.p⟩).text) (.int .i64 y.f0) (.string y.f1) (.string y.f2) (.slice u n3 c3) (.slice x n4 c4) (.slice A5 G c5) (.slice A6 n6 c6) (.int .i64 y.f7) (.int .i64 (tk toks s.i).place)) (fun B E e=>by have:=(J.lt B E).1;omega);exact ⟨y,d,_,L,st,rfl,aJ.lower kab,R2,R3,HQ.o⟩
theorem itemR_allow (W:World) (s:RS) (QR:RS->S60->Int->RS->Prop) (aL:isR toks sLet s=false) (a1:isR toks zde s=true) (h:RSt W g T c toks s)
  (aD:∀ W' st,RSt W' g T c toks st->Calls prog 59 #[.pointer (some ⟨g,0,none⟩),.string sOr] W' (zem W' g T c toks (QR st))) :
  Calls prog 34 #[.pointer (some ⟨g,0,none⟩)] W (zub W g T c toks 2 (tk toks s.i).place ⟨s.i+1,0,s.p⟩ zik QR):=by
 have hg:=h.lts.1;have D:=h.lts.2.1;have hj:=aa s.i h.here (zqw a1).1;have aC:s.e=0:=(zqw a1).2;have M:=zq (fun W' (l:RSt W' g T c toks s)=>(show Calls prog 32 #[.pointer (some ⟨g,0,none⟩),.string sLet] W' fun e r=>e = .returned (.bool (isR toks sLet s))/\Below W'.heap.size W' r from zbs W' g T c toks s sLet l));rw [aL] at M;have U:=zq (fun W' (l:RSt W' g T c toks s)=>(show Calls prog 32 #[.pointer (some ⟨g,0,none⟩),.string zde] W' fun e r=>e = .returned (.bool (isR toks zde s))/\Below W'.heap.size W' r from zbs W' g T c toks s zde l));rw [a1] at U;have a6:=zq (fun W' (l:RSt W' g T c toks s)=>(show Calls prog 32 #[.pointer (some ⟨g,0,none⟩),.string zet] W' fun e r=>e = .returned (.bool (isR toks zet s))/\Below W'.heap.size W' r from zbs W' g T c toks s zet l));have HK:=zq (fun W' (l:RSt W' g T c toks ⟨s.i+1,0,s.p⟩)=>(show Calls prog 57 #[.pointer (some ⟨g,0,none⟩),.int .i64 2] W' fun e' r=>e' = .returned (.agg #[.int .i64 (zai toks 2 ⟨s.i+1,0,s.p⟩).kind,.string (zai toks 2 ⟨s.i+1,0,s.p⟩).text,.int .i64 (zai toks 2 ⟨s.i+1,0,s.p⟩).num,.int .i64 (zai toks 2 ⟨s.i+1,0,s.p⟩).pa,.int .i64 (zai toks 2 ⟨s.i+1,0,s.p⟩).pb,.int .i64 (zai toks 2 ⟨s.i+1,0,s.p⟩).place])/\RSt r g T c toks (zba toks 2 ⟨s.i+1,0,s.p⟩)/\Fr W' r (·=g) from zdq W' g T c toks aa ⟨s.i+1,0,s.p⟩ 2 kad l));have a7:=zq (fun W' (l:RSt W' g T c toks (zba toks 2 ⟨s.i+1,0,s.p⟩))=>zbq g T c toks aa W' _ zik l);have aH:=zq (fun W' st (l:RSt W' g T c toks st)=>zbq g T c toks aa W' st ziz l);have aF:=zq aD;have I:=fun o=>(h.alloc o).look;have u0:=fun o=>(I o).1;have u1:=fun o=>(I o).2.1;have v5:=fun o=>(I o).2.2.2.2.2.2.2.2;have aQ:=h.here;have aR:=h.many;have hn:=qac (W.alloc (.cells zfy 62)) (.cells (zcg 0 ⟨#[]⟩ (tk toks s.i).place) 62);rw [qae] at hn;have ah:=zq (ItR.mk ((h.alloc (.cells zfy 62)).alloc (.cells (zcg 0 ⟨#[]⟩ (tk toks s.i).place) 62)) (((Fr.refl W (·=g)).alloc _).alloc _) (zaf (qac W (.cells zfy 62)) _) hn);have HD:=zq (fun {st:RS} {cs:Array Value} {w:World} (h:ItR W g T c toks st cs w)=>(⟨h.st.drew,h.fr.drew,h.res,h.itm⟩:ItR W g T c toks st cs w.drew));have aP:=@zgy;clear h aD aa I hn;go_enter func34,ntmps34;go_wp2;go_region;all_goals go_wp2_with (first
  | (go_at_call 32;refine (M.o _ (kay:ItR W g T c toks s _ _).st).mono ?_;rintro e1 w1 ⟨rfl,q⟩;have O:=zq ((kay:ItR W g T c toks s (zcg 0 ⟨#[]⟩ (tk toks s.i).place) _).move hg ((kay:ItR W g T c toks s (zcg 0 ⟨#[]⟩ (tk toks s.i).place) _).st.below q) (Fr.of_below q));clear q M)
  | (go_at_call 32;refine (U.o _ (O.o:ItR W g T c toks s _ _).st).mono ?_;rintro e2 w2 ⟨rfl,q⟩;have X:=zq ((O.o:ItR W g T c toks s (zcg 0 ⟨#[]⟩ (tk toks s.i).place) _).move hg ((O.o:ItR W g T c toks s (zcg 0 ⟨#[]⟩ (tk toks s.i).place) _).st.below q) (Fr.of_below q));clear q U)
  | (go_at_call 32;refine (a6.o _ (X.o:ItR W g T c toks s _ _).st).mono ?_;rintro e3 w3 ⟨rfl,q⟩;have A:=zq ((X.o:ItR W g T c toks s (zcg 0 ⟨#[]⟩ (tk toks s.i).place) _).move hg ((X.o:ItR W g T c toks s (zcg 0 ⟨#[]⟩ (tk toks s.i).place) _).st.below q) (Fr.of_below q));clear q a6;obtain ⟨s0,s1,s2,s3,z1,z2,z3⟩:=A.o.st.facts;have k0:=zab A.o.itm 0;have f0:=zac A.o.itm 0;rw [aC] at s2)
  | (go_at_call 57;have a8:=zq ((A.o.put (cells':=zcg 2 ⟨#[]⟩ (tk toks s.i).place) hg D 0 (.int .i64 2) rfl).move hg ((A.o.put (cells':=zcg 2 ⟨#[]⟩ (tk toks s.i).place) hg D 0 (.int .i64 2) rfl).st.setI hj (z:=(s.i:Int)+1) kab) (Fr.setCell (S:=(·=g)) (Fr.refl _ _) (p:=⟨g,1,none⟩) (.inl rfl) _));refine (HK.o _ (by have:=a8.o.st;rw [aC] at this;exact this)).mono ?_;rintro e5 w5 ⟨rfl,m,hF⟩;have Z:=zq (a8.o.move hg m hF);have k1:=zab Z.o.itm 1;have f1:=zac Z.o.itm 1;clear m hF)
  | (go_at_call 58;have aA:=zq (Z.o.put (cells':=zcg 2 (zai toks 2 ⟨s.i+1,0,s.p⟩).text (tk toks s.i).place) hg D 1 (.string (zai toks 2 ⟨s.i+1,0,s.p⟩).text) rfl);refine (a7.o _ aA.o.st).mono ?_;rintro e7 w7 ⟨rfl,m,hF⟩;have ad:=zq (aA.o.move hg m hF);clear m hF a7)
  | (go_at_call 59;refine (aF.o _ _ ad.o.st).mono ?_;rintro e8 w8 ⟨y,d,cs,L,st,rfl,af,m,hF,hQ⟩;obtain ⟨v3,v4,aV,v6,rfl,-,-,-,-,u,n3,c3,x,n4,c4,A5,G,c5,A6,n6,c6,rfl,rfl,rfl,rfl⟩:=zay af;have b:=zq (ad.o.move hg m hF);have aG:=zq af;have HQ:=zq hQ;have au:=zq (And.intro (zam ad.o.itm) hF.size);have l0:=fun j=>zab b.o.itm j;have m2:=zac b.o.itm 2;have m3:=zac b.o.itm 3;have m4:=zac b.o.itm 4;have m5:=zac b.o.itm 5;have m6:=zac b.o.itm 6;have m7:=zac b.o.itm 7;have m8:=zac b.o.itm 8;have m9:=zac b.o.itm 9;obtain ⟨⟨q0,q1,q2,q3,q4,q5,q6,q7,q8,q9,aM⟩,-⟩:=zbd b.o.itm;clear af m hF hQ l0)
  | (go_at_call 58;have aB:=zq (b.o.put8 (k:=2) (n:=(zai toks 2 ⟨s.i+1,0,s.p⟩).text) (a:=(tk toks s.i).place) hg D (.int .i64 y.f0) (.string y.f1) (.string y.f2) (.slice u n3 c3) (.slice x n4 c4) (.slice A5 G c5) (.slice A6 n6 c6) (.int .i64 y.f7));refine (aH.o _ _ aB.o.st).mono ?_;rintro aO aN ⟨rfl,m,hF⟩;have Y:=zq (aB.o.move hg m hF);have aE:=zq hF;obtain ⟨⟨q0,q1,q2,q3,q4,q5,q6,q7,q8,q9,aM⟩,-⟩:=zbd Y.o.itm;obtain ⟨⟨o0,o1,o2,o3,o4,o5,o6,o7,o8,o9,aT⟩,⟨p0,p1,p2,p3,p4,p5,p6,p7,p8,p9,aU⟩⟩:=zbd Y.o.res;clear m hF))
 all_goals
  obtain ⟨R1,R2,R3⟩:=Y.o.over hg D (.int .i64 2) (.string (zai toks 2 ⟨s.i+1,0,s.p⟩).text) (.int .i64 y.f0) (.string y.f1) (.string y.f2) (.slice u n3 c3) (.slice x n4 c4) (.slice A5 G c5) (.slice A6 n6 c6) (.int .i64 y.f7) (.int .i64 (tk toks s.i).place);refine qaf (qat rfl _ _ W.heap.size 62 #[.int .i64 2,.string (zai toks 2 ⟨s.i+1,0,s.p⟩).text,.int .i64 y.f0,.string y.f1,.string y.f2,.slice u n3 c3,.slice x n4 c4,.slice A5 G c5,.slice A6 n6 c6,.int .i64 y.f7,.int .i64 (tk toks s.i).place] (0,0) _ rfl R1 underlying62 rfl kae) rfl ?_;have aS:=au.o;have J:=aG.o;have aK:=J.fr (zoh w8 (W.heap.size+1) (.int .i64 y.f0) (.string y.f1) (.string y.f2) (.slice u n3 c3) (.slice x n4 c4) (.slice A5 G c5) (.slice A6 n6 c6) (.int .i64 y.f7)) (fun B E e=>by have:=(J.lt B E).1;omega);have aI:=aK.fr aE.o (fun B E e=>by have:=(J.lt B E).1;omega);have aJ:=aI.fr (zez aN W.heap.size (.int .i64 2) (.string (zai toks 2 ⟨s.i+1,0,s.p⟩).text) (.int .i64 y.f0) (.string y.f1) (.string y.f2) (.slice u n3 c3) (.slice x n4 c4) (.slice A5 G c5) (.slice A6 n6 c6) (.int .i64 y.f7) (.int .i64 (tk toks s.i).place)) (fun B E e=>by have:=(J.lt B E).1;omega);exact ⟨y,d,_,L,st,rfl,aJ.lower kab,R2,R3,HQ.o⟩
theorem itemR_deny (W:World) (s:RS) (QR:RS->S60->Int->RS->Prop) (aL:isR toks sLet s=false) (aM:isR toks zde s=false) (a6:isR toks zet s=true) (h:RSt W g T c toks s)
  (aD:∀ W' st,RSt W' g T c toks st->Calls prog 59 #[.pointer (some ⟨g,0,none⟩),.string sOr] W' (zem W' g T c toks (QR st))) :
  Calls prog 34 #[.pointer (some ⟨g,0,none⟩)] W (zub W g T c toks 3 (tk toks s.i).place ⟨s.i+1,0,s.p⟩ zik QR):=by
 have hg:=h.lts.1;have D:=h.lts.2.1;have hj:=aa s.i h.here (zqw a6).1;have aC:s.e=0:=(zqw a6).2;have M:=zq (fun W' (l:RSt W' g T c toks s)=>(show Calls prog 32 #[.pointer (some ⟨g,0,none⟩),.string sLet] W' fun e r=>e = .returned (.bool (isR toks sLet s))/\Below W'.heap.size W' r from zbs W' g T c toks s sLet l));rw [aL] at M;have U:=zq (fun W' (l:RSt W' g T c toks s)=>(show Calls prog 32 #[.pointer (some ⟨g,0,none⟩),.string zde] W' fun e r=>e = .returned (.bool (isR toks zde s))/\Below W'.heap.size W' r from zbs W' g T c toks s zde l));rw [aM] at U;have Y:=zq (fun W' (l:RSt W' g T c toks s)=>(show Calls prog 32 #[.pointer (some ⟨g,0,none⟩),.string zet] W' fun e r=>e = .returned (.bool (isR toks zet s))/\Below W'.heap.size W' r from zbs W' g T c toks s zet l));rw [a6] at Y;have HK:=zq (fun W' (l:RSt W' g T c toks ⟨s.i+1,0,s.p⟩)=>(show Calls prog 57 #[.pointer (some ⟨g,0,none⟩),.int .i64 2] W' fun e' r=>e' = .returned (.agg #[.int .i64 (zai toks 2 ⟨s.i+1,0,s.p⟩).kind,.string (zai toks 2 ⟨s.i+1,0,s.p⟩).text,.int .i64 (zai toks 2 ⟨s.i+1,0,s.p⟩).num,.int .i64 (zai toks 2 ⟨s.i+1,0,s.p⟩).pa,.int .i64 (zai toks 2 ⟨s.i+1,0,s.p⟩).pb,.int .i64 (zai toks 2 ⟨s.i+1,0,s.p⟩).place])/\RSt r g T c toks (zba toks 2 ⟨s.i+1,0,s.p⟩)/\Fr W' r (·=g) from zdq W' g T c toks aa ⟨s.i+1,0,s.p⟩ 2 kad l));have a7:=zq (fun W' (l:RSt W' g T c toks (zba toks 2 ⟨s.i+1,0,s.p⟩))=>zbq g T c toks aa W' _ zik l);have aH:=zq (fun W' st (l:RSt W' g T c toks st)=>zbq g T c toks aa W' st ziz l);have aF:=zq aD;have I:=fun o=>(h.alloc o).look;have u0:=fun o=>(I o).1;have u1:=fun o=>(I o).2.1;have v5:=fun o=>(I o).2.2.2.2.2.2.2.2;have aR:=h.here;have aS:=h.many;have hn:=qac (W.alloc (.cells zfy 62)) (.cells (zcg 0 ⟨#[]⟩ (tk toks s.i).place) 62);rw [qae] at hn;have ah:=zq (ItR.mk ((h.alloc (.cells zfy 62)).alloc (.cells (zcg 0 ⟨#[]⟩ (tk toks s.i).place) 62)) (((Fr.refl W (·=g)).alloc _).alloc _) (zaf (qac W (.cells zfy 62)) _) hn);have HD:=zq (fun {st:RS} {cs:Array Value} {w:World} (h:ItR W g T c toks st cs w)=>(⟨h.st.drew,h.fr.drew,h.res,h.itm⟩:ItR W g T c toks st cs w.drew));have aQ:=@zgy;clear h aD aa I hn;go_enter func34,ntmps34;go_wp2;go_region;all_goals go_wp2_with (first
  | (go_at_call 32;refine (M.o _ (kay:ItR W g T c toks s _ _).st).mono ?_;rintro e1 w1 ⟨rfl,q⟩;have O:=zq ((kay:ItR W g T c toks s (zcg 0 ⟨#[]⟩ (tk toks s.i).place) _).move hg ((kay:ItR W g T c toks s (zcg 0 ⟨#[]⟩ (tk toks s.i).place) _).st.below q) (Fr.of_below q));clear q M)
  | (go_at_call 32;refine (U.o _ (O.o:ItR W g T c toks s _ _).st).mono ?_;rintro e2 w2 ⟨rfl,q⟩;have X:=zq ((O.o:ItR W g T c toks s (zcg 0 ⟨#[]⟩ (tk toks s.i).place) _).move hg ((O.o:ItR W g T c toks s (zcg 0 ⟨#[]⟩ (tk toks s.i).place) _).st.below q) (Fr.of_below q));clear q U)
  | (go_at_call 32;refine (Y.o _ (X.o:ItR W g T c toks s _ _).st).mono ?_;rintro e3 w3 ⟨rfl,q⟩;have A:=zq ((X.o:ItR W g T c toks s (zcg 0 ⟨#[]⟩ (tk toks s.i).place) _).move hg ((X.o:ItR W g T c toks s (zcg 0 ⟨#[]⟩ (tk toks s.i).place) _).st.below q) (Fr.of_below q));clear q Y;obtain ⟨s0,s1,s2,s3,z1,z2,z3⟩:=A.o.st.facts;have k0:=zab A.o.itm 0;have f0:=zac A.o.itm 0;rw [aC] at s2)
  | (go_at_call 57;have a8:=zq ((A.o.put (cells':=zcg 3 ⟨#[]⟩ (tk toks s.i).place) hg D 0 (.int .i64 3) rfl).move hg ((A.o.put (cells':=zcg 3 ⟨#[]⟩ (tk toks s.i).place) hg D 0 (.int .i64 3) rfl).st.setI hj (z:=(s.i:Int)+1) kab) (Fr.setCell (S:=(·=g)) (Fr.refl _ _) (p:=⟨g,1,none⟩) (.inl rfl) _));refine (HK.o _ (by have:=a8.o.st;rw [aC] at this;exact this)).mono ?_;rintro e5 w5 ⟨rfl,m,hF⟩;have ad:=zq (a8.o.move hg m hF);have k1:=zab ad.o.itm 1;have f1:=zac ad.o.itm 1;clear m hF)
  | (go_at_call 58;have aA:=zq (ad.o.put (cells':=zcg 3 (zai toks 2 ⟨s.i+1,0,s.p⟩).text (tk toks s.i).place) hg D 1 (.string (zai toks 2 ⟨s.i+1,0,s.p⟩).text) rfl);refine (a7.o _ aA.o.st).mono ?_;rintro e7 w7 ⟨rfl,m,hF⟩;have af:=zq (aA.o.move hg m hF);clear m hF a7)
  | (go_at_call 59;refine (aF.o _ _ af.o.st).mono ?_;rintro e8 w8 ⟨y,d,cs,L,st,rfl,a1,m,hF,hQ⟩;obtain ⟨v3,v4,aW,v6,rfl,-,-,-,-,u,n3,c3,x,n4,c4,A5,G,c5,A6,n6,c6,rfl,rfl,rfl,rfl⟩:=zay a1;have b:=zq (af.o.move hg m hF);have aG:=zq a1;have HQ:=zq hQ;have au:=zq (And.intro (zam af.o.itm) hF.size);have l0:=fun j=>zab b.o.itm j;have m2:=zac b.o.itm 2;have m3:=zac b.o.itm 3;have m4:=zac b.o.itm 4;have m5:=zac b.o.itm 5;have m6:=zac b.o.itm 6;have m7:=zac b.o.itm 7;have m8:=zac b.o.itm 8;have m9:=zac b.o.itm 9;obtain ⟨⟨q0,q1,q2,q3,q4,q5,q6,q7,q8,q9,aN⟩,-⟩:=zbd b.o.itm;clear a1 m hF hQ l0)
  | (go_at_call 58;have aB:=zq (b.o.put8 (k:=3) (n:=(zai toks 2 ⟨s.i+1,0,s.p⟩).text) (a:=(tk toks s.i).place) hg D (.int .i64 y.f0) (.string y.f1) (.string y.f2) (.slice u n3 c3) (.slice x n4 c4) (.slice A5 G c5) (.slice A6 n6 c6) (.int .i64 y.f7));refine (aH.o _ _ aB.o.st).mono ?_;rintro aP aO ⟨rfl,m,hF⟩;have Z:=zq (aB.o.move hg m hF);have aE:=zq hF;obtain ⟨⟨q0,q1,q2,q3,q4,q5,q6,q7,q8,q9,aN⟩,-⟩:=zbd Z.o.itm;obtain ⟨⟨o0,o1,o2,o3,o4,o5,o6,o7,o8,o9,aU⟩,⟨p0,p1,p2,p3,p4,p5,p6,p7,p8,p9,aV⟩⟩:=zbd Z.o.res;clear m hF))
 all_goals
  obtain ⟨R1,R2,R3⟩:=Z.o.over hg D (.int .i64 3) (.string (zai toks 2 ⟨s.i+1,0,s.p⟩).text) (.int .i64 y.f0) (.string y.f1) (.string y.f2) (.slice u n3 c3) (.slice x n4 c4) (.slice A5 G c5) (.slice A6 n6 c6) (.int .i64 y.f7) (.int .i64 (tk toks s.i).place);refine qaf (qat rfl _ _ W.heap.size 62 #[.int .i64 3,.string (zai toks 2 ⟨s.i+1,0,s.p⟩).text,.int .i64 y.f0,.string y.f1,.string y.f2,.slice u n3 c3,.slice x n4 c4,.slice A5 G c5,.slice A6 n6 c6,.int .i64 y.f7,.int .i64 (tk toks s.i).place] (0,0) _ rfl R1 underlying62 rfl kae) rfl ?_;have aT:=au.o;have J:=aG.o;have aK:=J.fr (zoh w8 (W.heap.size+1) (.int .i64 y.f0) (.string y.f1) (.string y.f2) (.slice u n3 c3) (.slice x n4 c4) (.slice A5 G c5) (.slice A6 n6 c6) (.int .i64 y.f7)) (fun B E e=>by have:=(J.lt B E).1;omega);have aI:=aK.fr aE.o (fun B E e=>by have:=(J.lt B E).1;omega);have aJ:=aI.fr (zez aO W.heap.size (.int .i64 3) (.string (zai toks 2 ⟨s.i+1,0,s.p⟩).text) (.int .i64 y.f0) (.string y.f1) (.string y.f2) (.slice u n3 c3) (.slice x n4 c4) (.slice A5 G c5) (.slice A6 n6 c6) (.int .i64 y.f7) (.int .i64 (tk toks s.i).place)) (fun B E e=>by have:=(J.lt B E).1;omega);exact ⟨y,d,_,L,st,rfl,aJ.lower kab,R2,R3,HQ.o⟩
theorem znp (W:World) (s:RS) (QR:RS->S60->Int->RS->Prop) (aH:isR toks sLet s=false) (aI:isR toks zde s=false) (aJ:isR toks zet s=false) (h:RSt W g T c toks s)
  (a7:∀ W' st,RSt W' g T c toks st->Calls prog 59 #[.pointer (some ⟨g,0,none⟩),.string sOr] W' (zem W' g T c toks (QR st))) :
  Calls prog 34 #[.pointer (some ⟨g,0,none⟩)] W (zub W g T c toks 0 (tk toks s.i).place (zbu toks s) zik QR):=by
 have hg:=h.lts.1;have hT:=h.lts.2.1;have aN:((zbu toks s).e==0)=false:=qag.2 (by unfold zbu zcb;split<;>first|assumption|(show (90:Int)≠0;decide));have G:=zq (fun W' (l:RSt W' g T c toks s)=>(show Calls prog 32 #[.pointer (some ⟨g,0,none⟩),.string sLet] W' fun e q=>e = .returned (.bool (isR toks sLet s))/\Below W'.heap.size W' q from zbs W' g T c toks s sLet l));rw [aH] at G;have J:=zq (fun W' (l:RSt W' g T c toks s)=>(show Calls prog 32 #[.pointer (some ⟨g,0,none⟩),.string zde] W' fun e q=>e = .returned (.bool (isR toks zde s))/\Below W'.heap.size W' q from zbs W' g T c toks s zde l));rw [aI] at J;have O:=zq (fun W' (l:RSt W' g T c toks s)=>(show Calls prog 32 #[.pointer (some ⟨g,0,none⟩),.string zet] W' fun e q=>e = .returned (.bool (isR toks zet s))/\Below W'.heap.size W' q from zbs W' g T c toks s zet l));rw [aJ] at O;have aB:=zq (fun W' (l:RSt W' g T c toks s)=>zdn W' g T c toks s l);have HK:=zq (fun W' (l:RSt W' g T c toks (zbu toks s))=>(show Calls prog 57 #[.pointer (some ⟨g,0,none⟩),.int .i64 2] W' fun e' q=>e' = .returned (.agg #[.int .i64 (zai toks 2 (zbu toks s)).kind,.string (zai toks 2 (zbu toks s)).text,.int .i64 (zai toks 2 (zbu toks s)).num,.int .i64 (zai toks 2 (zbu toks s)).pa,.int .i64 (zai toks 2 (zbu toks s)).pb,.int .i64 (zai toks 2 (zbu toks s)).place])/\RSt q g T c toks (zba toks 2 (zbu toks s))/\Fr W' q (·=g) from zdq W' g T c toks aa (zbu toks s) 2 kad l));have af:=zq (fun W' (l:RSt W' g T c toks (zba toks 2 (zbu toks s)))=>zbq g T c toks aa W' _ zik l);have aD:=zq (fun W' st (l:RSt W' g T c toks st)=>zbq g T c toks aa W' st ziz l);have aA:=zq a7;have D:=fun o=>(h.alloc o).look;have u0:=fun o=>(D o).1;have u1:=fun o=>(D o).2.1;have v5:=fun o=>(D o).2.2.2.2.2.2.2.2;have aP:=h.here;have aQ:=h.many;have hn:=qac (W.alloc (.cells zfy 62)) (.cells (zcg 0 ⟨#[]⟩ (tk toks s.i).place) 62);rw [qae] at hn;have ah:=zq (ItR.mk ((h.alloc (.cells zfy 62)).alloc (.cells (zcg 0 ⟨#[]⟩ (tk toks s.i).place) 62)) (((Fr.refl W (·=g)).alloc _).alloc _) (zaf (qac W (.cells zfy 62)) _) hn);have HD:=zq (fun {st:RS} {cs:Array Value} {w:World} (h:ItR W g T c toks st cs w)=>(⟨h.st.drew,h.fr.drew,h.res,h.itm⟩:ItR W g T c toks st cs w.drew));have aO:=@zgy;clear h a7 aa D hn;go_enter func34,ntmps34;go_wp2;go_region;all_goals go_wp2_with (first
  | (go_at_call 32;refine (G.o _ (kay:ItR W g T c toks s _ _).st).mono ?_;rintro e1 w1 ⟨rfl,p⟩;have I:=zq ((kay:ItR W g T c toks s (zcg 0 ⟨#[]⟩ (tk toks s.i).place) _).move hg ((kay:ItR W g T c toks s (zcg 0 ⟨#[]⟩ (tk toks s.i).place) _).st.below p) (Fr.of_below p));clear p G)
  | (go_at_call 32;refine (J.o _ (I.o:ItR W g T c toks s _ _).st).mono ?_;rintro e2 w2 ⟨rfl,p⟩;have M:=zq ((I.o:ItR W g T c toks s (zcg 0 ⟨#[]⟩ (tk toks s.i).place) _).move hg ((I.o:ItR W g T c toks s (zcg 0 ⟨#[]⟩ (tk toks s.i).place) _).st.below p) (Fr.of_below p));clear p J)
  | (go_at_call 32;refine (O.o _ (M.o:ItR W g T c toks s _ _).st).mono ?_;rintro e3 w3 ⟨rfl,p⟩;have x:=zq ((M.o:ItR W g T c toks s (zcg 0 ⟨#[]⟩ (tk toks s.i).place) _).move hg ((M.o:ItR W g T c toks s (zcg 0 ⟨#[]⟩ (tk toks s.i).place) _).st.below p) (Fr.of_below p));clear p O;obtain ⟨s0,s1,s2,s3,z1,z2,z3⟩:=x.o.st.facts;have k0:=zab x.o.itm 0;have f0:=zac x.o.itm 0)
  | (go_at_call 56;refine (aB.o _ x.o.st).mono ?_;rintro e4 w4 ⟨rfl,b,hF⟩;have X:=zq (x.o.move hg b hF);obtain ⟨r0,r1,r2,r3,-,-,-⟩:=X.o.st.facts;clear b hF)
  | (go_at_call 57;refine (HK.o _ X.o.st).mono ?_;rintro e5 w5 ⟨rfl,b,hF⟩;have Y:=zq (X.o.move hg b hF);have k1:=zab Y.o.itm 1;have f1:=zac Y.o.itm 1;clear b hF)
  | (go_at_call 58;have a1:=zq (Y.o.put (cells':=zcg 0 (zai toks 2 (zbu toks s)).text (tk toks s.i).place) hg hT 1 (.string (zai toks 2 (zbu toks s)).text) rfl);refine (af.o _ a1.o.st).mono ?_;rintro e7 w7 ⟨rfl,b,hF⟩;have Z:=zq (a1.o.move hg b hF);clear b hF af)
  | (go_at_call 59;refine (aA.o _ _ Z.o.st).mono ?_;rintro e8 w8 ⟨y,d,cs,L,st,rfl,ad,b,hF,hQ⟩;obtain ⟨v3,v4,aU,v6,rfl,-,-,-,-,r,n3,c3,u,n4,c4,A5,B,c5,A6,n6,c6,rfl,rfl,rfl,rfl⟩:=zay ad;have m:=zq (Z.o.move hg b hF);have aC:=zq ad;have HQ:=zq hQ;have au:=zq (And.intro (zam Z.o.itm) hF.size);have l0:=fun j=>zab m.o.itm j;have m2:=zac m.o.itm 2;have m3:=zac m.o.itm 3;have m4:=zac m.o.itm 4;have m5:=zac m.o.itm 5;have m6:=zac m.o.itm 6;have m7:=zac m.o.itm 7;have m8:=zac m.o.itm 8;have m9:=zac m.o.itm 9;obtain ⟨⟨q0,q1,q2,q3,q4,q5,q6,q7,q8,q9,aK⟩,-⟩:=zbd m.o.itm;clear ad b hF hQ l0)
  | (go_at_call 58;have a6:=zq (m.o.put8 (k:=0) (n:=(zai toks 2 (zbu toks s)).text) (a:=(tk toks s.i).place) hg hT (.int .i64 y.f0) (.string y.f1) (.string y.f2) (.slice r n3 c3) (.slice u n4 c4) (.slice A5 B c5) (.slice A6 n6 c6) (.int .i64 y.f7));refine (aD.o _ _ a6.o.st).mono ?_;rintro aM aL ⟨rfl,b,hF⟩;have U:=zq (a6.o.move hg b hF);have a8:=zq hF;obtain ⟨⟨q0,q1,q2,q3,q4,q5,q6,q7,q8,q9,aK⟩,-⟩:=zbd U.o.itm;obtain ⟨⟨o0,o1,o2,o3,o4,o5,o6,o7,o8,o9,aS⟩,⟨p0,p1,p2,p3,p4,p5,p6,p7,p8,p9,aT⟩⟩:=zbd U.o.res;clear b hF))
 all_goals
  obtain ⟨R1,R2,R3⟩:=U.o.over hg hT (.int .i64 0) (.string (zai toks 2 (zbu toks s)).text) (.int .i64 y.f0) (.string y.f1) (.string y.f2) (.slice r n3 c3) (.slice u n4 c4) (.slice A5 B c5) (.slice A6 n6 c6) (.int .i64 y.f7) (.int .i64 (tk toks s.i).place);refine qaf (qat rfl _ _ W.heap.size 62 #[.int .i64 0,.string (zai toks 2 (zbu toks s)).text,.int .i64 y.f0,.string y.f1,.string y.f2,.slice r n3 c3,.slice u n4 c4,.slice A5 B c5,.slice A6 n6 c6,.int .i64 y.f7,.int .i64 (tk toks s.i).place] (0,0) _ rfl R1 underlying62 rfl kae) rfl ?_;have aR:=au.o;have E:=aC.o;have aG:=E.fr (zoh w8 (W.heap.size+1) (.int .i64 y.f0) (.string y.f1) (.string y.f2) (.slice r n3 c3) (.slice u n4 c4) (.slice A5 B c5) (.slice A6 n6 c6) (.int .i64 y.f7)) (fun z A e=>by have:=(E.lt z A).1;omega);have aE:=aG.fr a8.o (fun z A e=>by have:=(E.lt z A).1;omega);have aF:=aE.fr (zez aL W.heap.size (.int .i64 0) (.string (zai toks 2 (zbu toks s)).text) (.int .i64 y.f0) (.string y.f1) (.string y.f2) (.slice r n3 c3) (.slice u n4 c4) (.slice A5 B c5) (.slice A6 n6 c6) (.int .i64 y.f7) (.int .i64 (tk toks s.i).place)) (fun z A e=>by have:=(E.lt z A).1;omega);exact ⟨y,d,_,L,st,rfl,aF.lower kab,R2,R3,HQ.o⟩
end
end
section
def OkI (r:PR S62) (p:Int) (x:S62) (st:RS):Prop:=match r with
 | .ok y j=>x=y/\st=⟨j,0,p⟩
 | .bad e q=>st.e=e/\st.p=q/\e≠0
def zug (W:World) (g T c:Nat) (toks:List Tok) (Q:S62->RS->Prop) (e:Ending) (W':World):Prop:=
 ∃ x ts L st,e = .returned (.agg (([Value.int .i64 x.f0,Value.string x.f1]:List Value)++ts++[Value.int .i64 x.f3]).toArray)/\Tree W' W.heap.size x.f2 ts L/\RSt W' g T c toks st/\Fr W W' (·=g)/\Q x st
def RowQ (toks:List Tok) (k:Nat) (st:RS) (x:S60) (d:Int) (ay:RS):Prop:=
 (st.e=0/\∃ r,zcd toks k 0 st.i=some r/\OkQ r st.p x d ay)\/(st.e≠0/\ay=st)
section
variable {toks:List Tok}
theorem item_fin (k n i:Nat) (p kd:Int) (w:ByteArray) (G:w=if kd=1 then sEq else zik) (hn:n≠100) (hk:(if (tk toks i).kind=1 then zfj (tk toks i) else none)=some kd) (r:PR S62) (hr:zfq toks k n i=some r) (x:S60) (d:Int) (st:RS)
  (b:RowQ toks k (zdm toks w (zba toks 2 ⟨i+1,0,p⟩)) x d st):OkI r p ⟨kd,(zai toks 2 ⟨i+1,0,p⟩).text,x,(tk toks i).place⟩ (zdm toks ziz st):=by
 unfold zfq at hr;rw [hk] at hr;dsimp only at hr;rw [if_neg hn] at hr;unfold ofP at hr;by_cases m:(tk toks (i+1)).kind=2
 ·rw [if_pos m] at hr;have o:zba toks 2 ⟨i+1,0,p⟩=⟨i+1+1,0,p⟩:=by simp [zba,m]
  have E:zai toks 2 ⟨i+1,0,p⟩=tk toks (i+1):=by simp [zai,m]
  rw [o,ziv] at b;rw [E];dsimp only at hr;rw [<-G] at hr;unfold zdf at hr;by_cases u:isT (tk toks (i+1+1)) w=true
  ·rw [if_pos u] at hr b;dsimp only at hr;rcases b with ⟨-,s,hs,b⟩|⟨l,-⟩
   ·dsimp only at hs b;rw [hs] at hr;cases s with
    | bad e q=>
     obtain ⟨B,I,D⟩:=b;have l:st.e≠0:=(by rw [B];exact D);rw [zen l];obtain rfl:=qaa hr;exact ⟨B,I,D⟩
    | ok y j=>
     obtain ⟨rfl,rfl,-,rfl⟩:=b;rw [ziv];dsimp only at hr;by_cases z:isT (tk toks j) ziz=true
     ·rw [if_pos z] at hr ⊢;obtain rfl:=qaa hr;exact ⟨rfl,rfl⟩
     rw [if_neg z] at hr ⊢;obtain rfl:=qaa hr;exact ⟨rfl,rfl,kad⟩
   exact absurd rfl l
  rw [if_neg u] at hr b;obtain rfl:=qaa hr;rcases b with ⟨l,-⟩|⟨l,rfl⟩
  ·exact absurd l (by show ¬(90:Int)=0;decide)
  rw [zen l];exact ⟨rfl,rfl,kad⟩
 rw [if_neg m] at hr;obtain rfl:=qaa hr;have o:zba toks 2 ⟨i+1,0,p⟩=⟨i+1,90,(tk toks (i+1)).place⟩:=by simp [zba,m,zbu,zcb]
 have l:(⟨i+1,90,(tk toks (i+1)).place⟩:RS).e≠0:=by show (90:Int)≠0;decide
 rw [o,zen l] at b;rcases b with ⟨A,-⟩|⟨A,rfl⟩
 ·exact absurd A l
 rw [zen l];exact ⟨rfl,rfl,kad⟩
theorem zgx {t:Tok} (h:t.kind=1) (s:ByteArray):isT t s=(t.text.toList==s.toList):=by simp [isT,h]
end
section
variable (g T c:Nat) (toks:List Tok) (aa:∀ k,k<toks.length->(tk toks k).kind≠8->k+1<toks.length) (aw:∀ i,(tk toks i).kind=7->(tk toks i).text.size=1)
include aa
theorem znf (k:Nat) (hk:5*toks.length+4<=k) (W:World) (st:RS) (h:RSt W g T c toks st):Calls prog 59 #[.pointer (some ⟨g,0,none⟩),.string sOr] W (zem W g T c toks (RowQ toks k st)):=by
 by_cases b:st.e=0
 ·obtain ⟨r,hr,-⟩:=zmj aa k 0 st.i kab h.here kab;obtain ⟨j,e,p⟩:=st;have b:e=0:=b;subst b;refine ((condR g T c toks aa k).1 W j p r hr h).mono ?_;rintro e w ⟨x,d,cs,L,st,h1,l,m,n,o⟩;exact ⟨x,d,cs,L,st,h1,l,m,n,.inl ⟨rfl,r,hr,o⟩⟩
 refine (rowE_or g T c toks aa W st b h).mono ?_;rintro e w ⟨x,d,cs,L,ay,h1,l,m,n,o⟩;exact ⟨x,d,cs,L,ay,h1,l,m,n,.inr ⟨b,o⟩⟩
include aw
theorem zuw (k n i:Nat) (p:Int) (r:PR S62) (hk:5*toks.length+4<=k) (hn:n≠100) (hr:zfq toks k n i=some r) (W:World) (h:RSt W g T c toks ⟨i,0,p⟩) :
  Calls prog 34 #[.pointer (some ⟨g,0,none⟩)] W (zug W g T c toks (OkI r p)):=by
 have B:=fun W' st U=>znf g T c toks aa k hk W' st U;have fin:∀ (kd:Int) (w:ByteArray),w=(if kd=1 then sEq else zik)->(if (tk toks i).kind=1 then zfj (tk toks i) else none)=some kd ->
   ∀ e w',zub W g T c toks kd (tk toks i).place ⟨i+1,0,p⟩ w (RowQ toks k) e w'->zug W g T c toks (OkI r p) e w':=fun kd w J I e w' ⟨x,d,ts,L,st,h1,D,u,E,y⟩=>
  ⟨⟨kd,(zai toks 2 ⟨i+1,0,p⟩).text,x,(tk toks i).place⟩,ts,L,_,h1,D,u,E,item_fin k n i p kd w J hn I r hr x d st y⟩
 have b:∀ w:ByteArray,isR toks w ⟨i,0,p⟩=isT (tk toks i) w:=fun w=>zdx toks w i p;have Z:sLet.size=3:=kae;have s2:zde.size=5:=kae;have s3:zet.size=4:=kae;have none_:(if (tk toks i).kind=1 then zfj (tk toks i) else none)=none->isT (tk toks i) sLet=false->isT (tk toks i) zde=false->isT (tk toks i) zet=false ->
   Calls prog 34 #[.pointer (some ⟨g,0,none⟩)] W (zug W g T c toks (OkI r p)):=fun I m q O=>by
  refine (znp g T c toks aa W ⟨i,0,p⟩ (RowQ toks k) (by rw [b];exact m) (by rw [b];exact q) (by rw [b];exact O) h B).mono ?_;rintro e w' ⟨x,d,ts,L,st,h1,D,u,E,y⟩;unfold zfq at hr;rw [I] at hr;obtain rfl:=qaa hr;have j:zbu toks ⟨i,0,p⟩=⟨i,90,(tk toks i).place⟩:=by simp [zbu,zcb]
  have z:(⟨i,90,(tk toks i).place⟩:RS).e≠0:=by show (90:Int)≠0;decide
  rw [j,zhn z,zen z] at y;rcases y with ⟨X,-⟩|⟨-,rfl⟩
  ·exact absurd X z
  rw [zen z] at u;exact ⟨⟨0,_,x,(tk toks i).place⟩,ts,L,_,h1,D,u,E,rfl,rfl,kad⟩
 by_cases h1:(tk toks i).kind=1
 ·have A:∀ v,zfj (tk toks i)=v->(if (tk toks i).kind=1 then zfj (tk toks i) else none)=v:=fun v Y=>(if_pos h1).trans Y;by_cases j:(tk toks i).text.toList=sLet.toList
  ·have l:=A (some 1) (by unfold zfj;rw [if_pos j]);exact (itemR_let g T c toks aa W ⟨i,0,p⟩ (RowQ toks k) (by rw [b,zgx h1,j];simp) h B).mono (fin 1 sEq rfl l)
  have m:isT (tk toks i) sLet=false:=by rw [zgx h1];exact qag.2 j
  by_cases o:(tk toks i).text.toList=zde.toList
  ·have l:=A (some 2) (by unfold zfj;rw [if_neg j,if_pos o]);exact (itemR_allow g T c toks aa W ⟨i,0,p⟩ (RowQ toks k) (by rw [b];exact m) (by rw [b,zgx h1,o];simp) h B).mono (fin 2 zik rfl l)
  have q:isT (tk toks i) zde=false:=by rw [zgx h1];exact qag.2 o
  by_cases s:(tk toks i).text.toList=zet.toList
  ·have l:=A (some 3) (by unfold zfj;rw [if_neg j,if_neg o,if_pos s]);exact (itemR_deny g T c toks aa W ⟨i,0,p⟩ (RowQ toks k) (by rw [b];exact m) (by rw [b];exact q) (by rw [b,zgx h1,s];simp) h B).mono (fin 3 zik rfl l)
  have l:=A none (by unfold zfj;rw [if_neg j,if_neg o,if_neg s]);exact none_ l m q (by rw [zgx h1];exact qag.2 s)
 have M:∀ w:ByteArray,w.size≠1->isT (tk toks i) w=false:=fun w J=>by
  cases G:isT (tk toks i) w with
  | false=>rfl
  | true=>
   unfold isT at G;rw [qbd,Bool.or_eq_true,qaq,qaq,qaq] at G;have:=aw i kab;rw [zch G.2] at this;exact absurd this J
 exact none_ (if_neg h1) (M _ kab) (M _ kab) (M _ kab)
omit aw in
theorem zve (W:World) (s:RS) (b:s.e≠0) (h:RSt W g T c toks s) :
  Calls prog 34 #[.pointer (some ⟨g,0,none⟩)] W (zug W g T c toks (fun _ st=>st=s)):=by
 refine (znp g T c toks aa W s (RowQ toks (5*toks.length+4)) (zdz toks b) (zdz toks b) (zdz toks b) h fun W' st m=>znf g T c toks aa _ (qad _) W' st m).mono ?_;rintro e w' ⟨x,d,ts,L,st,h1,n,j,o,l⟩;rw [zfr toks b,zhn b,zen b] at l;rcases l with ⟨p,-⟩|⟨-,rfl⟩
 ·exact absurd p b
 rw [zen b] at j;exact ⟨⟨0,_,x,_⟩,ts,L,_,h1,n,j,o,rfl⟩
end
end
end Go.Proofs.YtjeekocidaogoaaGreatDoor.H
namespace Go.Proofs.YtjeekocidaogoaaGreatDoor.H
open Go.Proofs.YtjeekocidaogoaaGreatDoorW.PrintWords
section
def digB (b:UInt8):Bool:=decide (48<=b.toNat/\b.toNat<=57)
def valD (a:Nat) (l:List UInt8):Nat:=l.foldl (fun a b=>10*a+(b.toNat-48)) a
def can (l:List UInt8):Prop:=l≠[]/\l.all digB=true/\(l.length=1\/l.head?.map (·.toNat)≠some 48)
instance (l:List UInt8):Decidable (can l):=by unfold can;infer_instance
theorem ziw (a:Nat):valD a []=a:=rfl
theorem zgi (a:Nat) (b:UInt8) (r:List UInt8):valD a (b::r)=valD (10*a+(b.toNat-48)) r:=List.foldl_cons ..
theorem zre (a:Nat) (b:UInt8):valD a [b]=10*a+(b.toNat-48):=by rw [zgi,ziw]
theorem zrz (a b:List UInt8) (h:a≠[]):(a++b).head?=a.head?:=by
 cases a with
 | nil=>exact absurd rfl h
 | cons x a=>rfl
theorem snoc_of (l:List UInt8) (h:l≠[]):∃ m b,l=m++[b]:=⟨l.dropLast,l.getLast h,(List.dropLast_concat_getLast h).symm⟩
theorem ztx (b:UInt8) (h:[b].all digB=true):48<=b.toNat/\b.toNat<=57:=by
 rw [List.all_cons,List.all_nil,Bool.and_true] at h;exact qbl h
theorem ztn (b:UInt8) (h:48<=b.toNat/\b.toNat<=57):[b].all digB=true:=by
 rw [List.all_cons,List.all_nil,Bool.and_true];exact qab h
theorem zld:∀ (l:List UInt8) (a:Nat) (b:UInt8),valD a (l++[b])=10*valD a l+(b.toNat-48)
 | [],_,_=>rfl
 | _::r,_,b=>zld r _ b
theorem zqk:∀ (l:List UInt8) (a:Nat),a*10 ^ l.length<=valD a l
 | [],a=>by rw [List.length_nil,ziw,Nat.pow_zero,Nat.mul_one];exact qad _
 | b::r,a=>by
  have h:=zqk r (10*a+(b.toNat-48));rw [zgi];refine qbf ?_ h;rw [qay,Nat.pow_succ,Nat.mul_comm (10 ^ r.length) 10,<-Nat.mul_assoc];exact Nat.mul_le_mul_right _ kab
theorem valD_mono (l:List UInt8) (a:Nat):a<=valD a l:=by
 have h:=zqk l a;have:1<=10 ^ l.length:=Nat.pow_pos kad;exact qbf (by simpa using Nat.mul_le_mul_left a this) h
theorem ztq (l:List UInt8) (h:can l):l.length=1\/10 ^ (l.length-1)<=valD 0 l:=by
 obtain ⟨h1,j,d⟩:=h;rcases d with d|d
 ·exact .inl d
 match l with
 | b::r=>
  refine .inr ?_;rw [List.all_cons,qbd] at j;have m:=qbl j.1;have n:b.toNat≠48:=fun e=>d (by simp [e]);rw [zgi,qay,Nat.add_sub_cancel];have h:=zqk r (10*0+(b.toNat-48));exact qbf (by simpa using Nat.mul_le_mul_right (10 ^ r.length) (show 1<=10*0+(b.toNat-48) by omega)) h
theorem ztr (n:Nat) (h:n<256):(UInt8.ofNat n).toNat=n:=kbv
theorem zqd (b:UInt8) (h:48<=b.toNat):UInt8.ofNat (48+(b.toNat-48))=b:=by
 rw [show 48+(b.toNat-48)=b.toNat by omega];simp
theorem dec_can (u:Nat):can (Lib.decDigits u)/\valD 0 (Lib.decDigits u)=u/\(u≠0->(Lib.decDigits u).head?.map (·.toNat)≠some 48):=by
 induction u using Nat.strongRecOn with
 | _ u j=>
  rw [Lib.decDigits];by_cases h:u<10
  ·rw [dif_pos h];have b:=ztr (48+u) kab;refine ⟨⟨by simp,?_,.inl rfl⟩,?_,fun n=>?_⟩
   ·exact ztn _ kab
   ·rw [zre];omega
   rw [List.head?_cons,Option.map_some,b];intro e;have:=qaa e;omega
  rw [dif_neg h];obtain ⟨⟨i1,i2,i3⟩,m,l⟩:=j (u/10) kab;have b:=ztr (48+u%10) kab;have d:(Lib.decDigits (u/10)++[UInt8.ofNat (48+u%10)]).head?.map (·.toNat)≠some 48:=by
   rw [zrz _ _ i1];exact l kab
  refine ⟨⟨by simp,?_,.inr d⟩,?_,fun _=>d⟩
  ·rw [List.all_append,i2,Bool.true_and];exact ztn _ kab
  rw [zld,m,b];omega
theorem can_dec:∀ (n:Nat) (l:List UInt8),l.length=n->can l->Lib.decDigits (valD 0 l)=l:=by
 intro n;induction n with
 | zero=>
  intro l p h;exact absurd (qbz.1 p) h.1
 | succ n w=>
  intro l p h;obtain ⟨h1,j,d⟩:=h;obtain ⟨m,b,rfl⟩:∃ m b,l=m++[b]:=snoc_of l h1;rw [List.all_append,qbd] at j;have r:=ztx b j.2;have u:m.length=n:=by simpa using p
  rw [zld];by_cases hn:m=[]
  ·subst hn;rw [ziw,Nat.mul_zero,Nat.zero_add,Lib.decDigits,dif_pos kab,zqd b r.1];rfl
  have s:m.head?.map (·.toNat)≠some 48:=by
   rcases d with d|d
   ·rw [qas] at d;have:m.length≠0:=fun e=>hn (qbz.1 e);simp at d;exact absurd d hn
   rwa [zrz _ _ hn] at d
  have o:can m:=⟨hn,j.1,.inr s⟩;have x:1<=valD 0 m:=by
   rcases ztq m o with q|q
   ·obtain ⟨c,rfl⟩:=List.length_eq_one_iff.1 q;have o:=ztx c j.1;have:c.toNat≠48:=fun e=>s (by rw [List.head?_cons,Option.map_some,e]);rw [zre];omega
   exact qbf (Nat.pow_pos kad) q
  rw [Lib.decDigits,dif_neg kab,show (10*valD 0 m+(b.toNat-48))/10=valD 0 m by omega,show (10*valD 0 m+(b.toNat-48))%10=b.toNat-48 by omega,w m u o,zqd b r.1]
theorem zpo:∀ (l:List UInt8) (a:Nat),l.all digB=true->valD a l<18446744073709551616->Lib.parseUint10 a l = .ok (valD a l)
 | [],a,_,_=>rfl
 | c::r,a,h,b=>by
  rw [List.all_cons,qbd] at h;have d:=qbl h.1;rw [zgi] at b ⊢;have e:=valD_mono r (10*a+(c.toNat-48));simp only [Lib.parseUint10];rw [if_pos d,if_neg kab,if_neg kab,Nat.mul_comm a 10];exact zpo r _ h.2 b
theorem zsf (l:List UInt8) (h:l≠[]) (hd:l.all digB=true) (d:valD 0 l<9223372036854775808):Lib.atoiAll l = .ok (valD 0 l:Int):=by
 match l with
 | c::r=>
  have b:48<=c.toNat/\c.toNat<=57:=qbl (by rw [List.all_cons,qbd] at hd;exact hd.1);simp only [Lib.atoiAll];rw [if_neg kab,Lib.parseMag,if_neg h,zpo _ 0 hd kab];simp only;rw [if_neg kab,if_neg kab,if_neg kab]
theorem atoi_back (l:List UInt8) (v:Int) (h:Lib.atoiAll l = .ok v) (d:0<=v) (b:Lib.itoa v=l):can l/\v=(valD 0 l:Int):=by
 obtain ⟨u,rfl⟩:∃ u:Nat,v=(u:Int):=⟨v.toNat,kab⟩;rw [Lib.itoa_nonneg] at b;have h1:=dec_can u;rw [b] at h1;exact ⟨h1.1,by rw [h1.2.1]⟩
def cutS (c:UInt8):List UInt8->Option (List UInt8×List UInt8)
 | []=>none
 | b::r=>if b=c then some ([],r) else (cutS c r).map fun x=>(b::x.1,x.2)
theorem zkz (c:UInt8):∀ (l a b:List UInt8),cutS c l=some (a,b)->l=a++c::b/\c∉a
 | [],_,_,h=>by cases h
 | x::r,a,b,h=>by
  rw [cutS] at h;split at h
  ·rename_i d;cases h;exact ⟨by rw [d];rfl,by simp⟩
  rename_i d
  match hr:cutS c r with
  | none=>rw [hr] at h;cases h
  | some (e,b')=>
   rw [hr] at h;cases h;obtain ⟨h1,j⟩:=zkz c r e b' hr;exact ⟨by rw [h1];rfl,by simp [j,Ne.symm d]⟩
theorem zpy (c:UInt8):∀ l:List UInt8,cutS c l=none↔c∉l
 | []=>by simp [cutS]
 | x::r=>by
  rw [cutS];have:=zpy c r;by_cases b:x=c
  ·rw [if_pos b];simp [b]
  rw [if_neg b];simp [this,Ne.symm b]
theorem zjh (c:UInt8):∀ l:List UInt8,Lib.index l [c]=match cutS c l with|none => -1|some (a,_)=>(a.length:Int)
 | []=>rfl
 | x::r=>by
  have e:=zjh c r;rw [Lib.index,cutS];by_cases d:x=c
  ·subst d;rw [if_pos (by simp),if_pos rfl];rfl
  have hp:([c].isPrefixOf (x::r))=false:=by simp [List.isPrefixOf,Ne.symm d]
  rw [hp,if_neg kad,if_neg d,e];cases cutS c r with
  | none=>rfl
  | some y=>
   obtain ⟨a,b⟩:=y;simp only [Option.map_some,qay];rw [if_neg (by simp)];exact (Int.natCast_succ a.length).symm
theorem cut_cut (c:UInt8) (l:List UInt8):Lib.cut l [c]=match cutS c l with|none=>(l,[],false)|some (a,b)=>(a,b,true):=by
 have h:=zjh c l;unfold Lib.cut
 match d:cutS c l with
 | none=>rw [d] at h;rw [h,if_neg kad]
 | some (a,b)=>
  rw [d] at h;simp only at h;obtain ⟨h1,_⟩:=zkz c l a b d;rw [h,if_pos kab,qau,h1];simp
theorem zpv (s:ByteArray) (a b:Nat):(s.extract a b).data.toList=(s.data.toList.drop a).take (b-a):=by
 simp [ByteArray.data_extract,Array.toList_extract]
theorem dots_none (s:ByteArray) (c:UInt8) (h:cutS c s.data.toList=none):Lib.splitB ⟨#[c]⟩ 0 (Lib.countB s ⟨#[c]⟩) s=[s]:=by
 have hi:Lib.indexB s ⟨#[c]⟩ = -1:=by have:=zjh c s.data.toList;rw [h] at this;exact this
 exact Lib.splitB_miss _ _ _ _ hi
theorem dots_some (s:ByteArray) (c:UInt8) (a b:List UInt8) (h:cutS c s.data.toList=some (a,b)) :
  ∃ x y:ByteArray,x.data.toList=a/\y.data.toList=b/\Lib.splitB ⟨#[c]⟩ 0 (Lib.countB s ⟨#[c]⟩) s=x::Lib.splitB ⟨#[c]⟩ 0 (Lib.countB y ⟨#[c]⟩) y:=by
 have hi:Lib.indexB s ⟨#[c]⟩=(a.length:Int):=by have:=zjh c s.data.toList;rw [h] at this;exact this
 obtain ⟨h1,_⟩:=zkz c _ a b h;have d:(ByteArray.mk #[c]).size=1:=rfl;refine ⟨s.extract 0 (a.length+0),s.extract (a.length+1) s.size,?_,?_,?_⟩
 ·rw [zpv,h1];simp
 ·rw [zpv,h1];have e:s.size=a.length+(b.length+1):=by
   have:s.data.toList.length=s.size:=(by simp);rw [<-this,h1];simp
  rw [e];simp;rw [List.take_of_length_le kab]
 have hh:=Lib.countB_hit s ⟨#[c]⟩ a.length (by rw [d];decide) hi;rw [hh,Nat.add_comm 1,Lib.splitB_hit _ _ _ _ _ hi];rfl
def numC (l:List UInt8) (m:Nat):Option Nat:=if can l/\valD 0 l<=m then some (valD 0 l) else none
theorem zdk {l:List UInt8} {m n:Nat} (h:numC l m=some n):can l/\n=valD 0 l/\n<=m:=by
 unfold numC at h;split at h
 ·rename_i b;obtain rfl:=qaa h;exact ⟨b.1,rfl,b.2⟩
 cases h
theorem numC_none {l:List UInt8} {m:Nat} (h:numC l m=none) (d:can l):m<valD 0 l:=by
 unfold numC at h;split at h
 ·cases h
 rename_i h1;rcases Nat.lt_or_ge m (valD 0 l) with b|b
 ·exact b
 exact absurd ⟨d,b⟩ h1
theorem zlw (l:List UInt8) (m:Nat) (b:Bool) (h:b=true↔can l/\valD 0 l<=m):(numC l m).isSome=b:=by
 unfold numC;by_cases d:can l/\valD 0 l<=m
 ·rw [if_pos d,h.2 d];rfl
 rw [if_neg d];cases b with
 | false=>rfl
 | true=>exact absurd (h.1 rfl) d
theorem zqy (l:List UInt8) (m:Nat) (v:Int) (h:Lib.atoiAll l = .ok v) (o:m<9223372036854775808) :
  (decide (0<=v)&&(decide (v<=(m:Int))&&(Lib.itoa v==l)))=(numC l m).isSome/\∀ n,numC l m=some n->v=(n:Int):=by
 have key:∀ n,numC l m=some n->v=(n:Int):=by
  intro n hn;obtain ⟨h1,b,e⟩:=zdk hn;have:=zsf l h1.1 h1.2.1 kab;rw [h] at this;injection this with this;omega
 refine ⟨?_,key⟩;cases hn:numC l m with
 | some n=>
  have j:=key n hn;obtain ⟨h1,b,e⟩:=zdk hn;subst j;rw [qab kab,qab kab,Lib.itoa_nonneg,b,can_dec _ l rfl h1];simp
 | none=>
  rw [Option.isSome_none,<-Bool.not_eq_true];intro d;simp only [qbd,decide_eq_true_eq,qaq] at d;obtain ⟨h1,b⟩:=atoi_back l v h d.1 d.2.2;have:=numC_none hn h1;omega
theorem ztv (l:List UInt8) (m:Nat) (h:∀ v,Lib.atoiAll l ≠ .ok v) (e:m<9223372036854775808):numC l m=none:=by
 cases hn:numC l m with
 | none=>rfl
 | some n=>
  obtain ⟨h1,b,d⟩:=zdk hn;exact absurd (zsf l h1.1 h1.2.1 kab) (h _)
theorem itoa_dig (l:List UInt8) (v:Int) (hd:l.all digB=true) (b:Lib.itoa v=l):0<=v:=by
 rcases Int.lt_or_le v 0 with h|h
 ·obtain ⟨u,hu,rfl⟩:∃ u:Nat,1<=u/\v = -(u:Int):=⟨v.natAbs,kab,kab⟩;rw [Lib.itoa_neg u hu] at b;rw [<-b,List.all_cons,qbd] at hd;have d:48<=(45:UInt8).toNat/\(45:UInt8).toNat<=57:=qbl hd.1;exact absurd d kad
 exact h
theorem atoi_dig (l:List UInt8) (m:Nat) (v:Int) (h:Lib.atoiAll l = .ok v) (d:m<9223372036854775808) (hd:l.all digB=true) :
  (decide (v<=(m:Int))&&(Lib.itoa v==l))=(numC l m).isSome:=by
 rw [<-(zqy l m v h d).1];by_cases b:0<=v
 ·rw [qab b,Bool.true_and]
 rw [qai b,Bool.false_and];have:(Lib.itoa v==l)=false:=by
  rw [<-Bool.not_eq_true,qaq];exact fun e=>b (itoa_dig l v hd e)
 rw [this,Bool.and_false]
theorem zqb (l:List UInt8) (h:can l) (d:Nat) (hd:1<=d) (e:valD 0 l<10 ^ d):l.length<=d:=by
 rcases ztq l h with h1|h1
 ·omega
 have b:10 ^ (l.length-1)<10 ^ d:=Nat.lt_of_le_of_lt h1 e;have:=(Nat.pow_lt_pow_iff_right (a:=10) kad).1 b;omega
end
end Go.Proofs.YtjeekocidaogoaaGreatDoor.H
namespace Go.Proofs.YtjeekocidaogoaaGreatDoor.H
open Go.RowKit Go.Proofs.YtjeekocidaogoaaGreatDoor.Hand Go.Proofs.YtjeekocidaogoaaGreatDoorW.PrintWords Go.Proofs.YtjeekocidaogoaaGreatDoorW.PrintLast Go.Proofs.YtjeekocidaogoaaGreatDoorW.PrintMore
section
theorem zph (x:ByteArray):x.toList=bl x:=Go.Lib.toList_data x
theorem digit08 (c:Int):lychgateref08_digit.f c=some (decide (48<=c/\c<=57)):=by
 unfold lychgateref08_digit.f;by_cases h:c>=48
 ·rw [if_pos h];congr 1;by_cases b:c<=57
  ·rw [qab b,qab ⟨h,b⟩]
  rw [qai b,qai (fun d=>b d.2)]
 rw [if_neg h,qai (fun d=>h d.1)]
theorem dig_dec (b:UInt8):decide (48<=(b.toNat:Int)/\(b.toNat:Int)<=57)=digB b:=by
 unfold digB;congr 1;exact propext ⟨fun h=>⟨kab,kab⟩,fun h=>⟨kab,kab⟩⟩
def lim:Nat->Nat
 | 0=>1
 | i+1=>10*lim i
theorem zps {i:Nat} (h:i<=9):lim i<=1000000000:=(show ∀ j:Fin 10,lim j.val<=1000000000 by decide) ⟨i,kab⟩
theorem zrt (i:Nat):lim (i+1)=10*lim i:=rfl
theorem zoa {x:Int} (b:0<=x) (h1:x<9223372036854775808):wrap64 x=x:=by unfold wrap64;omega
theorem zns {a:Nat} {b:UInt8} (j:a<=1000000000) (l:48<=b.toNat/\b.toNat<=57):wrap64 (wrap64 (10*(a:Int))+((b.toNat:Int)-48)%256)=((10*a+(b.toNat-48):Nat):Int):=by
 have d:wrap64 (10*(a:Int))=10*(a:Int):=zoa kab kab;have e:((b.toNat:Int)-48)%256=((b.toNat-48:Nat):Int):=kab;rw [d,e,zoa kab kab];omega
theorem zqc {v n:Nat} (d:v<=16777216) (hn:n<=255):wrap64 (wrap64 (256*(v:Int))+(n:Int))=((256*v+n:Nat):Int):=by
 have b:wrap64 (256*(v:Int))=256*(v:Int):=zoa kab kab;rw [b,zoa kab kab];omega
theorem zsh (x:ByteArray) (m:Nat) (l:x.size<=8000) (j:m<=4294967295):∃ v,addr_number.f x (m:Int)=some (v,(numC (bl x) m).isSome)/\∀ n,numC (bl x) m=some n->v=(n:Int):=by
 unfold addr_number.f;rw [if_pos ⟨kab,kab⟩,zph];have e:x.data.toList=bl x:=rfl;rw [e];cases h:Lib.atoiAll (bl x);case ok v=>
  obtain ⟨h1,d⟩:=zqy (bl x) m v h kab;exact ⟨v,by rw [<-h1],d⟩
 all_goals
  have:=ztv (bl x) m (fun v b=>by rw [h] at b;cases b) kab;rw [this];exact ⟨_,rfl,fun n hn=>by cases hn⟩
theorem zkv (x:ByteArray) (d:x.size<=8000):(zef x).2=(numC (bl x) 255).isSome/\∀ n,numC (bl x) 255=some n->(zef x).1=(n:Int):=by
 obtain ⟨v,h1,b⟩:=zsh x 255 d kad;have:addr_number.f x 255=some (v,(numC (bl x) 255).isSome):=h1;unfold zef;rw [this];exact ⟨rfl,b⟩
def resD (v:Nat) (ok b:Bool):Int×Bool:=match ok with|true=>((v:Int),b)|false=>(0,false)
theorem ref8_l0 (x:ByteArray) (w:x.size<=8000) (s:0<x.size):∀ (d i k a:Nat),i+d=x.size->i<=10->d+1<=k->a<lim i ->
  lychgateref08_number.l0 k x (a:Int) (i:Int)=some (resD (valD a ((bl x).drop i)) (((bl x).drop i).all digB&&decide (x.size<=10)) (decide (valD a ((bl x).drop i)<=4294967295)&&(decide (bt x 0≠48)||decide (x.size=1)))):=by
 have u:=zbi x;intro d;induction d with
 | zero=>
  intro i k a hi n hk p;obtain ⟨k,rfl⟩:∃ m,k=m+1:=⟨k-1,kab⟩;simp only [lychgateref08_number.l0];rw [if_neg kab,qav kab,ziw,List.all_nil,qab (show x.size<=10 by omega)];show _=some ((a:Int),_);by_cases l:a<=4294967295
  ·rw [if_pos kab,if_pos kab,qab l,Bool.true_and];by_cases e:bt x 0=48
   ·rw [if_pos e,qai (fun h=>h e),Bool.false_or];congr 2;rw [Bool.eq_iff_iff,qaq,qbu];omega
   rw [if_neg e,qab e,Bool.true_or]
  rw [if_neg kab,qai l,Bool.false_and]
 | succ d r=>
  intro i k a hi n hk p;obtain ⟨k,rfl⟩:∃ m,k=m+1:=⟨k-1,kab⟩;have j:i<(bl x).length:=kab;simp only [lychgateref08_number.l0];rw [if_pos kab,if_pos kab,digit08,zfl x i j,dig_dec,zel _ i j];simp only [qak,List.all_cons];generalize (bl x)[i]=b;by_cases hd:digB b=true
  ·rw [if_pos hd,hd,Bool.true_and];have q:48<=b.toNat/\b.toNat<=57:=qbl hd;by_cases o:i<=9
   ·have hp:=zps o;rw [if_neg kab,zcn i kab,zns kab q,
     r (i+1) k _ kab kab kab (by rw [zrt];omega),zgi]
   rw [if_pos kab,qai (show ¬x.size<=10 by omega),Bool.and_false];rfl
  have hf:digB b=false:=by simpa using hd
  rw [if_neg hd,hf,Bool.false_and,Bool.false_and];rfl
theorem ref8_num (x:ByteArray) (q:x.size<=8000) (l:0<x.size) (k:Nat) (hk:9000<=k):∃ v,lychgateref08_number.f k x=some (v,(numC (bl x) 4294967295).isSome)/\∀ n,numC (bl x) 4294967295=some n->v=(n:Int):=by
 have j:=zbi x;have h:=ref8_l0 x q l x.size 0 k 0 kab kab kab kad;unfold lychgateref08_number.f;rw [show ((0:Nat):Int)=0 from rfl] at h;rw [h];simp only [List.drop_zero];have m:bt x 0=((bl x)[0]'kab).toNat:=zfl x 0 kab;have p:(bl x).head?.map (·.toNat)=some ((bl x)[0]'kab).toNat:=by
  rw [List.head?_eq_getElem?,qan kab];rfl
 have o:can (bl x)↔(bl x).all digB=true/\(bt x 0≠48\/x.size=1):=by
  unfold can;rw [p,m];constructor
  ·rintro ⟨_,b,d|d⟩
   ·exact ⟨b,.inr kab⟩
   exact ⟨b,.inl (fun e=>d (by congr 1;omega))⟩
  rintro ⟨b,d|d⟩
  ·exact ⟨fun e=>by rw [e] at j;simp at j;omega,b,.inr (fun e=>d (by have:=qaa e;omega))⟩
  exact ⟨fun e=>by rw [e] at j;simp at j;omega,b,.inl kab⟩
 by_cases hd:(bl x).all digB=true/\x.size<=10
 ·rw [hd.1,qab hd.2];refine ⟨(valD 0 (bl x):Int),congrArg some (Prod.ext rfl ?_),fun n hn=>by rw [(zdk hn).2.1]⟩;refine (zlw _ _ _ ?_).symm;show (decide (valD 0 (bl x)<=4294967295)&&(decide (bt x 0≠48)||decide (x.size=1)))=true↔_;rw [qbd,Bool.or_eq_true,qbu,qbu,qbu,o];exact ⟨fun h=>⟨⟨hd.1,h.2⟩,h.1⟩,fun h=>⟨h.2,h.1.2⟩⟩
 have hf:((bl x).all digB&&decide (x.size<=10))=false:=by
  rw [<-Bool.not_eq_true,qbd,qbu];exact hd
 rw [hf];have hn:numC (bl x) 4294967295=none:=by
  cases hn:numC (bl x) 4294967295 with
  | none=>rfl
  | some n=>
   obtain ⟨h1,b,d⟩:=zdk hn;have:=zqb _ h1 10 kad kab;exact absurd ⟨h1.2.1,kab⟩ hd
 rw [hn];exact ⟨0,rfl,fun n hn=>by cases hn⟩
theorem ref3_l0 (x:ByteArray) (m:Nat) (p:x.size<=3):∀ (d i k a:Nat),i+d=x.size->d+1<=k->a<lim i ->
  lychgateref03_number.l0 k x (m:Int) (a:Int) (i:Int)=some (resD (valD a ((bl x).drop i)) (((bl x).drop i).all digB) (decide (valD a ((bl x).drop i)<=m))):=by
 have o:=zbi x;intro d;induction d with
 | zero=>
  intro i k a hi hk j;obtain ⟨k,rfl⟩:∃ m,k=m+1:=⟨k-1,kab⟩;simp only [lychgateref03_number.l0];rw [if_neg kab,qav kab,ziw,List.all_nil];show _=some ((a:Int),_);congr 2;rw [Bool.eq_iff_iff,qbu,qbu];omega
 | succ d l=>
  intro i k a hi hk j;obtain ⟨k,rfl⟩:∃ m,k=m+1:=⟨k-1,kab⟩;have e:i<(bl x).length:=kab;simp only [lychgateref03_number.l0];rw [if_pos kab,if_pos kab,zfl x i e,zel _ i e];simp only [List.all_cons];generalize (bl x)[i]=b;have hp:=zps (show i<=9 by omega);by_cases h1:b.toNat<48
  ·rw [if_pos kab,show digB b=false from qai kab,Bool.false_and];rfl
  rw [if_neg kab];by_cases n:b.toNat>57
  ·rw [if_pos kab,show digB b=false from qai kab,Bool.false_and];rfl
  have hd:digB b=true:=qab ⟨kab,kab⟩;rw [if_neg kab,hd,Bool.true_and,zcn i kab,zns kab ⟨kab,kab⟩,
   l (i+1) k _ kab kab (by rw [zrt];omega),zgi]
theorem zod (x:ByteArray) (m:Nat) (w:m<1000) (k:Nat) (hk:9000<=k):∃ v,lychgateref03_number.f k x (m:Int)=some (v,(numC (bl x) m).isSome)/\∀ n,numC (bl x) m=some n->v=(n:Int):=by
 have l:=zbi x;obtain ⟨k,rfl⟩:∃ m,k=m+1:=⟨k-1,kab⟩;have no:¬can (bl x)->∃ v,lychgateref03_number.j0 (k+1) x (m:Int) true=some (v,(numC (bl x) m).isSome)/\∀ n,numC (bl x) m=some n->v=(n:Int):=fun h=>by
  have:numC (bl x) m=none:=if_neg (fun b=>h b.1);rw [this];exact ⟨0,by simp only [lychgateref03_number.j0,if_true];rfl,fun n hn=>by cases hn⟩
 have p:x.size<=3->((bl x).all digB=true->can (bl x))->∃ v,lychgateref03_number.j0 (k+1) x (m:Int) false=some (v,(numC (bl x) m).isSome)/\∀ n,numC (bl x) m=some n->v=(n:Int):=fun r b=>by
  have h:=ref3_l0 x m r x.size 0 k 0 kab kab kad;rw [show ((0:Nat):Int)=0 from rfl] at h;simp only [lychgateref03_number.j0];rw [if_neg kad,h];simp only [List.drop_zero];by_cases hd:(bl x).all digB=true
  ·rw [hd];refine ⟨(valD 0 (bl x):Int),congrArg some (Prod.ext rfl ?_),fun n hn=>by rw [(zdk hn).2.1]⟩;refine (zlw _ _ _ ?_).symm;show decide (valD 0 (bl x)<=m)=true↔_;rw [qbu];exact ⟨fun h=>⟨b hd,h⟩,fun h=>h.2⟩
  have hf:(bl x).all digB=false:=by simpa using hd
  rw [hf];have:numC (bl x) m=none:=if_neg (fun b=>hd b.1.2.1);rw [this];exact ⟨0,rfl,fun n hn=>by cases hn⟩
 unfold lychgateref03_number.f;by_cases h1:x.size<1
 ·rw [if_pos kab];exact no (fun h=>h.1 (qbz.1 kab))
 rw [if_neg kab];by_cases u:x.size>3
 ·rw [if_pos kab];by_cases b:can (bl x)/\valD 0 (bl x)<=m
  ·have:=zqb _ b.1 3 kad kab;omega
  have:numC (bl x) m=none:=if_neg b;rw [this];exact ⟨0,by simp only [lychgateref03_number.j0,if_true];rfl,fun n hn=>by cases hn⟩
 rw [if_neg kab];have j:(bl x).head?.map (·.toNat)=some ((bl x)[0]'kab).toNat:=by
  rw [List.head?_eq_getElem?,qan kab];rfl
 have q:bt x 0=((bl x)[0]'kab).toNat:=zfl x 0 kab;have o:bl x≠[]:=fun e=>by rw [e] at l;simp at l;omega
 by_cases s:x.size>1
 ·rw [if_pos kab,if_pos kab,q];by_cases d:((bl x)[0]'kab).toNat=48
  ·rw [show ((((bl x)[0]'kab).toNat:Int)==48)=true by rw [qaq];omega];exact no (fun h=>by
    rcases h.2.2 with h|h
    ·omega
    exact h (by rw [j,d]))
  rw [show ((((bl x)[0]'kab).toNat:Int)==48)=false by rw [<-Bool.not_eq_true,qaq];omega];exact p kab (fun hd=>⟨o,hd,.inr (fun e=>d (by rw [j] at e;exact qaa e))⟩)
 rw [if_neg kab];exact p kab (fun hd=>⟨o,hd,.inl kab⟩)
theorem ref3_cut_l0 (s:ByteArray) (p:s.size<=8000) (c:UInt8):∀ (d i k:Nat),i+d=s.size->d+1<=k ->
  lychgateref03_cut.l0 k s (c.toNat:Int) (i:Int)=some (match cutS c ((bl s).drop i) with|none=>(s,(⟨#[]⟩:ByteArray),false)|some (a,b)=>(toS ((bl s).take i++a),toS b,true)):=by
 have o:=zbi s;intro d;induction d with
 | zero=>
  intro i k hi hk;obtain ⟨k,rfl⟩:∃ m,k=m+1:=⟨k-1,kab⟩;simp only [lychgateref03_cut.l0];rw [if_neg kab,qav kab];rfl
 | succ d n=>
  intro i k hi hk;obtain ⟨k,rfl⟩:∃ m,k=m+1:=⟨k-1,kab⟩;have j:i<(bl s).length:=kab;simp only [lychgateref03_cut.l0];rw [if_pos kab,if_pos kab,zfl s i j,zel _ i j,cutS];have l:(bl s).take (i+1)=(bl s).take i++[(bl s)[i]]:=by rw [List.take_append_getElem]
  by_cases h:(bl s)[i]=c
  ·rw [if_pos h,if_pos (by rw [h]),if_pos kab,zcn i kab,if_pos kab,if_pos kab,qau,qau,zfe,zki];simp
  rw [if_neg h,if_neg (fun e=>h (UInt8.toNat_inj.1 kab)),zcn i kab,n (i+1) k kab kab,l];cases cutS c ((bl s).drop (i+1)) with
  | none=>rfl
  | some y=>simp
theorem zrp (s:ByteArray) (d:s.size<=8000) (c:UInt8) (k:Nat) (hk:9000<=k) :
  lychgateref03_cut.f k s (c.toNat:Int)=some (match cutS c (bl s) with|none=>(s,(⟨#[]⟩:ByteArray),false)|some (a,b)=>(toS a,toS b,true)):=by
 have h:=ref3_cut_l0 s d c s.size 0 k kab kab;unfold lychgateref03_cut.f;simpa using h
theorem zib (c:UInt8) (l a b:List UInt8) (h:cutS c l=some (a,b)):a.length+b.length+1=l.length:=by
 rw [(zkz c l a b h).1];simp;omega
def zhq:Nat->Nat->List UInt8->Option Nat
 | 0,v,l=>(numC l 255).map fun n=>256*v+n
 | j+1,v,l=>match cutS 46 l with
  | none=>none
  | some (a,r)=>match numC a 255 with
   | none=>none
   | some n=>zhq j (256*v+n) r
def zoy:Option Nat->Int×Int
 | none=>(0,30)
 | some v=>((v:Int),0)
theorem ref3_parse_l0:∀ (j:Nat) (i k v:Nat) (s:ByteArray),s.size<=8000->i+j=3->9000+j+2<=k->v<256 ^ i ->
  lychgateref03_Parse.l0 k (v:Int) s (i:Int)=some (zoy (zhq j v (bl s))):=by
 have small:∀ i,i<=3->256 ^ i<=16777216:=fun i h=>(Nat.pow_le_pow_right (by decide:0<256) h:256 ^ i<=256 ^ 3);intro j;induction j with
 | zero=>
  intro i k v s l hi hk q;obtain ⟨k,rfl⟩:∃ m,k=m+1:=⟨k-1,kab⟩;obtain rfl:i=3:=kab;have:=small 3 kab;obtain ⟨x,h1,d⟩:=zod s 255 kad k kab;simp only [lychgateref03_Parse.l0];rw [if_pos kab,if_neg kab];have b:lychgateref03_number.f k s 255=some (x,(numC (bl s) 255).isSome):=h1;rw [b];simp only [qak];rw [zhq];cases hn:numC (bl s) 255 with
  | none=>rfl
  | some n=>
   have e:=d n hn;have:=(zdk hn).2.2;subst e;rw [Option.isSome_some,if_pos rfl];obtain ⟨k,rfl⟩:∃ m,k=m+1:=⟨k-1,kab⟩;rw [zcn 3 kab,zqc kab kab];simp only [lychgateref03_Parse.l0];rw [if_neg kab];rfl
 | succ j u=>
  intro i k v s l hi hk q;obtain ⟨k,rfl⟩:∃ m,k=m+1:=⟨k-1,kab⟩;have w:=zbi s;have:=small i kab;simp only [lychgateref03_Parse.l0];have o:=zrp s l 46 k kab;have p:lychgateref03_cut.f k s 46=_:=o;rw [if_pos kab,if_pos kab,p,zhq]
  match hcut:cutS 46 (bl s) with
  | none=>rfl
  | some (a,r)=>
   have y:=zib _ _ _ _ hcut;simp only [qak,if_true];obtain ⟨x,h1,d⟩:=zod (toS a) 255 kad k kab;have b:lychgateref03_number.f k (toS a) 255=some (x,(numC a 255).isSome):=h1;rw [b];simp only [qak];cases hn:numC a 255 with
   | none=>rfl
   | some n=>
    have e:=d n hn;have:=(zdk hn).2.2;subst e;rw [Option.isSome_some,if_pos rfl,zcn i kab,zqc kab kab,
     u (i+1) k _ (toS r) (by rw [zcw];omega) kab kab (by rw [Nat.pow_succ];omega)]
    rfl
theorem znh (s:ByteArray) (b:s.size<=8000) (k:Nat) (hk:9010<=k):lychgateref03_Parse.f k s=some (zoy (zhq 3 0 (bl s))):=
 ref3_parse_l0 3 0 k 0 s b rfl kab kad
theorem zos (s:ByteArray) (h:cutS 46 (bl s)=none):dots s=[s]:=dots_none s 46 h
theorem zkx (s:ByteArray) (a b:List UInt8) (h:cutS 46 (bl s)=some (a,b)):dots s=toS a::dots (toS b):=by
 obtain ⟨x,y,l,m,j⟩:=dots_some s 46 a b h;have d:x=toS a:=by rw [<-zum x];exact congrArg toS l
 have e:y=toS b:=by rw [<-zum y];exact congrArg toS m
 subst d;subst e;exact j
theorem dots_ne (s:ByteArray):∃ x r,dots s=x::r:=by
 have:=zmf s
 match h:dots s with
 | []=>rw [h] at this;simp at this
 | x::r=>exact ⟨x,r,rfl⟩
theorem numC_dot (l:List UInt8) (m:Nat) (h:cutS 46 l≠none):numC l m=none:=by
 cases hn:numC l m with
 | none=>rfl
 | some n=>
  refine absurd ((zpy 46 l).2 (fun b=>?_)) h;have:=qbn.1 (zdk hn).1.2.1 _ b;exact absurd this kad
theorem four_ev (a b c d:ByteArray) (r:a.size<=8000) (s:b.size<=8000) (u:c.size<=8000) (hd:d.size<=8000) :
  (if (zef a).2=true/\(zef b).2=true/\(zef c).2=true/\(zef d).2=true then ((zef a).1*16777216+(zef b).1*65536+(zef c).1*256+(zef d).1,(0:Int)) else (0,30)) =
  zoy (match numC (bl a) 255 with|none=>none|some x=>match numC (bl b) 255 with|none=>none|some y=>match numC (bl c) 255 with|none=>none|some z=>(numC (bl d) 255).map fun n=>256*(256*(256*(256*0+x)+y)+z)+n):=by
 obtain ⟨a1,a2⟩:=zkv a r;obtain ⟨e,j⟩:=zkv b s;obtain ⟨l,c2⟩:=zkv c u;obtain ⟨d1,d2⟩:=zkv d hd;rw [a1,e,l,d1];cases m:numC (bl a) 255 with
 | none=>rw [if_neg (fun h=>by cases h.1)];rfl
 | some x=>
 cases o:numC (bl b) 255 with
 | none=>rw [if_neg (fun h=>by cases h.2.1)];rfl
 | some y=>
 cases p:numC (bl c) 255 with
 | none=>rw [if_neg (fun h=>by cases h.2.2.1)];rfl
 | some z=>
 cases q:numC (bl d) 255 with
 | none=>rw [if_neg (fun h=>by cases h.2.2.2)];rfl
 | some n=>
  rw [if_pos ⟨rfl,rfl,rfl,rfl⟩,a2 x m,j y o,c2 z p,d2 n q];simp only [Option.map_some,zoy];congr 1;omega
theorem znx (s:ByteArray) (w:s.size<=8000):addr_Parse.f s=some (zoy (zhq 3 0 (bl s))):=by
 have u:=zbi s;unfold addr_Parse.f;rw [if_pos kab];congr 1;simp only [zhq]
 match h1:cutS 46 (bl s) with
 | none=>rw [zos s h1];rfl
 | some (a,j)=>
 have l1:=zib _ _ _ _ h1;rw [zkx s a j h1];dsimp only
 match m:cutS 46 j with
 | none=>
  rw [zos (toS j) m];cases numC a 255<;>rfl
 | some (b,l)=>
 have y:=zib _ _ _ _ m;rw [zkx (toS j) b l m];dsimp only
 match n:cutS 46 l with
 | none=>
  rw [zos (toS l) n];cases numC a 255 with
  | none=>rfl
  | some x=>dsimp only;cases numC b 255<;>rfl
 | some (c,e)=>
 have z:=zib _ _ _ _ n;rw [zkx (toS l) c e n];dsimp only
 match o:cutS 46 e with
 | none=>
  rw [zos (toS e) o];exact four_ev (toS a) (toS b) (toS c) (toS e) (by rw [zcw];omega) (by rw [zcw];omega) (by rw [zcw];omega) (by rw [zcw];omega)
 | some (d,p)=>
  rw [zkx (toS e) d p o];obtain ⟨x,r,q⟩:=dots_ne (toS p);rw [q,numC_dot e 255 (by rw [o];exact fun h=>by cases h)];simp only [Option.map_none];cases numC a 255 with
  | none=>rfl
  | some x=>
  dsimp only;cases numC b 255 with
  | none=>rfl
  | some x=>
  dsimp only;cases numC c 255 with
  | none=>rfl
  | some x=>rfl
theorem zsi:∀ (j v:Nat) (l:List UInt8) (n:Nat),zhq j v l=some n->n<256 ^ (j+1)*(v+1)
 | 0,v,l,n,h=>by
  rw [zhq] at h
  match hn:numC l 255 with
  | none=>rw [hn] at h;cases h
  | some m=>
   rw [hn] at h;have h1:=qaa h;have d:=(zdk hn).2.2;simp only at h1;rw [Nat.pow_succ,Nat.pow_zero];omega
 | j+1,v,l,n,h=>by
  rw [zhq] at h
  match b:cutS 46 l with
  | none=>rw [b] at h;cases h
  | some (a,r)=>
   rw [b] at h;simp only at h
   match hn:numC a 255 with
   | none=>rw [hn] at h;cases h
   | some m=>
    rw [hn] at h;have d:=(zdk hn).2.2;have e:=zsi j _ r n h;refine qce e ?_;rw [show 256 ^ (j+1+1)=256 ^ (j+1)*256 from rfl,Nat.mul_assoc];exact Nat.mul_le_mul_left _ kab
end
section
theorem zrr (x:ByteArray) (h:(numS x).2.2.2.2.2.2=true):(numS x).1=4\/(numS x).1=5:=by
 unfold numS at h ⊢
 match hn:lex_numbered.f x with
 | none=>rw [hn] at h;cases h
 | some v=>
  rw [hn] at h;show v.1=4\/v.1=5;unfold lex_numbered.f at hn;obtain ⟨c,_,hn⟩:=qaw.1 hn;split at hn
  ·obtain ⟨p,_,hn⟩:=qaw.1 hn;obtain rfl:=qaa hn;exact .inr rfl
  split at hn
  ·have hn:=qaa hn;split at hn<;>(subst hn;first|exact .inl rfl|exact .inr rfl)
  cases hn
theorem zkm (c:Int):zaw c=0\/zaw c=1\/zaw c=2\/zaw c=3\/zaw c=4\/zaw c=5\/zaw c=6\/zaw c=7:=by
 unfold zaw
 repeat' (first|omega|split)
theorem zks (u:List UInt8) (t:S49) (n:Nat) (h:tokS u = .inr (t,n)):(t.f0=0->inS u=1\/inS u=2)/\(t.f0≠0->inS u≠1/\inS u≠2):=by
 match u with
 | []=>cases h
 | b::r=>
  have q:inS (b::r)=zaw (b.toNat:Int):=rfl;have hr:=zkm (b.toNat:Int);rw [q];simp only [tokS] at h;by_cases o:zaw (b.toNat:Int)=6
  ·rw [if_pos o] at h;refine ⟨fun e=>?_,fun _=>by omega⟩;exfalso;split at h
   ·split at h
    ·obtain ⟨rfl,_⟩:=qcb (qbh h);cases e
    cases h
   cases h
  rw [if_neg o] at h;by_cases e:zaw (b.toNat:Int)=0
  ·rw [if_pos e] at h;cases h
  rw [if_neg e] at h;unfold finS at h;by_cases j:zaw (b.toNat:Int)=3
  ·refine ⟨fun d=>?_,fun _=>by omega⟩;exfalso;rw [if_pos j] at h;split at h
   ·obtain ⟨rfl,_⟩:=qcb (qbh h);cases d
   split at h
   ·cases h
   obtain ⟨rfl,_⟩:=qcb (qbh h);cases d
  rw [if_neg j] at h;by_cases l:zaw (b.toNat:Int)=4
  ·refine ⟨fun d=>?_,fun _=>by omega⟩;exfalso;rw [if_pos l] at h;split at h
   ·cases h
   obtain ⟨rfl,_⟩:=qcb (qbh h);cases d
  rw [if_neg l] at h;by_cases m:zaw (b.toNat:Int)=5
  ·refine ⟨fun d=>?_,fun _=>by omega⟩;exfalso;rw [if_pos m] at h;split at h
   ·rename_i hn;obtain ⟨rfl,_⟩:=qcb (qbh h);have:=zrr _ hn;simp only at d;omega
   cases h
  rw [if_neg m] at h;by_cases p:zaw (b.toNat:Int)=7
  ·refine ⟨fun d=>?_,fun _=>by omega⟩;exfalso;rw [if_pos p] at h;obtain ⟨rfl,_⟩:=qcb (qbh h);cases d
  rw [if_neg p] at h;obtain ⟨rfl,_⟩:=qcb (qbh h);exact ⟨fun _=>by omega,fun d=>absurd rfl d⟩
theorem zli:∀ (N:Nat) (u:List UInt8) (p:Nat) (l:List S49),u.length<=N->zdo u p = .inr l->∃ k t r,l=t::r/\t.f4=((p+k:Nat):Int)/\k<=u.length:=by
 intro N;induction N with
 | zero=>
  intro u p l j h;have hu:=qbz.1 (show u.length=0 by omega);subst hu;rw [zcz] at h;obtain rfl:=qbh h;exact ⟨0,endS p,[],rfl,rfl,kab⟩
 | succ N o=>
  intro u p l j h;by_cases hu:u=[]
  ·subst hu;rw [zcz] at h;obtain rfl:=qbh h;exact ⟨0,endS p,[],rfl,rfl,kab⟩
  match ht:tokS u with
  | .inl e=>rw [zga u p e hu ht] at h;cases h
  | .inr (t,n)=>
   have s:=zfi _ _ _ ht;rw [zea u p t n ht] at h
   match hs:zdo (u.drop n) (p+n) with
   | .inl x=>rw [hs] at h;cases h
   | .inr d=>
    rw [hs] at h;obtain rfl:=qbh h;by_cases b:t.f0=0
    ·rw [if_pos b];obtain ⟨k,q,r,rfl,hk,m⟩:=o (u.drop n) (p+n) d kbf hs;rw [qbv] at m;exact ⟨n+k,q,r,rfl,by rw [hk];omega,kab⟩
    rw [if_neg b];exact ⟨0,atS t p,d,rfl,rfl,kab⟩
theorem gB1 (b:UInt8):gB 1 b=(zaw (b.toNat:Int)==1):=by unfold gB zeu;rw [if_pos rfl]
theorem tok_blank (b:UInt8) (r v:List UInt8) (d:zaw (b.toNat:Int)=1) (hr:∀ x∈r,gB 1 x=true) (e:zgk 1 v=true) :
  tokS (b::(r++v)) = .inr (⟨0,toS (b::r),0,⟨0,0⟩,0⟩,r.length+1):=by
 simp only [tokS];rw [d,if_neg kad,if_neg kad,zrl 1 b r v e hr];rw [show (b::(r++v)).take (b::r).length=b::r from List.take_left (l₁:=b::r) (l₂:=v)];unfold finS;rw [if_neg kad,if_neg kad,if_neg kad,if_neg kad];rfl
theorem zgl (w v:List UInt8) (q:Nat) (j:w≠[]) (d:∀ x∈w,zaw (x.toNat:Int)=1) (e:zgk 1 v=true):zdo (w++v) q=zdo v (q+w.length):=by
 match w with
 | []=>exact absurd rfl j
 | b::r=>
  have ht:=tok_blank b r v (d b (by simp)) (fun x l=>by rw [gB1,d x (by simp [l])];rfl) e;rw [List.cons_append,zea _ q _ _ ht,if_pos rfl,zic];rw [show (b::(r++v)).drop (r.length+1)=v from List.drop_left (l₁:=b::r) (l₂:=v)];rfl
theorem blanks_front (u:List UInt8) (t:S49) (n:Nat) (h:tokS u = .inr (t,n)) (h1:inS u=1):∀ x∈u.take n,zaw (x.toNat:Int)=1:=by
 match u with
 | []=>cases h
 | b::r=>
  have e:zaw (b.toNat:Int)=1:=h1;simp only [tokS] at h;rw [e,if_neg kad,if_neg kad] at h;have hn:=zqx _ _ _ _ h;rw [zcw,qbi,Nat.min_eq_left (zhh _ _)] at hn;rw [hn,zlo];intro x d;rcases List.mem_cons.1 d with rfl|d
  ·exact e
  have:=qbn.1 List.all_takeWhile x d;rw [gB1] at this;exact qaq.1 this
theorem skip_sep:∀ (N:Nat) (u:List UInt8) (p:Nat) (l:List S49) (j:Nat),u.length<=N->zdo u p = .inr l->(∃ t r,l=t::r/\t.f4=((p+j:Nat):Int)) ->
  ∀ b rest:List UInt8,b≠[]->(∀ x∈b,zaw (x.toNat:Int)=1)->b.head?=some 10->zgk 1 rest=true->∀ q,zdo (u.take j++(b++rest)) q=zdo rest (q+j+b.length):=by
 intro N;induction N with
 | zero=>
  intro u p l j I h d b rest h1 o z s q;have hu:=qbz.1 (show u.length=0 by omega);subst hu;rw [zcz] at h;obtain rfl:=qbh h;obtain ⟨t,r,d,hp⟩:=d;obtain ⟨rfl,rfl⟩:=List.cons.inj d;have hp:(p:Int)=((p+j:Nat):Int):=hp;obtain rfl:j=0:=kab;exact zgl b rest q h1 o s
 | succ N X=>
  intro u p l j I h d b rest h1 o z s q;by_cases hu:u=[]
  ·subst hu;rw [zcz] at h;obtain rfl:=qbh h;obtain ⟨t,r,d,hp⟩:=d;obtain ⟨rfl,rfl⟩:=List.cons.inj d;have hp:(p:Int)=((p+j:Nat):Int):=hp;obtain rfl:j=0:=kab;exact zgl b rest q h1 o s
  match ht:tokS u with
  | .inl e=>rw [zga u p e hu ht] at h;cases h
  | .inr (t,n)=>
   have U:=zfi _ _ _ ht;rw [zea u p t n ht] at h
   match hs:zdo (u.drop n) (p+n) with
   | .inl x=>rw [hs] at h;cases h
   | .inr Y=>
    rw [hs] at h;obtain rfl:=qbh h;obtain ⟨t',Z,d,hp⟩:=d;by_cases y:t.f0=0
    ·rw [if_pos y,qbw] at d;obtain ⟨k,t2,r2,E,hk,D⟩:=zli _ (u.drop n) (p+n) Y (qad _) hs;obtain ⟨rfl,rfl⟩:=List.cons.inj (d.symm.trans E);obtain rfl:j=n+k:=kab;rw [List.take_add,qbt];by_cases B:inS u=1/\k=0
     ·obtain ⟨J,rfl⟩:=B;rw [List.take_zero,qbw,<-qbt];rw [zgl (u.take n++b) rest q (by simp [h1]) (fun x A=>by
       rcases qbg.1 A with A|A
       ·exact blanks_front u t n ht J x A
       exact o x A) s]
      rw [qas,qbi,Nat.min_eq_left U.2];congr 1;omega
     have M:zgk (inS u) ((u.drop n).take k++(b++rest))=true:=by
      by_cases L:k=0
      ·subst L;have G:inS u=2:=by
        rcases (zks u t n ht).1 y with h|h
        ·exact absurd ⟨h,rfl⟩ B
        exact h
       rw [G,List.take_zero,qbw]
       match b,z with
       | c::b,z=>
        obtain rfl:=qaa z;show (!gB 2 10)=true;decide
      refine zna (inS u) (u.drop n) _ (zix u t n ht ?_) (.inr ?_)
      ·rcases (zks u t n ht).1 y with h|h<;>omega
      obtain ⟨k,rfl⟩:∃ m,k=m+1:=⟨k-1,kab⟩;cases hd:u.drop n with
      | nil=>rw [hd] at D;simp at D
      | cons c w=>rfl
     obtain ⟨_,_,O⟩:=zhs u ((u.drop n).take k++(b++rest)) t n ht (fun _=>M);rw [zea _ q t n O,if_pos y,zic,List.drop_left' (by rw [qbi];omega)];rw [X (u.drop n) (p+n) _ k kbf hs ⟨_,_,E,hk⟩ b rest h1 o z s (q+n)];congr 1;omega
    rw [if_neg y] at d;obtain ⟨rfl,_⟩:=List.cons.inj d;have hp:(p:Int)=((p+j:Nat):Int):=hp;obtain rfl:j=0:=kab;exact zgl b rest q h1 o s
end
section
def zlp (v p:Nat):Bool:=decide ((v:Int)%2 ^ ((32:Int)-(p:Int)).toNat=0)
def zmp (l:List UInt8):Int×Int×Int:=
 match cutS 47 l with
 | none=>match zhq 3 0 l with
  | none=>(0,0,30)
  | some v=>if zlp v 32=true then ((v:Int),32,0) else (0,0,30)
 | some (a,b)=>match zhq 3 0 a with
  | none=>(0,0,30)
  | some v=>match numC b 32 with
   | none=>(0,0,30)
   | some p=>if zlp v p=true then ((v:Int),(p:Int),0) else (0,0,30)
theorem zox {l:List UInt8} {v:Nat} (h:zhq 3 0 l=some v):v<=4294967295:=by
 have h1:=zsi 3 0 l v h;have b:256 ^ (3+1)*(0+1)=4294967296:=kad;rw [b] at h1;omega
theorem zro (v p:Nat) (b:v<=4294967295) (hp:p<=32):addr_right.f (v:Int) (p:Int)=some (zlp v p):=by
 unfold addr_right.f;rw [if_pos kab];rfl
theorem zkd (v p:Nat) (e:v<=4294967295) (hp:p<=32):lychgateref03_Right.f (v:Int) (p:Int)=some (zlp v p):=by
 have hs:∀ q:Fin 33,shl .i64 1 (wrap64 (32-(q.val:Int)))=2 ^ ((32:Int)-(q.val:Int)).toNat/\0<=wrap64 (32-(q.val:Int)):=by decide +kernel
 obtain ⟨h1,b⟩:=hs ⟨p,kab⟩;have h1:shl .i64 1 (wrap64 (32-(p:Int)))=2 ^ ((32:Int)-(p:Int)).toNat:=h1;have b:0<=wrap64 (32-(p:Int)):=b;have d:(0:Int)<2 ^ ((32:Int)-(p:Int)).toNat:=Int.pow_pos kad;unfold lychgateref03_Right.f lychgateref03_Size.f;rw [if_pos kab,if_pos kab,if_pos kab,if_pos kab,if_pos b,h1];simp only [qak];rw [if_neg kab,Int.tmod_eq_emod_of_nonneg kab];refine congrArg some ?_;unfold zlp;rw [Bool.eq_iff_iff,qaq,qbu]
theorem cut47 (x:ByteArray) (d:x.size<=8000):strings_Cut.f x ⟨#[47]⟩=some (match cutS 47 (bl x) with|none=>(x,(⟨#[]⟩:ByteArray),false)|some (a,b)=>(toS a,toS b,true)):=by
 unfold strings_Cut.f;rw [if_pos kab];congr 1;have h:=cut_cut 47 (bl x);show (toS (Lib.cut (bl x) [47]).1,toS (Lib.cut (bl x) [47]).2.1,(Lib.cut (bl x) [47]).2.2)=_;rw [h];cases cutS 47 (bl x) with
 | none=>rfl
 | some y=>rfl
theorem prefix_ev (x:ByteArray) (j:x.size<=8000):addr_ParsePrefix.f x=some (zmp (bl x)):=by
 have q:=zbi x;unfold addr_ParsePrefix.f zmp;rw [cut47 x j]
 match m:cutS 47 (bl x) with
 | none=>
  simp only [qak];rw [znx x j];simp only [qak];rw [if_neg kad]
  match e:zhq 3 0 (bl x) with
  | none=>rfl
  | some v=>
   have:=zro v 32 (zox e) kad;have this:addr_right.f (v:Int) 32=some (zlp v 32):=this;simp only [zoy,if_true];rw [this];simp only [qak];split<;>rfl
 | some (a,b)=>
  have r:=zib _ _ _ _ m;simp only [qak,if_true];rw [znx (toS a) (by rw [zcw];omega)];obtain ⟨w,h1,d⟩:=zsh (toS b) 32 (by rw [zcw];omega) kad;have h1:addr_number.f (toS b) 32=some (w,(numC b 32).isSome):=h1;have d:∀ n,numC b 32=some n->w=(n:Int):=d;have l:bl (toS a)=a:=rfl;rw [h1,l];simp only [qak]
  match e:zhq 3 0 a with
  | none=>rfl
  | some v=>
   simp only [zoy,if_true]
   match hn:numC b 32 with
   | none=>rfl
   | some p=>
    have o:=d p hn;subst o;rw [Option.isSome_some,if_pos rfl,zro v p (zox e) (zdk hn).2.2];simp only [qak];split<;>rfl
theorem zvm (k:Nat) (x p:Int) (b:Bool):lychgateref03_ParsePrefix.j0 (k+2) x 30 p b=some (0,0,30):=by
 simp only [lychgateref03_ParsePrefix.j0];rw [if_neg kad];simp only [lychgateref03_ParsePrefix.j1,if_true]
theorem ref_prefix_ev (x:ByteArray) (l:x.size<=8000) (k:Nat) (hk:9020<=k):lychgateref03_ParsePrefix.f k x=some (zmp (bl x)):=by
 have s:=zbi x;have j:=zrp x l 47 k kab;have j:lychgateref03_cut.f k x 47=_:=j;obtain ⟨k,rfl⟩:∃ m,k=m+2:=⟨k-2,kab⟩;unfold lychgateref03_ParsePrefix.f zmp;rw [j]
 match q:cutS 47 (bl x) with
 | none=>
  simp only [qak];rw [znh x l _ kab];simp only [qak];rw [if_neg kad]
  match e:zhq 3 0 (bl x) with
  | none=>exact zvm k _ _ _
  | some v=>
   have:=zkd v 32 (zox e) kad;have this:lychgateref03_Right.f (v:Int) 32=some (zlp v 32):=this;simp only [lychgateref03_ParsePrefix.j0,zoy,if_true,lychgateref03_ParsePrefix.j1,Bool.not_true];rw [if_neg kad,this];simp only [qak];split<;>rfl
 | some (a,b)=>
  have u:=zib _ _ _ _ q;simp only [qak,if_true];rw [znh (toS a) (by rw [zcw];omega) _ kab];obtain ⟨w,h1,d⟩:=zod (toS b) 32 kad (k+2) kab;have h1:lychgateref03_number.f (k+2) (toS b) 32=some (w,(numC b 32).isSome):=h1;have d:∀ n,numC b 32=some n->w=(n:Int):=d;have o:bl (toS a)=a:=rfl;rw [h1,o];simp only [qak]
  match e:zhq 3 0 a with
  | none=>exact zvm k _ _ _
  | some v=>
   simp only [lychgateref03_ParsePrefix.j0,zoy,if_true]
   match hn:numC b 32 with
   | none=>simp only [Option.isSome_none,Bool.not_false,lychgateref03_ParsePrefix.j1,if_true]
   | some p=>
    have r:=d p hn;subst r;simp only [Option.isSome_some,Bool.not_true,lychgateref03_ParsePrefix.j1];rw [if_neg kad,zkd v p (zox e) (zdk hn).2.2];simp only [qak];split<;>rfl
def hasP (l:List UInt8):Bool:=l.any fun b=>decide (b=46)||decide (b=47)
theorem ztw:∀ l:List UInt8,Lib.containsAny l [46,47]=hasP l:=by
 have key:∀ l:List UInt8,(0<=Lib.indexAny l [46,47])↔hasP l=true:=by
  intro l;induction l with
  | nil=>decide
  | cons b r j=>
   rw [Lib.indexAny,hasP,List.any_cons];have e:([46,47]:List UInt8).contains b=(decide (b=46)||decide (b=47)):=by
    rw [List.contains_cons,List.contains_cons,List.contains_nil,Bool.or_false];rfl
   have m:=Lib.indexAny_ge [46,47] r;rw [e];cases (decide (b=46)||decide (b=47)) with
   | true=>simp
   | false=>
    rw [if_neg kad,Bool.false_or];show _↔hasP r=true;rw [<-j];by_cases d:Lib.indexAny r [46,47] = -1
    ·rw [d];decide
    rw [if_neg (by simpa using d)];omega
 intro l;unfold Lib.containsAny;rw [Bool.eq_iff_iff,qbu];exact key l
theorem ztt (b:UInt8):((b.toNat:Int)=46)↔b=46:=⟨fun h=>UInt8.toNat_inj.1 (show b.toNat=46 by omega),fun h=>by rw [h];rfl⟩
theorem zts (b:UInt8):((b.toNat:Int)=47)↔b=47:=⟨fun h=>UInt8.toNat_inj.1 (show b.toNat=47 by omega),fun h=>by rw [h];rfl⟩
theorem ref_numbered_l0 (x:ByteArray) (l:x.size<=8000):∀ (d i k:Nat),i+d=x.size->9020+d+1<=k ->
  lychgateref08_numbered.l0 k x (i:Int)=some (if hasP ((bl x).drop i)=true then (5,(⟨#[]⟩:ByteArray),0,(zmp (bl x)).1,(zmp (bl x)).2.1,0,(zmp (bl x)).2.2==0) else (0,(⟨#[]⟩:ByteArray),0,0,0,0,false)):=by
 have o:=zbi x;intro d;induction d with
 | zero=>
  intro i k hi hk;obtain ⟨k,rfl⟩:∃ m,k=m+1:=⟨k-1,kab⟩;simp only [lychgateref08_numbered.l0];rw [if_neg kab,qav kab];rfl
 | succ d n=>
  intro i k hi hk;obtain ⟨k,rfl⟩:∃ m,k=m+1:=⟨k-1,kab⟩;have j:i<(bl x).length:=kab;simp only [lychgateref08_numbered.l0];rw [if_pos kab,if_pos kab,zfl x i j,zel _ i j,ref_prefix_ev x l k kab];have hh:hasP ((bl x)[i]::(bl x).drop (i+1))=((decide ((bl x)[i]=46)||decide ((bl x)[i]=47))||hasP ((bl x).drop (i+1))):=List.any_cons;rw [hh];by_cases b:(bl x)[i]=46
  ·rw [if_pos ((ztt _).2 b),qab b];rfl
  rw [if_neg (fun h=>b ((ztt _).1 h)),qai b];by_cases e:(bl x)[i]=47
  ·rw [if_pos ((zts _).2 e),qab e];rfl
  rw [if_neg (fun h=>e ((zts _).1 h)),qai e,zcn i kab,n (i+1) k kab kab];rfl
theorem digs_of (l:List UInt8) (h:∀ b∈l,gB 5 b=true) (hp:hasP l=false):l.all digB=true:=by
 rw [qbn];intro b j;have h1:zeu 5 (b.toNat:Int)=true:=h b j;rw [zoq] at h1;have h1:=qbl h1;have d:(decide (b=46)||decide (b=47))=false:=by
  rw [<-Bool.not_eq_true];intro e;have:hasP l=true:=List.any_eq_true.2 ⟨b,j,e⟩;rw [hp] at this;cases this
 rw [Bool.or_eq_false_iff,decide_eq_false_iff_not,decide_eq_false_iff_not] at d;have m:¬(b.toNat:Int)=46:=fun e=>d.1 ((ztt b).1 e);have n:¬(b.toNat:Int)=47:=fun e=>d.2 ((zts b).1 e);exact qab ⟨kab,kab⟩
theorem has_not (l:List UInt8) (h:hasP l=true) (m:Nat):numC l m=none:=by
 cases hn:numC l m with
 | none=>rfl
 | some n=>
  obtain ⟨b,e,h1⟩:=List.any_eq_true.1 h;have d:=qbn.1 (zdk hn).1.2.1 b e;have d:=qbl d;rw [Bool.or_eq_true,qbu,qbu] at h1;rcases h1 with rfl|rfl
  ·exact absurd d kad
  exact absurd d kad
theorem numS_has (x:ByteArray) (j:x.size<=8000) (d:(bl x).all (fun b=>decide (b.toNat<128))=true) (h:hasP (bl x)=true):numS x=(5,(⟨#[]⟩:ByteArray),0,(zmp (bl x)).1,(zmp (bl x)).2.1,0,(zmp (bl x)).2.2==0):=by
 have e:strings_ContainsAny.f x ⟨#[46,47]⟩=some true:=by
  unfold strings_ContainsAny.f;rw [if_pos ⟨kab,kad,d,kad⟩];have:=ztw (bl x);rw [h] at this;exact congrArg some this
 unfold numS lex_numbered.f;rw [e];simp only [qak,if_true];rw [prefix_ev x j];rfl
theorem numS_not (x:ByteArray) (o:x.size<=8000) (j:(bl x).all (fun b=>decide (b.toNat<128))=true) (h:hasP (bl x)=false) (hd:(bl x).all digB=true) :
  (numS x).2.2.2.2.2.2=(numC (bl x) 4294967295).isSome/\∀ n,numC (bl x) 4294967295=some n->numS x=(4,(⟨#[]⟩:ByteArray),(n:Int),0,0,0,true):=by
 have l:strings_ContainsAny.f x ⟨#[46,47]⟩=some false:=by
  unfold strings_ContainsAny.f;rw [if_pos ⟨kab,kad,j,kad⟩];have:=ztw (bl x);rw [h] at this;exact congrArg some this
 unfold numS lex_numbered.f;rw [l];simp only [qak];rw [if_neg kad,if_pos kab,zph];have m:x.data.toList=bl x:=rfl;rw [m];cases d:Lib.atoiAll (bl x);case ok v=>
  have h1:=atoi_dig (bl x) 4294967295 v d kad hd;have e:=(zqy (bl x) 4294967295 v d kad).2;have h1:(decide (v<=4294967295)&&(Lib.itoa v==bl x))=(numC (bl x) 4294967295).isSome:=h1;refine ⟨h1,fun n hn=>?_⟩;have:=e n hn;subst this;show (4,(⟨#[]⟩:ByteArray),(n:Int),0,0,0,(decide ((n:Int)<=4294967295)&&(Lib.itoa (n:Int)==bl x)))=_;rw [h1,hn];rfl
 all_goals
  have:=ztv (bl x) 4294967295 (fun v h=>by rw [d] at h;cases h) kad;rw [this];exact ⟨rfl,fun n hn=>by cases hn⟩
theorem numbered_ev (x:ByteArray) (j:x.size<=8000) (o:0<x.size) (hg:∀ b∈bl x,gB 5 b=true) (k:Nat) (hk:18000<=k) :
  ∃ v,lychgateref08_numbered.f k x=some v/\v.2.2.2.2.2.2=(numS x).2.2.2.2.2.2/\(v.2.2.2.2.2.2=true->v=numS x):=by
 have m:(bl x).all (fun b=>decide (b.toNat<128))=true:=qbn.2 fun b r=>qab (zth b (hg b r));obtain ⟨w,h1,p⟩:=ref8_num x j o k kab;have d:=ref_numbered_l0 x j x.size 0 k kab kab;rw [List.drop_zero] at d;have d:lychgateref08_numbered.l0 k x 0=_:=d;unfold lychgateref08_numbered.f;rw [h1];simp only [qak];cases hp:hasP (bl x) with
 | true=>
  rw [has_not _ hp,Option.isSome_none,if_neg kad,d,hp,if_pos rfl];have:=numS_has x j m hp;exact ⟨_,rfl,by rw [this],fun _=>this.symm⟩
 | false=>
  obtain ⟨l,q⟩:=numS_not x j m hp (digs_of _ hg hp);cases hn:numC (bl x) 4294967295 with
  | none=>
   rw [hn] at l;rw [Option.isSome_none,if_neg kad,d,hp,if_neg kad];exact ⟨_,rfl,l.symm,fun e=>by cases e⟩
  | some n=>
   have s:=p n hn;subst s;have:=q n hn;rw [Option.isSome_some,if_pos rfl];exact ⟨_,rfl,by rw [this],fun _=>this.symm⟩
end
section
theorem text_l0 (s:ByteArray) (D:s.size<=8000):∀ (d i k:Nat) (acc:List UInt8),i+d=(bl s).length->2*d+1<=k->acc.length<=i ->
  lychgateref08_text.l0 k s (acc.map fun b=>(b.toNat:Int)) (i:Int)=some (qdR acc i (qdS ((bl s).drop i))):=by
 have B:=zbi s;intro d;induction d using Nat.strongRecOn with
 | _ d q=>
 intro i k acc hi hk z;obtain ⟨k,rfl⟩:∃ m,k=m+1:=⟨k-1,kab⟩;have y:(acc.map fun b=>(b.toNat:Int)).length=acc.length:=qcc ..;simp only [lychgateref08_text.l0];by_cases hd:d=0
 ·rw [if_neg kab,qav kab];rfl
 have o:i<(bl s).length:=kab;rw [if_pos kab,if_pos kab,zfl s i o,zcn i kab,zel _ i o];have w:=(bl s)[i].toNat_lt;generalize (bl s)[i]=c at w;by_cases j:c.toNat=34
 ·rw [if_pos kab,zog _ _ j,zol,y];simp [qdR];omega
 rw [if_neg kab];have snoc:∀ e:UInt8,(acc.map fun b=>(b.toNat:Int))++[(e.toNat:Int)]=(acc++[e]).map fun b=>(b.toNat:Int):=fun e=>by simp
 have n:∀ e:UInt8,(acc++[e]).length=acc.length+1:=fun e=>by simp
 obtain ⟨k,rfl⟩:∃ m,k=m+1:=⟨k-1,kab⟩;by_cases u:c.toNat<32
 ·rw [if_pos kab,zlr _ _ (.inl u)];simp only [lychgateref08_text.j1];rfl
 rw [if_neg kab];by_cases r:126<c.toNat
 ·rw [qab kab,zlr _ _ (.inr r)];simp only [lychgateref08_text.j1];rfl
 rw [qai kab];simp only [lychgateref08_text.j1];rw [if_neg kad];by_cases l:c.toNat=92
 ·rw [if_pos kab,zcn i kab];by_cases A:i+1=(bl s).length
  ·rw [if_pos kab,qav kab];simp only [qdS];rw [if_neg j];rfl
  have p:i+1<(bl s).length:=kab;rw [if_neg kab,if_pos kab,if_pos kab,zfl s (i+1) p,zcn (i+1) kab,zel _ (i+1) p,zof _ _ _ l];have x:=(bl s)[i+1].toNat_lt;generalize (bl s)[i+1]=e at x;have key:=fun (h:e.toNat=34\/e.toNat=92)=>q (d-2) kab (i+2) k (acc++[e]) kab kab (by rw [n];omega);rw [show i+1+1=i+2 by omega,snoc];by_cases g:e.toNat=34
  ·rw [if_pos kab,if_pos kab,if_pos (.inl g),key (.inl g),zhu]
  rw [if_neg kab];by_cases g2:e.toNat=92
  ·rw [if_pos kab,if_pos kab,if_pos (.inr g2),key (.inr g2),zhu]
  rw [if_neg kab,if_neg kab];rfl
 rw [if_neg kab,if_pos kab,snoc,zku _ _ j l kab,zcn i kab,q (d-1) kab (i+1) k (acc++[c]) kab kab (by rw [n];omega),zhu]
theorem text_ev (s:ByteArray) (b:s.size<=8000) (i:Nat) (hi:i<s.size) (k:Nat) (hk:18000<=k):lychgateref08_text.f k s (i:Int)=some (qdR [] (i+1) (qdS ((bl s).drop (i+1)))):=by
 have d:=zbi s;unfold lychgateref08_text.f;rw [zcn i kab];exact text_l0 s b ((bl s).length-(i+1)) (i+1) k [] kab kab (by simp)
theorem sign_ev (s:ByteArray) (A:s.size<=8000) (i:Nat) (hi:i<s.size) (c:Int) (k:Nat) (hk:20<=k) :
  lychgateref08_one.l0 k s (i:Int) c 0=some (if c=123\/c=125\/c=40\/c=41\/c=44\/c=59\/c=61\/c=126\/c=45 then (7,s.extract i (i+1),0,0,0,0,((i+1:Nat):Int),0) else (0,(⟨#[]⟩:ByteArray),0,0,0,0,0,80)):=by
 obtain ⟨k,rfl⟩:∃ m,k=m+10:=⟨k-10,kab⟩;have w:wrap64 ((i:Int)+1)=((i+1:Nat):Int):=zcn i kab;have st:∀ (k j:Nat) (b:Int),j<9->bt (⟨#[123,125,40,41,44,59,61,126,45]⟩:ByteArray) (j:Int)=b->lychgateref08_one.l0 (k+1) s (i:Int) c (j:Int)=if b=c then some (7,s.extract i (i+1),0,0,0,0,((i+1:Nat):Int),0) else lychgateref08_one.l0 k s (i:Int) c ((j+1:Nat):Int):=by
  intro k j b z y;simp only [lychgateref08_one.l0];rw [if_pos kab,if_pos kab,y,zcn j kab,w];by_cases h:b=c
  ·rw [if_pos h,if_pos h,if_pos kab,if_pos kab,if_pos kab,qau,qau]
  rw [if_neg h,if_neg h]
 have x:lychgateref08_one.l0 (k+1) s (i:Int) c ((9:Nat):Int)=some (0,(⟨#[]⟩:ByteArray),0,0,0,0,0,80):=by
  simp only [lychgateref08_one.l0];rw [if_neg kab]
 show lychgateref08_one.l0 (k+10) s (i:Int) c ((0:Nat):Int)=_;rw [st (k+9) 0 123 kad kad];by_cases d:c=123
 ·rw [if_pos d.symm,if_pos kab]
 rw [if_neg (fun e=>d e.symm)];rw [st (k+8) 1 125 kad kad];by_cases h1:c=125
 ·rw [if_pos h1.symm,if_pos kab]
 rw [if_neg (fun e=>h1 e.symm)];rw [st (k+7) 2 40 kad kad];by_cases l:c=40
 ·rw [if_pos l.symm,if_pos kab]
 rw [if_neg (fun e=>l e.symm)];rw [st (k+6) 3 41 kad kad];by_cases n:c=41
 ·rw [if_pos n.symm,if_pos kab]
 rw [if_neg (fun e=>n e.symm)];rw [st (k+5) 4 44 kad kad];by_cases o:c=44
 ·rw [if_pos o.symm,if_pos kab]
 rw [if_neg (fun e=>o e.symm)];rw [st (k+4) 5 59 kad kad];by_cases p:c=59
 ·rw [if_pos p.symm,if_pos kab]
 rw [if_neg (fun e=>p e.symm)];rw [st (k+3) 6 61 kad kad];by_cases q:c=61
 ·rw [if_pos q.symm,if_pos kab]
 rw [if_neg (fun e=>q e.symm)];rw [st (k+2) 7 126 kad kad];by_cases r:c=126
 ·rw [if_pos r.symm,if_pos kab]
 rw [if_neg (fun e=>r e.symm)];rw [st (k+1) 8 45 kad kad];by_cases u:c=45
 ·rw [if_pos u.symm,if_pos kab]
 rw [if_neg (fun e=>u e.symm)];rw [x,if_neg kab]
theorem runS_within (m i:Int) (b:UInt8) (r:List UInt8) (j:∀ x:UInt8,zfz m (x.toNat:Int)=gB i x) (d:gB i b=true) :
  ((b::r).takeWhile fun x=>zfz m (x.toNat:Int)).length=runS i (b::r):=by
 have e:(fun x:UInt8=>zfz m (x.toNat:Int))=gB i:=funext j;rw [e,qbx d,qay,runS];omega
theorem extract_run (s:ByteArray) (i n:Nat):s.extract i (i+n)=toS (((bl s).drop i).take n):=by
 apply ByteArray.ext;apply Array.toList_inj.1;simp [toS,bl,ByteArray.data_extract,Array.toList_extract]
theorem one_ev (s:ByteArray) (hz:s.size<=8000) (i:Nat) (hi:i<s.size) (k:Nat) (hk:18000<=k) (h1:inS ((bl s).drop i)≠1) (O:inS ((bl s).drop i)≠2) :
  match tokS ((bl s).drop i) with
  | .inl e=>e≠0/\∃ v,lychgateref08_one.f k s (i:Int)=some v/\v.2.2.2.2.2.2.2=e
  | .inr (t,n)=>t.f0≠0/\∃ z,lychgateref08_one.f k s (i:Int)=some (t.f0,t.f1,t.f2,t.f3.f0,t.f3.f1,z,((i+n:Nat):Int),0):=by
 have hl:=zbi s;have Y:i<(bl s).length:=kab;have u:=zel (bl s) i Y;generalize hF:lychgateref08_one.f k s (i:Int)=F;unfold lychgateref08_one.f at hF;rw [if_pos kab,if_pos kab,zfl s i Y,zkc,zke,zkf] at hF;simp only [qak] at hF;have D:∀ j:Int,runS j ((bl s).drop i)<=(bl s).length-i:=fun j=>by have:=zhh j ((bl s).drop i);rwa [qbv] at this
 have M:∀ (m j:Int),(∀ x:UInt8,zfz m (x.toNat:Int)=gB j x)->gB j (bl s)[i]=true->lychgateref08_run.f k m s (i:Int)=some ((i+runS j ((bl s).drop i):Nat):Int):=by
  intro m j hm l;rw [ref_run_eq m s kab i k kab kab,u,runS_within m j _ _ hm l]
 have p:∀ j:Int,s.extract i (i+runS j ((bl s).drop i))=toS (((bl s).drop i).take (runS j ((bl s).drop i))):=fun j=>extract_run s i _;have E:∀ j:Int,(toS (((bl s).drop i).take (runS j ((bl s).drop i)))).size=runS j ((bl s).drop i):=fun j=>by
  rw [zcw,qbi,qbv];have:=D j;omega
 have L:∀ j:Int,0<runS j ((bl s).drop i):=fun j=>by rw [u];exact zkt j _ _
 rw [u] at h1 O;have aA:=text_ev s hz i hi k hk;have a7:zaw ((bl s)[i].toNat:Int)=5->(∀ x∈((bl s).drop i).take (runS 5 ((bl s).drop i)),gB 5 x=true):=by
  intro h5;rw [u,zlo];intro x p;rcases List.mem_cons.1 p with rfl|p
  ·have:=begins_5 _ h5;show zeu 5 _=true;rw [zoq];exact qab (.inl this)
  exact qbn.1 List.all_takeWhile x p
 have G:zaw ((bl s)[i].toNat:Int)≠1:=h1;have y:zaw ((bl s)[i].toNat:Int)≠2:=O;have a8:tokS ((bl s).drop i)=(if zaw ((bl s)[i].toNat:Int)=6 then
   match qdS ((bl s).drop (i+1)) with
   | some (o,n)=>if o.length<=200 then .inr (⟨6,toS o,0,⟨0,0⟩,0⟩,n+1) else .inl 83
   | none => .inl 83
  else if zaw ((bl s)[i].toNat:Int)=0 then .inl 80
  else finS (zaw ((bl s)[i].toNat:Int)) (toS (((bl s).drop i).take (runS (zaw ((bl s)[i].toNat:Int)) ((bl s).drop i))))):=by
  rw [u];rfl
 rw [a8];have aB:=(bl s)[i].toNat_lt;have J:∀ j:Int,j=3\/j=4\/j=5->zaw ((bl s)[i].toNat:Int)=j->gB j (bl s)[i]=true:=by
  intro j hj l;show zeu j _=true;unfold zaw at l;rcases hj with rfl|rfl|rfl
  ·rw [ztg];refine qab ?_
   repeat' (first|(split at l)|omega|(cases l;done))
  ·rw [ztf];refine qab ?_
   repeat' (first|(split at l)|omega|(cases l;done))
  rw [zoq];refine qab ?_
  repeat' (first|(split at l)|omega|(cases l;done))
 have d:zaw ((bl s)[i].toNat:Int)=if 97<=((bl s)[i].toNat:Int)/\((bl s)[i].toNat:Int)<=122 then 3 else if 65<=((bl s)[i].toNat:Int)/\((bl s)[i].toNat:Int)<=90 then 4 else if 48<=((bl s)[i].toNat:Int)/\((bl s)[i].toNat:Int)<=57 then 5 else if ((bl s)[i].toNat:Int)=34 then 6
   else if ((bl s)[i].toNat:Int)=123\/((bl s)[i].toNat:Int)=125\/((bl s)[i].toNat:Int)=40\/((bl s)[i].toNat:Int)=41\/((bl s)[i].toNat:Int)=44\/((bl s)[i].toNat:Int)=59\/((bl s)[i].toNat:Int)=61\/((bl s)[i].toNat:Int)=126\/((bl s)[i].toNat:Int)=45 then 7 else 0:=by
  unfold zaw at G y ⊢;by_cases a:((bl s)[i].toNat:Int)=32\/((bl s)[i].toNat:Int)=9\/((bl s)[i].toNat:Int)=10\/((bl s)[i].toNat:Int)=13
  ·rw [if_pos a] at G;exact absurd rfl G
  rw [if_neg a] at y ⊢;by_cases b:((bl s)[i].toNat:Int)=35
  ·rw [if_pos b] at y;exact absurd rfl y
  rw [if_neg b]
 generalize hI:zaw ((bl s)[i].toNat:Int)=I at *;generalize hC:((bl s)[i].toNat:Int)=c at *;by_cases c3:97<=c/\c<=122
 ·rw [if_pos c3] at d;subst d;have hr:=M 1 3 (fun x=>rfl) (J 3 (.inl rfl) rfl);have hp:=L 3;have X:=D 3;rw [if_pos (qab c3),hr] at hF;simp only [qak] at hF;rw [if_pos kab,if_pos kab,qau,qau,p,ref_isword_eq _ k kab] at hF;simp only [qak] at hF;have hs:=E 3;rw [if_neg kad,if_neg kad,finS,if_pos rfl];generalize toS (((bl s).drop i).take (runS 3 ((bl s).drop i)))=x at hs hF ⊢;by_cases hw:zir x=true
  ·rw [if_pos hw] at hF ⊢;exact ⟨by simp,0,by rw [<-hF,hs]⟩
  rw [if_neg hw] at hF ⊢;by_cases w:x.size>32
  ·rw [if_pos w];rw [if_pos (by unfold wrap64;omega)] at hF;exact ⟨kad,_,hF.symm,rfl⟩
  rw [if_neg w];rw [if_neg (by unfold wrap64;omega)] at hF;exact ⟨by simp,0,by rw [<-hF,hs]⟩
 rw [if_neg c3] at d;rw [if_neg (by simpa using c3)] at hF;by_cases c4:65<=c/\c<=90
 ·rw [if_pos c4] at d;subst d;have hr:=M 2 4 (fun x=>rfl) (J 4 (.inr (.inl rfl)) rfl);have hp:=L 4;have X:=D 4;rw [if_pos (qab c4),hr] at hF;simp only [qak] at hF;have hs:=E 4;have q:=p 4;rw [if_neg kad,if_neg kad,finS,if_neg kad,if_pos rfl];generalize toS (((bl s).drop i).take (runS 4 ((bl s).drop i)))=x at hs q ⊢;by_cases w:x.size>16
  ·rw [if_pos w];rw [if_pos (by unfold wrap64;omega)] at hF;exact ⟨kad,_,hF.symm,rfl⟩
  rw [if_neg w];rw [if_neg (by unfold wrap64;omega),if_pos kab,if_pos kab,qau,qau,q] at hF;exact ⟨by simp,0,by rw [<-hF,hs]⟩
 rw [if_neg c4] at d;rw [if_neg (by simpa using c4)] at hF;by_cases c5:48<=c/\c<=57
 ·rw [if_pos c5] at d;subst d;have hr:=M 3 5 (fun x=>rfl) (J 5 (.inr (.inr rfl)) rfl);have hp:=L 5;have X:=D 5;rw [if_pos (qab c5),hr] at hF;simp only [qak] at hF;have hs:=E 5;have q:=p 5;have a6:=a7 rfl;rw [if_pos kab,if_pos kab,qau,qau,q] at hF;obtain ⟨v,hv,ad,af⟩:=numbered_ev (toS (((bl s).drop i).take (runS 5 ((bl s).drop i)))) kab kab a6 k kab;rw [hv] at hF;simp only [qak] at hF;rw [if_neg kad,if_neg kad,finS,if_neg kad,if_neg kad,if_pos rfl];generalize toS (((bl s).drop i).take (runS 5 ((bl s).drop i)))=x at hs ad af ⊢;rw [<-ad];by_cases B:v.2.2.2.2.2.2=true
  ·rw [if_pos B] at hF ⊢;have a1:=af B;have h4:(numS x).1=4\/(numS x).1=5:=zrr x (by rw [<-a1];exact B);refine ⟨by show (numS x).1≠0;omega,v.2.2.2.2.2.1,?_⟩;rw [<-hF,a1,hs]
  rw [if_neg B] at hF ⊢;exact ⟨kad,_,hF.symm,rfl⟩
 rw [if_neg c5] at d;rw [if_neg (by simpa using c5)] at hF;by_cases c6:c=34
 ·rw [if_pos c6] at d;subst d;rw [if_pos c6,aA] at hF;rw [if_pos rfl];simp only [qak] at hF
  match Z:qdS ((bl s).drop (i+1)) with
  | none=>
   rw [Z] at hF;exact ⟨kad,_,hF.symm,rfl⟩
  | some (o,n)=>
   rw [Z] at hF;simp only [qdR,qbw] at hF;dsimp only;by_cases hh:o.length<=200
   ·rw [if_pos hh];have A:some ((6:Int),toS o,(0:Int),(0:Int),(0:Int),(0:Int),((i+1+n:Nat):Int),(0:Int))=F:=(if_pos (qab hh)).symm.trans hF;rw [show i+1+n=i+(n+1) by omega] at A;exact ⟨by simp,0,A.symm⟩
   rw [if_neg hh];have A:some ((0:Int),(⟨#[]⟩:ByteArray),(0:Int),(0:Int),(0:Int),(0:Int),(0:Int),(83:Int))=F:=(if_neg (by simpa using hh)).symm.trans hF;exact ⟨kad,_,A.symm,rfl⟩
 rw [if_neg c6] at d;rw [if_neg c6,sign_ev s hz i hi c k kab] at hF;by_cases c7:c=123\/c=125\/c=40\/c=41\/c=44\/c=59\/c=61\/c=126\/c=45
 ·rw [if_pos c7] at d;subst d;have U:runS 7 ((bl s).drop i)=1:=by
   rw [u,runS];have:(List.takeWhile (gB 7) ((bl s).drop (i+1)))=[]:=by
    cases (bl s).drop (i+1) with
    | nil=>rfl
    | cons a r=>exact qby (by show ¬zeu 7 _=true;unfold zeu;rw [if_neg kad,if_neg kad,if_neg kad,if_neg kad,if_neg kad];decide)
   rw [this];rfl
  have q:=p 7;have hs:=E 7;rw [U] at q hs;rw [if_pos c7,q] at hF;rw [if_neg kad,if_neg kad,U,finS,if_neg kad,if_neg kad,if_neg kad,if_pos rfl];exact ⟨by simp,0,by rw [<-hF,hs]⟩
 rw [if_neg c7] at d;subst d;rw [if_neg c7] at hF;rw [if_neg kad,if_pos rfl];exact ⟨kad,_,hF.symm,rfl⟩
theorem begins_one (c:Int):zaw c=1↔(c=32\/c=9\/c=10\/c=13):=by
 unfold zaw;constructor
 ·intro h
  repeat' (first|assumption|(cases h;done)|(split at h))
 intro h;rw [if_pos h]
theorem zka (c:Int):zaw c=2↔c=35:=by
 unfold zaw;constructor
 ·intro h
  repeat' (first|assumption|(cases h;done)|(split at h))
 intro h;rw [if_neg kab,if_pos h]
theorem dropWhile_stops (i:Int) (r:List UInt8):zgk i (r.dropWhile (gB i))=true:=by
 induction r with
 | nil=>rfl
 | cons c t d=>
  by_cases b:gB i c=true
  ·rw [List.dropWhile_cons_of_pos b];exact d
  rw [List.dropWhile_cons_of_neg b];show (!gB i c)=true;simpa using b
theorem blank_step (b:UInt8) (r:List UInt8) (p:Nat) (l:zaw (b.toNat:Int)=1):zdo (b::r) p=zdo r (p+1):=by
 have key:∀ (w v:List UInt8) (q:Nat),(∀ x∈w,zaw (x.toNat:Int)=1)->zgk 1 v=true->zdo (w++v) q=zdo v (q+w.length):=by
  intro w v q o n;by_cases h:w=[]
  ·subst h;rfl
  exact zgl w v q h o n
 have m:r=r.takeWhile (gB 1)++r.dropWhile (gB 1):=(List.takeWhile_append_dropWhile ..).symm;have j:zgk 1 (r.dropWhile (gB 1))=true:=dropWhile_stops 1 r;have e:∀ x∈r.takeWhile (gB 1),zaw (x.toNat:Int)=1:=fun x d=>by
  have:=qbn.1 List.all_takeWhile x d;rw [gB1] at this;exact qaq.1 this
 rw [m];generalize r.takeWhile (gB 1)=w at e;generalize r.dropWhile (gB 1)=v at j;rw [key w v (p+1) e j,<-List.cons_append,key (b::w) v p (fun x d=>by
  rcases List.mem_cons.1 d with rfl|d
  ·exact l
  exact e x d) j,qay]
 rw [show p+1+w.length=p+(w.length+1) by omega]
theorem remark_step (b:UInt8) (r:List UInt8) (p:Nat) (d:zaw (b.toNat:Int)=2):zdo (b::r) p=zdo ((b::r).drop (runS 2 (b::r))) (p+runS 2 (b::r)):=by
 have ht:tokS (b::r) = .inr (⟨0,toS ((b::r).take (runS 2 (b::r))),0,⟨0,0⟩,0⟩,runS 2 (b::r)):=by
  simp only [tokS];rw [d,if_neg kad,if_neg kad,finS,if_neg kad,if_neg kad,if_neg kad,if_neg kad,zcw,qbi,Nat.min_eq_left (zhh _ _)]
 rw [zea _ p _ _ ht];exact zic _
theorem gB2 (b:UInt8):gB 2 b=decide ((b.toNat:Int)≠10):=by
 show zeu 2 _=_;unfold zeu;rw [if_neg kad,if_pos rfl];rw [Bool.eq_iff_iff,qax,qbu]
theorem ref_remark (s:ByteArray) (m:s.size<=8000) (acc:List S49):∀ (d i k:Nat),i+d=s.size ->
  lychgateref08_Scan.l1 (k+d+1) s acc (i:Int)=lychgateref08_Scan.l0 (k+d-(((bl s).drop i).takeWhile (gB 2)).length) s acc ((i+(((bl s).drop i).takeWhile (gB 2)).length:Nat):Int):=by
 have l:=zbi s;intro d;induction d with
 | zero=>
  intro i k hi;rw [lychgateref08_Scan.l1];rw [if_neg kab,qav kab];rfl
 | succ d j=>
  intro i k hi;have b:i<(bl s).length:=kab;rw [show k+(d+1)+1=(k+d+1)+1 by omega];rw [lychgateref08_Scan.l1];rw [if_pos kab,if_pos kab,zfl s i b,zel _ i b];by_cases h:((bl s)[i].toNat:Int)=10
  ·rw [if_pos h,qby (by rw [gB2,qai (fun e=>e h)];decide)];rfl
  rw [if_neg h,qbx (by rw [gB2];exact qab h),zcn i kab,j (i+1) k kab,qay];rw [show k+d-((List.drop (i+1) (bl s)).takeWhile (gB 2)).length=k+(d+1)-(((List.drop (i+1) (bl s)).takeWhile (gB 2)).length+1) by omega,show i+1+((List.drop (i+1) (bl s)).takeWhile (gB 2)).length=i+(((List.drop (i+1) (bl s)).takeWhile (gB 2)).length+1) by omega]
theorem ref_scan_l0 (s:ByteArray) (D:s.size<=8000):∀ (d i k:Nat) (acc:List S49),i+d=s.size->18000+8001+4*d<=k->acc.length<=i ->
  lychgateref08_Scan.l0 k s acc (i:Int)=some (zlk acc (zdo ((bl s).drop i) i)):=by
 have Z:=zbi s;intro d;induction d using Nat.strongRecOn with
 | _ d y=>
 intro i k acc hi hk Y;obtain ⟨k,rfl⟩:∃ m,k=m+2:=⟨k-2,kab⟩;rw [show k+2=(k+1)+1 by omega];simp only [lychgateref08_Scan.l0];by_cases hd:d=0
 ·rw [if_neg kab,qav kab,zcz,if_pos kab];have:i=s.size:=kab;subst this;rfl
 have A:i<(bl s).length:=kab;rw [if_pos kab,if_pos kab,zfl s i A];have j:=zel (bl s) i A;have I:(if ((bl s)[i].toNat:Int)=32 then (lychgateref08_Scan.j1 (k+1) s acc (i:Int) ((bl s)[i].toNat:Int) (((bl s)[i].toNat:Int)==32)) else (if ((bl s)[i].toNat:Int)=9 then (lychgateref08_Scan.j1 (k+1) s acc (i:Int) ((bl s)[i].toNat:Int) (((bl s)[i].toNat:Int)==9)) else (if ((bl s)[i].toNat:Int)=10 then (lychgateref08_Scan.j1 (k+1) s acc (i:Int) ((bl s)[i].toNat:Int) (((bl s)[i].toNat:Int)==10)) else (lychgateref08_Scan.j1 (k+1) s acc (i:Int) ((bl s)[i].toNat:Int) (((bl s)[i].toNat:Int)==13))))) =
   lychgateref08_Scan.j1 (k+1) s acc (i:Int) ((bl s)[i].toNat:Int) (decide (zaw ((bl s)[i].toNat:Int)=1)):=by
  have b:zaw ((bl s)[i].toNat:Int)=1↔(((bl s)[i].toNat:Int)=32\/((bl s)[i].toNat:Int)=9\/((bl s)[i].toNat:Int)=10\/((bl s)[i].toNat:Int)=13):=begins_one _;generalize ((bl s)[i].toNat:Int)=c at b;by_cases o:c=32
  ·rw [if_pos o,qab (b.2 (.inl o)),o];rfl
  rw [if_neg o];by_cases p:c=9
  ·rw [if_pos p,qab (b.2 (.inr (.inl p))),p];rfl
  rw [if_neg p];by_cases q:c=10
  ·rw [if_pos q,qab (b.2 (.inr (.inr (.inl q)))),q];rfl
  rw [if_neg q];by_cases u:c=13
  ·rw [qab (b.2 (.inr (.inr (.inr u)))),u];rfl
  rw [qai (fun h=>by have:=b.1 h;omega),show (c==13)=false by rw [<-Bool.not_eq_true,qaq];exact u]
 rw [I];simp only [lychgateref08_Scan.j1];by_cases b:zaw ((bl s)[i].toNat:Int)=1
 ·rw [if_pos (qab b),zcn i kab,y (d-1) kab (i+1) k acc kab kab kab,j,blank_step _ _ _ b]
 rw [if_neg (by simpa using b)];by_cases l:zaw ((bl s)[i].toNat:Int)=2
 ·rw [if_pos ((zka _).1 l)];have J:k=(k-d-1)+d+1:=kab;have hg:gB 2 (bl s)[i]=true:=by
   rw [gB2];have:=(zka _).1 l;exact qab kab
  rw [J,ref_remark s D acc d i (k-d-1) hi,j,remark_step _ _ _ l];have U:((bl s)[i]::(bl s).drop (i+1)).takeWhile (gB 2)=(bl s)[i]::((bl s).drop (i+1)).takeWhile (gB 2):=qbx hg;have M:(((bl s)[i]::(bl s).drop (i+1)).takeWhile (gB 2)).length=runS 2 ((bl s)[i]::(bl s).drop (i+1)):=by rw [U,qay,runS];omega
  rw [M,<-j];have L:=zhh 2 ((bl s).drop i);rw [qbv] at L;have af:0<runS 2 ((bl s).drop i):=by rw [j];exact zkt _ _ _
  rw [y (d-runS 2 ((bl s).drop i)) kab (i+runS 2 ((bl s).drop i)) _ acc kab kab kab,List.drop_drop]
 rw [if_neg (fun h=>l ((zka _).2 h))];have h1:inS ((bl s).drop i)≠1:=by rw [j];exact b
 have G:inS ((bl s).drop i)≠2:=by rw [j];exact l
 have r:=one_ev s D i kab k kab h1 G;have O:(bl s).drop i≠[]:=by rw [j];simp
 match ht:tokS ((bl s).drop i) with
 | .inl e=>
  rw [ht] at r;obtain ⟨E,v,w,B⟩:=r;rw [w,zga _ _ e O ht];simp only [qak];rw [if_neg (by rw [B];exact E),B];rfl
 | .inr (t,n)=>
  rw [ht] at r;obtain ⟨t0,z,w⟩:=r;have X:=zfi _ _ _ ht;rw [qbv] at X;rw [w,zea _ _ _ _ ht,if_neg t0];simp only [qak,if_true];have ad:(acc++[atS t i]).length=acc.length+1:=by simp
  rw [if_pos kab];show lychgateref08_Scan.l0 k s (acc++[atS t i]) _=_;rw [y (d-n) kab (i+n) k (acc++[atS t i]) kab kab kab,List.drop_drop];cases zdo ((bl s).drop (i+n)) (i+n) with
  | inl x=>rfl
  | inr ts=>simp [zlk,addT,qbt]
theorem zlq (s:ByteArray) (k:Nat) (hk:60000<=k):lychgateref08_Scan.f k s=some (zbv s):=by
 have b:=zbi s;unfold lychgateref08_Scan.f zbv;by_cases h:s.size>8000
 ·rw [if_pos kab,if_pos h]
 rw [if_neg kab,if_neg h];have:=ref_scan_l0 s kab s.size 0 k [] kab kab (by simp);rw [show ((0:Nat):Int)=0 from rfl] at this;rw [this,List.drop_zero];unfold zdo;rw [b]
end
section
theorem zrh (p:S49->Prop) (m:∀ q,p (endS q)) (ht:∀ (u:List UInt8) (t:S49) (n q:Nat),tokS u = .inr (t,n)->t.f0≠0->p (atS t q)) :
  ∀ (d:Nat) (u:List UInt8) (q:Nat) (l:List S49),zfn d u q = .inr l->∀ t∈l,p t
 | 0,_,_,_,h=>by cases h
 | _+1,[],q,l,h=>by
  cases h;intro t o;rw [List.mem_singleton] at o;rw [o];exact m q
 | d+1,b::r,q,l,h=>by
  simp only [zfn] at h;split at h
  ·cases h
  rename_i t n w;split at h
  ·cases h
  rename_i ts y;have s:=zrh p m ht d _ _ ts y;have h:=qbh h;by_cases e:t.f0=0
  ·rw [if_pos e] at h;rw [<-h];exact s
  rw [if_neg e] at h;rw [<-h];intro x j;rcases List.mem_cons.1 j with rfl|j
  ·exact ht _ t n q w e
  exact s x j
theorem sign_run (b:UInt8) (r:List UInt8):runS 7 (b::r)=1:=by
 show 1+_=1;have:r.takeWhile (gB 7)=[]:=by
  cases r with
  | nil=>rfl
  | cons c t=>
   have:gB 7 c=false:=by
    unfold gB zeu;simp
   rw [qby (by rw [this];decide)]
 rw [this];rfl
theorem num_kind3 (x:ByteArray):(numS x).1=0\/(numS x).1=4\/(numS x).1=5:=by
 unfold numS;cases h:lex_numbered.f x with
 | none=>exact .inl rfl
 | some v=>
  right;show v.1=4\/v.1=5;revert h;unfold lex_numbered.f;intro h;obtain ⟨c,-,h⟩:=qaw.1 h;by_cases b:c=true
  ·rw [if_pos b] at h;obtain ⟨p,-,h⟩:=qaw.1 h;rw [<-qaa h];exact .inr rfl
  rw [if_neg b] at h;split at h
  ·rw [<-qaa h];left;split<;>rfl
  cases h
theorem tok_sign (u:List UInt8) (t:S49) (n:Nat) (h:tokS u = .inr (t,n)) (d:t.f0=7):t.f1.size=1:=by
 match u with
 | []=>cases h
 | b::r=>
  simp only [tokS] at h;by_cases j:zaw (b.toNat:Int)=6
  ·rw [if_pos j] at h;split at h
   ·split at h
    ·obtain ⟨rfl,-⟩:=qcb (qbh h);simp at d
    cases h
   cases h
  rw [if_neg j] at h;by_cases e:zaw (b.toNat:Int)=0
  ·rw [if_pos e] at h;cases h
  rw [if_neg e] at h;unfold finS at h;split at h
  ·split at h
   ·obtain ⟨rfl,-⟩:=qcb (qbh h);simp at d
   split at h
   ·cases h
   obtain ⟨rfl,-⟩:=qcb (qbh h);simp at d
  split at h
  ·split at h
   ·cases h
   obtain ⟨rfl,-⟩:=qcb (qbh h);simp at d
  split at h
  ·split at h
   ·obtain ⟨rfl,-⟩:=qcb (qbh h);have:=num_kind3 (toS ((b::r).take (runS (zaw (b.toNat:Int)) (b::r))));exfalso;have l:(numS (toS ((b::r).take (runS (zaw (b.toNat:Int)) (b::r))))).1=7:=d;omega
   cases h
  split at h
  ·rename_i hi;obtain ⟨rfl,-⟩:=qcb (qbh h);show (toS ((b::r).take (runS (zaw (b.toNat:Int)) (b::r)))).size=1;rw [hi,sign_run,zcw];rfl
  obtain ⟨rfl,-⟩:=qcb (qbh h);simp at d
theorem scanA_sign (s:ByteArray):∀ t∈(zbv s).1,t.f0=7->t.f1.size=1:=by
 unfold zbv;by_cases hs:s.size>8000
 ·rw [if_pos hs];intro t ht;cases ht
 rw [if_neg hs];cases d:zfn (s.size+1) (bl s) 0 with
 | inl x=>intro t ht;cases ht
 | inr l=>
  have:=zrh (fun t=>t.f0=7->t.f1.size=1) (fun q h=>by simp [endS] at h) (fun u t n q h _ b=>tok_sign u t n h b) _ _ _ _ d;intro t ht;exact this t (by simpa [zlk] using ht)
end
end Go.Proofs.YtjeekocidaogoaaGreatDoor.H
