import Derived.Test.YtjeekocidaogoaaGreatDoorK7Ref6
import Derived.BigQuiet
import Derived.Test.YtjeekocidaogoaaGreatDoorK7Mut
import Derived.Test.YtjeekocidaogoaaGreatDoorK7Hx11
set_option linter.unusedVariables false
set_option linter.unusedSimpArgs false
set_option maxRecDepth 100000
set_option maxHeartbeats 8000000
open Go.Proofs.Tryz
namespace Go.Proofs.YtjeekocidaogoaaGreatDoor.H
open Go.RowKit Go.Proofs.YtjeekocidaogoaaGreatDoor.Hand Go.Proofs.YtjeekocidaogoaaGreatDoorW.PrintWords Go.Proofs.YtjeekocidaogoaaGreatDoorW.PrintLast Go.Proofs.YtjeekocidaogoaaGreatDoorW.PrintMore
section
section
variable (g T c:Nat) (toks:List Tok) (aa:∀ k,k<toks.length->(tk toks k).kind≠8->k+1<toks.length)
include aa
theorem listR_port (W:World) (K i:Nat) (p:Int) (nm pa pb pl:Int) (res:PR (List S68)) (h:RSt W g T c toks ⟨i,0,p⟩) (bk:zhk toks (zfi toks) 4 K i=some res) :
  Calls prog 184 #[.pointer (some ⟨g,0,none⟩),.agg #[.int .i64 1,.string zfd,.int .i64 nm,.int .i64 pa,.int .i64 pb,.int .i64 pl]] W
   (zey W g T c toks fun x st=>OkQ (res.bind fun l j => .ok (⟨8,⟨#[]⟩,⟨#[]⟩,[],l,[],[],pl⟩,1) j) p x 1 st):=by
 have hg:=h.lts.1;have hT:=h.lts.2.1;have ba:=zq (fun W' (D:RSt W' g T c toks ⟨i,0,p⟩)=>zbr g T c toks aa W' ⟨i,0,p⟩ sIn D);have bb:=zq (fun W' (D:RSt W' g T c toks (zdn toks sIn ⟨i,0,p⟩))=>zbr g T c toks aa W' (zdn toks sIn ⟨i,0,p⟩) zju D);have bc:=zq (fun W' st (D:RSt W' g T c toks st)=>zbr g T c toks aa W' st zgz D);have af:=zq (fun W' st w (D:RSt W' g T c toks st)=>zcw g T c toks aa W' st w D);have bd:=zq (fun W' d p' (D:RSt W' g T c toks ⟨d,0,p⟩)=>zdm W' g T c toks ⟨d,0,p⟩ 92 p' D);have HK:=zq (fun W' st k (hk:k≠8) (D:RSt W' g T c toks st)=>zdr W' g T c toks aa st k hk D);have aQ:=zq (ListR.start (enc:=(fun p:S68=>[Value.int .i64 p.f0,Value.int .i64 p.f1])) (mk:=(fun (kd:Int) (v:Value)=>(#[.int .i64 kd,.string ⟨#[]⟩,.string ⟨#[]⟩,.slice none 0 0,v,.slice none 0 0,.slice none 0 0,.int .i64 pl]:Array Value))) (ty:=68) (sz:=2) (t:=⟨1,zfd,nm,pa,pb,pl⟩) h);have aX:=zq (zjy (p:=p) bk);have bp:=fun o o2=>zaf (zaf (qab W (tokQ ⟨1,zfd,nm,pa,pb,pl⟩)) o) o2;have aS:=fun o o2=>zbk (bp o o2);have aT:=fun o=>zbk (zaf (qab W (tokQ ⟨1,zfd,nm,pa,pb,pl⟩)) o);have b0:=fun o o2=>(aS o o2).1;have b1:=fun o o2=>(aS o o2).2.1;have b4:=fun o=>(aT o).2.2.2.2.2;have b5:=fun o=>(aT o).2.1;have bx:=@zpa;have bz:=@zrf;have b3:((zfd:ByteArray).toList==[97,100,100,114])=false:=kae;have b6:((zfd:ByteArray).toList==[112,111,114,116])=true:=kae;clear h bk aa bp aS aT;go_enter func184,ntmps184;go_wp2_with (first
  | (go_at_call 58;refine (ba.o _ aQ.o.st).mono ?_;rintro e1 w1 ⟨rfl,m,hF⟩;have aR:=zq (aQ.o.move hg m hF);clear m hF aQ ba b0 b1 b4 b5)
  | (go_at_call 58;refine (bb.o _ aR.o.st).mono ?_;rintro e2 w2 ⟨rfl,m,hF⟩;have aZ:=zq (aR.o.move hg m hF);clear m hF bb aR))
 go_loopg [7,8] K (fun k more many wr=>∃ st:RS,∃ l:List S68,∃ v:Value,∃ b:Bool,∃ n kd:Int,more = .bool b/\many = .int .i64 n/\Zq (n=(l.length:Int))/\Zq (ListR (fun p:S68=>[Value.int .i64 p.f0,Value.int .i64 p.f1]) (fun (kd:Int) (v:Value)=>(#[.int .i64 kd,.string ⟨#[]⟩,.string ⟨#[]⟩,.slice none 0 0,v,.slice none 0 0,.slice none 0 0,.int .i64 pl]:Array Value)) 68 2 W g T c toks ⟨1,zfd,nm,pa,pb,pl⟩ st kd l v wr)/\Zq (l≠[]->kd=8)/\Zq (zov toks (zfi toks) 4 res p k st l b));case atStart=>exact ⟨_,[],_,_,_,0,rfl,rfl,⟨rfl⟩,aZ,⟨fun h=>absurd rfl h⟩,aX⟩
 case round=>
  obtain ⟨st,l,v,b,n,kd,rfl,rfl,HN,HX,aY,HG⟩:=hrel;clear aZ aX;obtain ⟨A,cap,rfl,bw⟩:=HX.o.form;by_cases aP:b=true/\st.e=0
  ·obtain ⟨rfl,he⟩:=aP;rcases HG.o with ⟨d,rfl,-,aO,hr⟩|⟨d,-,hb,-⟩|⟨br,-⟩
   ·cases gk with
    | zero=>simp [zha] at hr
    | succ k=>
    have hn:=HN.o;obtain ⟨u0,u1,u2,e0,e1,e2,e3,e4,e5⟩:=HX.o.st.look;have bu:=HX.o.st.here;have b2:=HX.o.st.many;dsimp only at u0 u1 u2 e0 e1 e2 e3 e4 e5 bu;have HH:=zq (And.intro hr aO);clear HG he hr;by_cases hA:l.length=32/\(tk toks d).kind=4
    ·have aF:(n==32)=true:=qar.2 kab;have bq:((tk toks d).kind==4)=true:=qar.2 hA.2;have HA:=zq hA;have U:=zq (zlz (p:=p) HH.o.1 HH.o.2);rw [zhv HA.o] at U;have aC:=zq (fun W' (D:RSt W' g T c toks ⟨d,92,(tk toks d).place⟩)=>(show Calls prog 57 #[.pointer (some ⟨g,0,none⟩),.int .i64 4] W' fun e' X=>e' = .returned (.agg #[.int .i64 (zai toks 4 ⟨d,92,(tk toks d).place⟩).kind,.string (zai toks 4 ⟨d,92,(tk toks d).place⟩).text,.int .i64 (zai toks 4 ⟨d,92,(tk toks d).place⟩).num,.int .i64 (zai toks 4 ⟨d,92,(tk toks d).place⟩).pa,.int .i64 (zai toks 4 ⟨d,92,(tk toks d).place⟩).pb,.int .i64 (zai toks 4 ⟨d,92,(tk toks d).place⟩).place])/\RSt X g T c toks (zay toks 4 ⟨d,92,(tk toks d).place⟩)/\Fr W' X (·=g) from HK.o W' ⟨d,92,(tk toks d).place⟩ 4 kad D));have ak:=zq HH.o.2;clear hA  HH hn aO;by_cases M:isR toks zba (zay toks 4 ⟨d,92,(tk toks d).place⟩)=true
     ·have hh:hiR toks ⟨d,92,(tk toks d).place⟩=(zai toks 4 (mayR toks zba (zay toks 4 ⟨d,92,(tk toks d).place⟩))).num:=if_pos M;have hp:zmq toks ⟨d,92,(tk toks d).place⟩=(zay toks 4 (mayR toks zba (zay toks 4 ⟨d,92,(tk toks d).place⟩))):=if_pos M;rw [hh,hp] at U;clear hh hp;have aI:=zq (fun W' (D:RSt W' g T c toks (mayR toks zba (zay toks 4 ⟨d,92,(tk toks d).place⟩)))=>(show Calls prog 57 #[.pointer (some ⟨g,0,none⟩),.int .i64 4] W' fun e' X=>e' = .returned (.agg #[.int .i64 (zai toks 4 (mayR toks zba (zay toks 4 ⟨d,92,(tk toks d).place⟩))).kind,.string (zai toks 4 (mayR toks zba (zay toks 4 ⟨d,92,(tk toks d).place⟩))).text,.int .i64 (zai toks 4 (mayR toks zba (zay toks 4 ⟨d,92,(tk toks d).place⟩))).num,.int .i64 (zai toks 4 (mayR toks zba (zay toks 4 ⟨d,92,(tk toks d).place⟩))).pa,.int .i64 (zai toks 4 (mayR toks zba (zay toks 4 ⟨d,92,(tk toks d).place⟩))).pb,.int .i64 (zai toks 4 (mayR toks zba (zay toks 4 ⟨d,92,(tk toks d).place⟩))).place])/\RSt X g T c toks (zay toks 4 (mayR toks zba (zay toks 4 ⟨d,92,(tk toks d).place⟩)))/\Fr W' X (·=g) from HK.o W' (mayR toks zba (zay toks 4 ⟨d,92,(tk toks d).place⟩)) 4 kad D));go_wp2
      go_quiet (fail)
      go_wp2;have aV:zcc 92 (tk toks d).place ⟨d,0,p⟩=⟨d,92,(tk toks d).place⟩:=if_pos rfl;go_region_law (go_simp;go_at_call 33;refine (bd.o _ _ _ kbi).mono ?_;rintro e9 w9 ⟨rfl,m,hF⟩;rw [aV] at m;have HX:=zq (HX.o.move hg m kag);clear m hF);go_wp2_with (first
       | (go_at_call 88;refine (af.o _ _ zet O.o.st).mono ?_;rintro e4 w4 ⟨rfl,m,hF⟩;have a6:=zq (O.o.move hg m hF);clear m hF)
       | (go_at_call 57;refine (aI.o _ q.o.st).mono ?_;rintro e6 Z ⟨rfl,m,hF⟩;have aK:=zq (q.o.move hg m hF);have ad:=hF.blk aD.o kbe;have r1:=zac ad 1;have r2:Z.cell? ⟨w1.heap.size+1,1,none⟩=some (.int .i64 (zai toks 4 ⟨d,92,(tk toks d).place⟩).num):=zab ad 1;have aA:=zan (cs':=#[.int .i64 (zai toks 4 ⟨d,92,(tk toks d).place⟩).num,.int .i64 (zai toks 4 (mayR toks zba (zay toks 4 ⟨d,92,(tk toks d).place⟩))).num]) ad 1 (.int .i64 (zai toks 4 (mayR toks zba (zay toks 4 ⟨d,92,(tk toks d).place⟩))).num) rfl;have aG:(Z.setCell ⟨w1.heap.size+1,1,none⟩ (.int .i64 (zai toks 4 (mayR toks zba (zay toks 4 ⟨d,92,(tk toks d).place⟩))).num)).cell? ⟨w1.heap.size+1,0,none⟩=some (.int .i64 (zai toks 4 ⟨d,92,(tk toks d).place⟩).num):=zab aA 0;have aH:(Z.setCell ⟨w1.heap.size+1,1,none⟩ (.int .i64 (zai toks 4 (mayR toks zba (zay toks 4 ⟨d,92,(tk toks d).place⟩))).num)).cell? ⟨w1.heap.size+1,1,none⟩=some (.int .i64 (zai toks 4 (mayR toks zba (zay toks 4 ⟨d,92,(tk toks d).place⟩))).num):=zab aA 1;have B:=zq (aK.o.far (p:=⟨w1.heap.size+1,1,none⟩) (by show g≠w1.heap.size+1;have:=az.o;omega) (by show T≠w1.heap.size+1;have:=az.o;omega) (by show W.heap.size+1+1<w1.heap.size+1;have:=az.o;omega) (fun e=>by have:=aE.o _ e;have e2:(⟨w1.heap.size+1,1,none⟩:Addr).block=w1.heap.size+1:=rfl;omega) (.int .i64 (zai toks 4 (mayR toks zba (zay toks 4 ⟨d,92,(tk toks d).place⟩))).num));have k5:(Z.setCell ⟨w1.heap.size+1,1,none⟩ (.int .i64 (zai toks 4 (mayR toks zba (zay toks 4 ⟨d,92,(tk toks d).place⟩))).num)).cell? ⟨W.heap.size+1+1,4,none⟩=some (.slice A l.length cap):=zab B.o.cnd 4;clear m hF ad aA)
       | (go_at_call 57;refine (aC.o _ kan).mono ?_;rintro e1 w1 ⟨rfl,m,hF⟩;have ab:=zq (HX.o.move hg m kag);have z:=zq (((ab.o.kind hg hT 8 rfl).alloc hg (tokQ (zai toks 4 ⟨d,92,(tk toks d).place⟩))).alloc hg (.cells #[.int .i64 (zai toks 4 ⟨d,92,(tk toks d).place⟩).num,.int .i64 (zai toks 4 ⟨d,92,(tk toks d).place⟩).num] 68));have a7:=zam ab.o.cnd;have f0:=zac ab.o.cnd 0;have k0:w1.cell? ⟨W.heap.size+1+1,0,none⟩=some (.int .i64 kd):=zab ab.o.cnd 0;have aN:=fun o=>zac (zaf ab.o.cnd o) 0;have J:=qab (w1.setCell ⟨W.heap.size+1+1,0,none⟩ (.int .i64 8)) (tokQ (zai toks 4 ⟨d,92,(tk toks d).place⟩));rw [(by simp:(w1.setCell ⟨W.heap.size+1+1,0,none⟩ (.int .i64 8)).heap.size=w1.heap.size)] at J;obtain ⟨t0,t1,t2,t3,t4,t5⟩:=zbk J;have I:=qab ((w1.setCell ⟨W.heap.size+1+1,0,none⟩ (.int .i64 8)).alloc (tokQ (zai toks 4 ⟨d,92,(tk toks d).place⟩))) (.cells #[.int .i64 (zai toks 4 ⟨d,92,(tk toks d).place⟩).num,.int .i64 (zai toks 4 ⟨d,92,(tk toks d).place⟩).num] 68);rw [(by simp:((w1.setCell ⟨W.heap.size+1+1,0,none⟩ (.int .i64 8)).alloc (tokQ (zai toks 4 ⟨d,92,(tk toks d).place⟩))).heap.size=w1.heap.size+1)] at I;have a1:=zq I;have aE:=zq (fun b (hb:(Value.slice A l.length cap).ownBlock=some b)=>(ab.o.row.blk hb).2.1);have az:=zq a7;clear m hF J I)
       | (go_at_call 88;refine (af.o _ _ zba z.o.st).mono ?_;rintro e5 s ⟨rfl,m,hF⟩;have q:=zq (z.o.move hg m hF);have r:=hF.blk a1.o kbe;have aD:=zq r;have aG:s.cell? ⟨w1.heap.size+1,0,none⟩=some (.int .i64 (zai toks 4 ⟨d,92,(tk toks d).place⟩).num):=zab r 0;have aH:s.cell? ⟨w1.heap.size+1,1,none⟩=some (.int .i64 (zai toks 4 ⟨d,92,(tk toks d).place⟩).num):=zab r 1;have k5:s.cell? ⟨W.heap.size+1+1,4,none⟩=some (.slice A l.length cap):=zab q.o.cnd 4;have aJ:=zq hF.size;clear m hF r z)
       | ((with_reducible refine zas (b := .append) (xs:=#[.tmp 83,.tmp 85]) rfl ?_);at_builtin;refine zaz (W:=(Z.setCell ⟨w1.heap.size+1,1,none⟩ (.int .i64 (zai toks 4 (mayR toks zba (zay toks 4 ⟨d,92,(tk toks d).place⟩))).num))) ?aW W.heap.size rfl (.tmp 83) (.tmp 85) 57 68 (.agg #[.int .i64 0,.int .i64 0]) 2 16 rfl rfl rfl rfl kad (.slice A l.length cap) l.length (l.flatMap (fun p:S68=>[Value.int .i64 p.f0,Value.int .i64 p.f1])) [.int .i64 (zai toks 4 ⟨d,92,(tk toks d).place⟩).num,.int .i64 (zai toks 4 (mayR toks zba (zay toks 4 ⟨d,92,(tk toks d).place⟩))).num] rfl rfl rfl ?aU B.o.row ?aB ?aM ?aL ?_;(case aW=>first|rfl|simp [qae]);(case aU=>intro u hu;simp at hu;rcases hu with rfl|rfl<;>rfl);(case aB=>have:=zam B.o.cnd;omega);(case aM=>have:=ak.o;simp only [maxLen];omega);(case aL=>have:=ak.o;omega);intro v1 w3 G E Y a8;have L:=(E.block _ (zam B.o.cnd) (fun e=>by have:=B.o.own _ e.symm;omega)).trans B.o.cnd;have g6:=zac L 4;have h6:w3.cell? ⟨W.heap.size+1+1,4,none⟩=some (.slice A l.length cap):=zab L 4;have O:=zq (B.o.snoc (y:=⟨(zai toks 4 ⟨d,92,(tk toks d).place⟩).num,(zai toks 4 (mayR toks zba (zay toks 4 ⟨d,92,(tk toks d).place⟩))).num⟩) (f:=4) hg hT kbn G E Y rfl);obtain ⟨A9,c9,rfl,-,-⟩:=G.form;clear G E Y a8 L))
      all_goals (go_roundg k;(case measure=>omega);(case rel=>exact ⟨_,l++[⟨(zai toks 4 ⟨d,92,(tk toks d).place⟩).num,(zai toks 4 (mayR toks zba (zay toks 4 ⟨d,92,(tk toks d).place⟩))).num⟩],_,_,_,8,rfl,rfl,⟨by have h1:=HN.o;have h2:=ak.o;simp only [qal,qay];first|omega|(unfold wrap64;omega)|(have:=qar.1 aF;omega)⟩,a6,⟨fun _=>rfl⟩,U⟩))
     have M:isR toks zba (zay toks 4 ⟨d,92,(tk toks d).place⟩)=false:=(by simpa using M);have hh:hiR toks ⟨d,92,(tk toks d).place⟩=(zai toks 4 ⟨d,92,(tk toks d).place⟩).num:=(if_neg (by rw [M];decide));have hp:zmq toks ⟨d,92,(tk toks d).place⟩=(mayR toks zba (zay toks 4 ⟨d,92,(tk toks d).place⟩)):=(if_neg (by rw [M];decide));rw [hh,hp] at U;clear hh hp;go_wp2
     go_quiet (fail)
     go_wp2;have aV:zcc 92 (tk toks d).place ⟨d,0,p⟩=⟨d,92,(tk toks d).place⟩:=if_pos rfl;go_region_law (go_simp;go_at_call 33;refine (bd.o _ _ _ kbi).mono ?_;rintro e9 w9 ⟨rfl,m,hF⟩;rw [aV] at m;have HX:=zq (HX.o.move hg m kag);clear m hF);go_wp2_with (first
      | (go_at_call 88;refine (af.o _ _ zet O.o.st).mono ?_;rintro e4 w4 ⟨rfl,m,hF⟩;have a6:=zq (O.o.move hg m hF);clear m hF)
      | (go_at_call 57;refine (aC.o _ kan).mono ?_;rintro e1 w1 ⟨rfl,m,hF⟩;have ab:=zq (HX.o.move hg m kag);have z:=zq (((ab.o.kind hg hT 8 rfl).alloc hg (tokQ (zai toks 4 ⟨d,92,(tk toks d).place⟩))).alloc hg (.cells #[.int .i64 (zai toks 4 ⟨d,92,(tk toks d).place⟩).num,.int .i64 (zai toks 4 ⟨d,92,(tk toks d).place⟩).num] 68));have a7:=zam ab.o.cnd;have f0:=zac ab.o.cnd 0;have k0:w1.cell? ⟨W.heap.size+1+1,0,none⟩=some (.int .i64 kd):=zab ab.o.cnd 0;have aN:=fun o=>zac (zaf ab.o.cnd o) 0;have J:=qab (w1.setCell ⟨W.heap.size+1+1,0,none⟩ (.int .i64 8)) (tokQ (zai toks 4 ⟨d,92,(tk toks d).place⟩));rw [(by simp:(w1.setCell ⟨W.heap.size+1+1,0,none⟩ (.int .i64 8)).heap.size=w1.heap.size)] at J;obtain ⟨t0,t1,t2,t3,t4,t5⟩:=zbk J;have I:=qab ((w1.setCell ⟨W.heap.size+1+1,0,none⟩ (.int .i64 8)).alloc (tokQ (zai toks 4 ⟨d,92,(tk toks d).place⟩))) (.cells #[.int .i64 (zai toks 4 ⟨d,92,(tk toks d).place⟩).num,.int .i64 (zai toks 4 ⟨d,92,(tk toks d).place⟩).num] 68);rw [(by simp:((w1.setCell ⟨W.heap.size+1+1,0,none⟩ (.int .i64 8)).alloc (tokQ (zai toks 4 ⟨d,92,(tk toks d).place⟩))).heap.size=w1.heap.size+1)] at I;have a1:=zq I;have aE:=zq (fun b (hb:(Value.slice A l.length cap).ownBlock=some b)=>(ab.o.row.blk hb).2.1);have az:=zq a7;clear m hF J I)
      | (go_at_call 88;refine (af.o _ _ zba z.o.st).mono ?_;rintro e5 s ⟨rfl,m,hF⟩;have q:=zq (z.o.move hg m hF);have r:=hF.blk a1.o kbe;have aD:=zq r;have aG:s.cell? ⟨w1.heap.size+1,0,none⟩=some (.int .i64 (zai toks 4 ⟨d,92,(tk toks d).place⟩).num):=zab r 0;have aH:s.cell? ⟨w1.heap.size+1,1,none⟩=some (.int .i64 (zai toks 4 ⟨d,92,(tk toks d).place⟩).num):=zab r 1;have k5:s.cell? ⟨W.heap.size+1+1,4,none⟩=some (.slice A l.length cap):=zab q.o.cnd 4;have aJ:=zq hF.size;clear m hF r z)
      | ((with_reducible refine zas (b := .append) (xs:=#[.tmp 83,.tmp 85]) rfl ?_);at_builtin;refine zaz (W:=s) ?aW W.heap.size rfl (.tmp 83) (.tmp 85) 57 68 (.agg #[.int .i64 0,.int .i64 0]) 2 16 rfl rfl rfl rfl kad (.slice A l.length cap) l.length (l.flatMap (fun p:S68=>[Value.int .i64 p.f0,Value.int .i64 p.f1])) [.int .i64 (zai toks 4 ⟨d,92,(tk toks d).place⟩).num,.int .i64 (zai toks 4 ⟨d,92,(tk toks d).place⟩).num] rfl rfl rfl ?aU q.o.row ?aB ?aM ?aL ?_;(case aW=>first|rfl|simp [qae]);(case aU=>intro u hu;simp at hu;rcases hu with rfl|rfl<;>rfl);(case aB=>have:=zam q.o.cnd;omega);(case aM=>have:=ak.o;simp only [maxLen];omega);(case aL=>have:=ak.o;omega);intro v1 w3 G E Y a8;have L:=(E.block _ (zam q.o.cnd) (fun e=>by have:=q.o.own _ e.symm;omega)).trans q.o.cnd;have g6:=zac L 4;have h6:w3.cell? ⟨W.heap.size+1+1,4,none⟩=some (.slice A l.length cap):=zab L 4;have O:=zq (q.o.snoc (y:=⟨(zai toks 4 ⟨d,92,(tk toks d).place⟩).num,(zai toks 4 ⟨d,92,(tk toks d).place⟩).num⟩) (f:=4) hg hT kbn G E Y rfl);obtain ⟨A9,c9,rfl,-,-⟩:=G.form;clear G E Y a8 L))
     all_goals (go_roundg k;(case measure=>omega);(case rel=>exact ⟨_,l++[⟨(zai toks 4 ⟨d,92,(tk toks d).place⟩).num,(zai toks 4 ⟨d,92,(tk toks d).place⟩).num⟩],_,_,_,8,rfl,rfl,⟨by have h1:=HN.o;have h2:=ak.o;simp only [qal,qay];first|omega|(unfold wrap64;omega)|(have:=qar.1 aF;omega)⟩,a6,⟨fun _=>rfl⟩,U⟩))
    by_cases hB:l.length=32
    ·have aF:(n==32)=true:=qar.2 kab;have bq:((tk toks d).kind==4)=false:=qah.2 fun e=>hA ⟨hB,e⟩;have HA:=zq hA;have U:=zq (zlz (p:=p) HH.o.1 HH.o.2);rw [zfq HA.o] at U;have aC:=zq (fun W' (D:RSt W' g T c toks ⟨d,0,p⟩)=>(show Calls prog 57 #[.pointer (some ⟨g,0,none⟩),.int .i64 4] W' fun e' X=>e' = .returned (.agg #[.int .i64 (zai toks 4 ⟨d,0,p⟩).kind,.string (zai toks 4 ⟨d,0,p⟩).text,.int .i64 (zai toks 4 ⟨d,0,p⟩).num,.int .i64 (zai toks 4 ⟨d,0,p⟩).pa,.int .i64 (zai toks 4 ⟨d,0,p⟩).pb,.int .i64 (zai toks 4 ⟨d,0,p⟩).place])/\RSt X g T c toks (zay toks 4 ⟨d,0,p⟩)/\Fr W' X (·=g) from HK.o W' ⟨d,0,p⟩ 4 kad D));have ak:=zq HH.o.2;clear hA hB HH hn aO;by_cases M:isR toks zba (zay toks 4 ⟨d,0,p⟩)=true
     ·have hh:hiR toks ⟨d,0,p⟩=(zai toks 4 (mayR toks zba (zay toks 4 ⟨d,0,p⟩))).num:=if_pos M;have hp:zmq toks ⟨d,0,p⟩=(zay toks 4 (mayR toks zba (zay toks 4 ⟨d,0,p⟩))):=if_pos M;rw [hh,hp] at U;clear hh hp;have aI:=zq (fun W' (D:RSt W' g T c toks (mayR toks zba (zay toks 4 ⟨d,0,p⟩)))=>(show Calls prog 57 #[.pointer (some ⟨g,0,none⟩),.int .i64 4] W' fun e' X=>e' = .returned (.agg #[.int .i64 (zai toks 4 (mayR toks zba (zay toks 4 ⟨d,0,p⟩))).kind,.string (zai toks 4 (mayR toks zba (zay toks 4 ⟨d,0,p⟩))).text,.int .i64 (zai toks 4 (mayR toks zba (zay toks 4 ⟨d,0,p⟩))).num,.int .i64 (zai toks 4 (mayR toks zba (zay toks 4 ⟨d,0,p⟩))).pa,.int .i64 (zai toks 4 (mayR toks zba (zay toks 4 ⟨d,0,p⟩))).pb,.int .i64 (zai toks 4 (mayR toks zba (zay toks 4 ⟨d,0,p⟩))).place])/\RSt X g T c toks (zay toks 4 (mayR toks zba (zay toks 4 ⟨d,0,p⟩)))/\Fr W' X (·=g) from HK.o W' (mayR toks zba (zay toks 4 ⟨d,0,p⟩)) 4 kad D));go_wp2
      go_quiet (fail)
      go_wp2_with (first
       | (go_at_call 88;refine (af.o _ _ zet O.o.st).mono ?_;rintro e4 w4 ⟨rfl,m,hF⟩;have a6:=zq (O.o.move hg m hF);clear m hF)
       | (go_at_call 57;refine (aI.o _ q.o.st).mono ?_;rintro e6 Z ⟨rfl,m,hF⟩;have aK:=zq (q.o.move hg m hF);have ad:=hF.blk aD.o kbe;have r1:=zac ad 1;have r2:Z.cell? ⟨w1.heap.size+1,1,none⟩=some (.int .i64 (zai toks 4 ⟨d,0,p⟩).num):=zab ad 1;have aA:=zan (cs':=#[.int .i64 (zai toks 4 ⟨d,0,p⟩).num,.int .i64 (zai toks 4 (mayR toks zba (zay toks 4 ⟨d,0,p⟩))).num]) ad 1 (.int .i64 (zai toks 4 (mayR toks zba (zay toks 4 ⟨d,0,p⟩))).num) rfl;have aG:(Z.setCell ⟨w1.heap.size+1,1,none⟩ (.int .i64 (zai toks 4 (mayR toks zba (zay toks 4 ⟨d,0,p⟩))).num)).cell? ⟨w1.heap.size+1,0,none⟩=some (.int .i64 (zai toks 4 ⟨d,0,p⟩).num):=zab aA 0;have aH:(Z.setCell ⟨w1.heap.size+1,1,none⟩ (.int .i64 (zai toks 4 (mayR toks zba (zay toks 4 ⟨d,0,p⟩))).num)).cell? ⟨w1.heap.size+1,1,none⟩=some (.int .i64 (zai toks 4 (mayR toks zba (zay toks 4 ⟨d,0,p⟩))).num):=zab aA 1;have B:=zq (aK.o.far (p:=⟨w1.heap.size+1,1,none⟩) (by show g≠w1.heap.size+1;have:=az.o;omega) (by show T≠w1.heap.size+1;have:=az.o;omega) (by show W.heap.size+1+1<w1.heap.size+1;have:=az.o;omega) (fun e=>by have:=aE.o _ e;have e2:(⟨w1.heap.size+1,1,none⟩:Addr).block=w1.heap.size+1:=rfl;omega) (.int .i64 (zai toks 4 (mayR toks zba (zay toks 4 ⟨d,0,p⟩))).num));have k5:(Z.setCell ⟨w1.heap.size+1,1,none⟩ (.int .i64 (zai toks 4 (mayR toks zba (zay toks 4 ⟨d,0,p⟩))).num)).cell? ⟨W.heap.size+1+1,4,none⟩=some (.slice A l.length cap):=zab B.o.cnd 4;clear m hF ad aA)
       | (go_at_call 57;refine (aC.o _ kan).mono ?_;rintro e1 w1 ⟨rfl,m,hF⟩;have ab:=zq (HX.o.move hg m kag);have z:=zq (((ab.o.kind hg hT 8 rfl).alloc hg (tokQ (zai toks 4 ⟨d,0,p⟩))).alloc hg (.cells #[.int .i64 (zai toks 4 ⟨d,0,p⟩).num,.int .i64 (zai toks 4 ⟨d,0,p⟩).num] 68));have a7:=zam ab.o.cnd;have f0:=zac ab.o.cnd 0;have k0:w1.cell? ⟨W.heap.size+1+1,0,none⟩=some (.int .i64 kd):=zab ab.o.cnd 0;have aN:=fun o=>zac (zaf ab.o.cnd o) 0;have J:=qab (w1.setCell ⟨W.heap.size+1+1,0,none⟩ (.int .i64 8)) (tokQ (zai toks 4 ⟨d,0,p⟩));rw [(by simp:(w1.setCell ⟨W.heap.size+1+1,0,none⟩ (.int .i64 8)).heap.size=w1.heap.size)] at J;obtain ⟨t0,t1,t2,t3,t4,t5⟩:=zbk J;have I:=qab ((w1.setCell ⟨W.heap.size+1+1,0,none⟩ (.int .i64 8)).alloc (tokQ (zai toks 4 ⟨d,0,p⟩))) (.cells #[.int .i64 (zai toks 4 ⟨d,0,p⟩).num,.int .i64 (zai toks 4 ⟨d,0,p⟩).num] 68);rw [(by simp:((w1.setCell ⟨W.heap.size+1+1,0,none⟩ (.int .i64 8)).alloc (tokQ (zai toks 4 ⟨d,0,p⟩))).heap.size=w1.heap.size+1)] at I;have a1:=zq I;have aE:=zq (fun b (hb:(Value.slice A l.length cap).ownBlock=some b)=>(ab.o.row.blk hb).2.1);have az:=zq a7;clear m hF J I)
       | (go_at_call 88;refine (af.o _ _ zba z.o.st).mono ?_;rintro e5 s ⟨rfl,m,hF⟩;have q:=zq (z.o.move hg m hF);have r:=hF.blk a1.o kbe;have aD:=zq r;have aG:s.cell? ⟨w1.heap.size+1,0,none⟩=some (.int .i64 (zai toks 4 ⟨d,0,p⟩).num):=zab r 0;have aH:s.cell? ⟨w1.heap.size+1,1,none⟩=some (.int .i64 (zai toks 4 ⟨d,0,p⟩).num):=zab r 1;have k5:s.cell? ⟨W.heap.size+1+1,4,none⟩=some (.slice A l.length cap):=zab q.o.cnd 4;have aJ:=zq hF.size;clear m hF r z)
       | ((with_reducible refine zas (b := .append) (xs:=#[.tmp 83,.tmp 85]) rfl ?_);at_builtin;refine zaz (W:=(Z.setCell ⟨w1.heap.size+1,1,none⟩ (.int .i64 (zai toks 4 (mayR toks zba (zay toks 4 ⟨d,0,p⟩))).num))) ?aW W.heap.size rfl (.tmp 83) (.tmp 85) 57 68 (.agg #[.int .i64 0,.int .i64 0]) 2 16 rfl rfl rfl rfl kad (.slice A l.length cap) l.length (l.flatMap (fun p:S68=>[Value.int .i64 p.f0,Value.int .i64 p.f1])) [.int .i64 (zai toks 4 ⟨d,0,p⟩).num,.int .i64 (zai toks 4 (mayR toks zba (zay toks 4 ⟨d,0,p⟩))).num] rfl rfl rfl ?aU B.o.row ?aB ?aM ?aL ?_;(case aW=>first|rfl|simp [qae]);(case aU=>intro u hu;simp at hu;rcases hu with rfl|rfl<;>rfl);(case aB=>have:=zam B.o.cnd;omega);(case aM=>have:=ak.o;simp only [maxLen];omega);(case aL=>have:=ak.o;omega);intro v1 w3 G E Y a8;have L:=(E.block _ (zam B.o.cnd) (fun e=>by have:=B.o.own _ e.symm;omega)).trans B.o.cnd;have g6:=zac L 4;have h6:w3.cell? ⟨W.heap.size+1+1,4,none⟩=some (.slice A l.length cap):=zab L 4;have O:=zq (B.o.snoc (y:=⟨(zai toks 4 ⟨d,0,p⟩).num,(zai toks 4 (mayR toks zba (zay toks 4 ⟨d,0,p⟩))).num⟩) (f:=4) hg hT kbn G E Y rfl);obtain ⟨A9,c9,rfl,-,-⟩:=G.form;clear G E Y a8 L))
      all_goals (go_roundg k;(case measure=>omega);(case rel=>exact ⟨_,l++[⟨(zai toks 4 ⟨d,0,p⟩).num,(zai toks 4 (mayR toks zba (zay toks 4 ⟨d,0,p⟩))).num⟩],_,_,_,8,rfl,rfl,⟨by have h1:=HN.o;have h2:=ak.o;simp only [qal,qay];first|omega|(unfold wrap64;omega)|(have:=qar.1 aF;omega)⟩,a6,⟨fun _=>rfl⟩,U⟩))
     have M:isR toks zba (zay toks 4 ⟨d,0,p⟩)=false:=(by simpa using M);have hh:hiR toks ⟨d,0,p⟩=(zai toks 4 ⟨d,0,p⟩).num:=(if_neg (by rw [M];decide));have hp:zmq toks ⟨d,0,p⟩=(mayR toks zba (zay toks 4 ⟨d,0,p⟩)):=(if_neg (by rw [M];decide));rw [hh,hp] at U;clear hh hp;go_wp2
     go_quiet (fail)
     go_wp2_with (first
      | (go_at_call 88;refine (af.o _ _ zet O.o.st).mono ?_;rintro e4 w4 ⟨rfl,m,hF⟩;have a6:=zq (O.o.move hg m hF);clear m hF)
      | (go_at_call 57;refine (aC.o _ kan).mono ?_;rintro e1 w1 ⟨rfl,m,hF⟩;have ab:=zq (HX.o.move hg m kag);have z:=zq (((ab.o.kind hg hT 8 rfl).alloc hg (tokQ (zai toks 4 ⟨d,0,p⟩))).alloc hg (.cells #[.int .i64 (zai toks 4 ⟨d,0,p⟩).num,.int .i64 (zai toks 4 ⟨d,0,p⟩).num] 68));have a7:=zam ab.o.cnd;have f0:=zac ab.o.cnd 0;have k0:w1.cell? ⟨W.heap.size+1+1,0,none⟩=some (.int .i64 kd):=zab ab.o.cnd 0;have aN:=fun o=>zac (zaf ab.o.cnd o) 0;have J:=qab (w1.setCell ⟨W.heap.size+1+1,0,none⟩ (.int .i64 8)) (tokQ (zai toks 4 ⟨d,0,p⟩));rw [(by simp:(w1.setCell ⟨W.heap.size+1+1,0,none⟩ (.int .i64 8)).heap.size=w1.heap.size)] at J;obtain ⟨t0,t1,t2,t3,t4,t5⟩:=zbk J;have I:=qab ((w1.setCell ⟨W.heap.size+1+1,0,none⟩ (.int .i64 8)).alloc (tokQ (zai toks 4 ⟨d,0,p⟩))) (.cells #[.int .i64 (zai toks 4 ⟨d,0,p⟩).num,.int .i64 (zai toks 4 ⟨d,0,p⟩).num] 68);rw [(by simp:((w1.setCell ⟨W.heap.size+1+1,0,none⟩ (.int .i64 8)).alloc (tokQ (zai toks 4 ⟨d,0,p⟩))).heap.size=w1.heap.size+1)] at I;have a1:=zq I;have aE:=zq (fun b (hb:(Value.slice A l.length cap).ownBlock=some b)=>(ab.o.row.blk hb).2.1);have az:=zq a7;clear m hF J I)
      | (go_at_call 88;refine (af.o _ _ zba z.o.st).mono ?_;rintro e5 s ⟨rfl,m,hF⟩;have q:=zq (z.o.move hg m hF);have r:=hF.blk a1.o kbe;have aD:=zq r;have aG:s.cell? ⟨w1.heap.size+1,0,none⟩=some (.int .i64 (zai toks 4 ⟨d,0,p⟩).num):=zab r 0;have aH:s.cell? ⟨w1.heap.size+1,1,none⟩=some (.int .i64 (zai toks 4 ⟨d,0,p⟩).num):=zab r 1;have k5:s.cell? ⟨W.heap.size+1+1,4,none⟩=some (.slice A l.length cap):=zab q.o.cnd 4;have aJ:=zq hF.size;clear m hF r z)
      | ((with_reducible refine zas (b := .append) (xs:=#[.tmp 83,.tmp 85]) rfl ?_);at_builtin;refine zaz (W:=s) ?aW W.heap.size rfl (.tmp 83) (.tmp 85) 57 68 (.agg #[.int .i64 0,.int .i64 0]) 2 16 rfl rfl rfl rfl kad (.slice A l.length cap) l.length (l.flatMap (fun p:S68=>[Value.int .i64 p.f0,Value.int .i64 p.f1])) [.int .i64 (zai toks 4 ⟨d,0,p⟩).num,.int .i64 (zai toks 4 ⟨d,0,p⟩).num] rfl rfl rfl ?aU q.o.row ?aB ?aM ?aL ?_;(case aW=>first|rfl|simp [qae]);(case aU=>intro u hu;simp at hu;rcases hu with rfl|rfl<;>rfl);(case aB=>have:=zam q.o.cnd;omega);(case aM=>have:=ak.o;simp only [maxLen];omega);(case aL=>have:=ak.o;omega);intro v1 w3 G E Y a8;have L:=(E.block _ (zam q.o.cnd) (fun e=>by have:=q.o.own _ e.symm;omega)).trans q.o.cnd;have g6:=zac L 4;have h6:w3.cell? ⟨W.heap.size+1+1,4,none⟩=some (.slice A l.length cap):=zab L 4;have O:=zq (q.o.snoc (y:=⟨(zai toks 4 ⟨d,0,p⟩).num,(zai toks 4 ⟨d,0,p⟩).num⟩) (f:=4) hg hT kbn G E Y rfl);obtain ⟨A9,c9,rfl,-,-⟩:=G.form;clear G E Y a8 L))
     all_goals (go_roundg k;(case measure=>omega);(case rel=>exact ⟨_,l++[⟨(zai toks 4 ⟨d,0,p⟩).num,(zai toks 4 ⟨d,0,p⟩).num⟩],_,_,_,8,rfl,rfl,⟨by have h1:=HN.o;have h2:=ak.o;simp only [qal,qay];first|omega|(unfold wrap64;omega)|(have:=qar.1 aF;omega)⟩,a6,⟨fun _=>rfl⟩,U⟩))
    have aF:(n==32)=false:=qah.2 kab;have HA:=zq hA;have U:=zq (zlz (p:=p) HH.o.1 HH.o.2);rw [zfq HA.o] at U;have aC:=zq (fun W' (D:RSt W' g T c toks ⟨d,0,p⟩)=>(show Calls prog 57 #[.pointer (some ⟨g,0,none⟩),.int .i64 4] W' fun e' X=>e' = .returned (.agg #[.int .i64 (zai toks 4 ⟨d,0,p⟩).kind,.string (zai toks 4 ⟨d,0,p⟩).text,.int .i64 (zai toks 4 ⟨d,0,p⟩).num,.int .i64 (zai toks 4 ⟨d,0,p⟩).pa,.int .i64 (zai toks 4 ⟨d,0,p⟩).pb,.int .i64 (zai toks 4 ⟨d,0,p⟩).place])/\RSt X g T c toks (zay toks 4 ⟨d,0,p⟩)/\Fr W' X (·=g) from HK.o W' ⟨d,0,p⟩ 4 kad D));have ak:=zq HH.o.2;clear hA hB HH hn aO;by_cases M:isR toks zba (zay toks 4 ⟨d,0,p⟩)=true
    ·have hh:hiR toks ⟨d,0,p⟩=(zai toks 4 (mayR toks zba (zay toks 4 ⟨d,0,p⟩))).num:=if_pos M;have hp:zmq toks ⟨d,0,p⟩=(zay toks 4 (mayR toks zba (zay toks 4 ⟨d,0,p⟩))):=if_pos M;rw [hh,hp] at U;clear hh hp;have aI:=zq (fun W' (D:RSt W' g T c toks (mayR toks zba (zay toks 4 ⟨d,0,p⟩)))=>(show Calls prog 57 #[.pointer (some ⟨g,0,none⟩),.int .i64 4] W' fun e' X=>e' = .returned (.agg #[.int .i64 (zai toks 4 (mayR toks zba (zay toks 4 ⟨d,0,p⟩))).kind,.string (zai toks 4 (mayR toks zba (zay toks 4 ⟨d,0,p⟩))).text,.int .i64 (zai toks 4 (mayR toks zba (zay toks 4 ⟨d,0,p⟩))).num,.int .i64 (zai toks 4 (mayR toks zba (zay toks 4 ⟨d,0,p⟩))).pa,.int .i64 (zai toks 4 (mayR toks zba (zay toks 4 ⟨d,0,p⟩))).pb,.int .i64 (zai toks 4 (mayR toks zba (zay toks 4 ⟨d,0,p⟩))).place])/\RSt X g T c toks (zay toks 4 (mayR toks zba (zay toks 4 ⟨d,0,p⟩)))/\Fr W' X (·=g) from HK.o W' (mayR toks zba (zay toks 4 ⟨d,0,p⟩)) 4 kad D));go_wp2
     go_quiet (fail)
     go_wp2_with (first
      | (go_at_call 88;refine (af.o _ _ zet O.o.st).mono ?_;rintro e4 w4 ⟨rfl,m,hF⟩;have a6:=zq (O.o.move hg m hF);clear m hF)
      | (go_at_call 57;refine (aI.o _ q.o.st).mono ?_;rintro e6 Z ⟨rfl,m,hF⟩;have aK:=zq (q.o.move hg m hF);have ad:=hF.blk aD.o kbe;have r1:=zac ad 1;have r2:Z.cell? ⟨w1.heap.size+1,1,none⟩=some (.int .i64 (zai toks 4 ⟨d,0,p⟩).num):=zab ad 1;have aA:=zan (cs':=#[.int .i64 (zai toks 4 ⟨d,0,p⟩).num,.int .i64 (zai toks 4 (mayR toks zba (zay toks 4 ⟨d,0,p⟩))).num]) ad 1 (.int .i64 (zai toks 4 (mayR toks zba (zay toks 4 ⟨d,0,p⟩))).num) rfl;have aG:(Z.setCell ⟨w1.heap.size+1,1,none⟩ (.int .i64 (zai toks 4 (mayR toks zba (zay toks 4 ⟨d,0,p⟩))).num)).cell? ⟨w1.heap.size+1,0,none⟩=some (.int .i64 (zai toks 4 ⟨d,0,p⟩).num):=zab aA 0;have aH:(Z.setCell ⟨w1.heap.size+1,1,none⟩ (.int .i64 (zai toks 4 (mayR toks zba (zay toks 4 ⟨d,0,p⟩))).num)).cell? ⟨w1.heap.size+1,1,none⟩=some (.int .i64 (zai toks 4 (mayR toks zba (zay toks 4 ⟨d,0,p⟩))).num):=zab aA 1;have B:=zq (aK.o.far (p:=⟨w1.heap.size+1,1,none⟩) (by show g≠w1.heap.size+1;have:=az.o;omega) (by show T≠w1.heap.size+1;have:=az.o;omega) (by show W.heap.size+1+1<w1.heap.size+1;have:=az.o;omega) (fun e=>by have:=aE.o _ e;have e2:(⟨w1.heap.size+1,1,none⟩:Addr).block=w1.heap.size+1:=rfl;omega) (.int .i64 (zai toks 4 (mayR toks zba (zay toks 4 ⟨d,0,p⟩))).num));have k5:(Z.setCell ⟨w1.heap.size+1,1,none⟩ (.int .i64 (zai toks 4 (mayR toks zba (zay toks 4 ⟨d,0,p⟩))).num)).cell? ⟨W.heap.size+1+1,4,none⟩=some (.slice A l.length cap):=zab B.o.cnd 4;clear m hF ad aA)
      | (go_at_call 57;refine (aC.o _ kan).mono ?_;rintro e1 w1 ⟨rfl,m,hF⟩;have ab:=zq (HX.o.move hg m kag);have z:=zq (((ab.o.kind hg hT 8 rfl).alloc hg (tokQ (zai toks 4 ⟨d,0,p⟩))).alloc hg (.cells #[.int .i64 (zai toks 4 ⟨d,0,p⟩).num,.int .i64 (zai toks 4 ⟨d,0,p⟩).num] 68));have a7:=zam ab.o.cnd;have f0:=zac ab.o.cnd 0;have k0:w1.cell? ⟨W.heap.size+1+1,0,none⟩=some (.int .i64 kd):=zab ab.o.cnd 0;have aN:=fun o=>zac (zaf ab.o.cnd o) 0;have J:=qab (w1.setCell ⟨W.heap.size+1+1,0,none⟩ (.int .i64 8)) (tokQ (zai toks 4 ⟨d,0,p⟩));rw [(by simp:(w1.setCell ⟨W.heap.size+1+1,0,none⟩ (.int .i64 8)).heap.size=w1.heap.size)] at J;obtain ⟨t0,t1,t2,t3,t4,t5⟩:=zbk J;have I:=qab ((w1.setCell ⟨W.heap.size+1+1,0,none⟩ (.int .i64 8)).alloc (tokQ (zai toks 4 ⟨d,0,p⟩))) (.cells #[.int .i64 (zai toks 4 ⟨d,0,p⟩).num,.int .i64 (zai toks 4 ⟨d,0,p⟩).num] 68);rw [(by simp:((w1.setCell ⟨W.heap.size+1+1,0,none⟩ (.int .i64 8)).alloc (tokQ (zai toks 4 ⟨d,0,p⟩))).heap.size=w1.heap.size+1)] at I;have a1:=zq I;have aE:=zq (fun b (hb:(Value.slice A l.length cap).ownBlock=some b)=>(ab.o.row.blk hb).2.1);have az:=zq a7;clear m hF J I)
      | (go_at_call 88;refine (af.o _ _ zba z.o.st).mono ?_;rintro e5 s ⟨rfl,m,hF⟩;have q:=zq (z.o.move hg m hF);have r:=hF.blk a1.o kbe;have aD:=zq r;have aG:s.cell? ⟨w1.heap.size+1,0,none⟩=some (.int .i64 (zai toks 4 ⟨d,0,p⟩).num):=zab r 0;have aH:s.cell? ⟨w1.heap.size+1,1,none⟩=some (.int .i64 (zai toks 4 ⟨d,0,p⟩).num):=zab r 1;have k5:s.cell? ⟨W.heap.size+1+1,4,none⟩=some (.slice A l.length cap):=zab q.o.cnd 4;have aJ:=zq hF.size;clear m hF r z)
      | ((with_reducible refine zas (b := .append) (xs:=#[.tmp 83,.tmp 85]) rfl ?_);at_builtin;refine zaz (W:=(Z.setCell ⟨w1.heap.size+1,1,none⟩ (.int .i64 (zai toks 4 (mayR toks zba (zay toks 4 ⟨d,0,p⟩))).num))) ?aW W.heap.size rfl (.tmp 83) (.tmp 85) 57 68 (.agg #[.int .i64 0,.int .i64 0]) 2 16 rfl rfl rfl rfl kad (.slice A l.length cap) l.length (l.flatMap (fun p:S68=>[Value.int .i64 p.f0,Value.int .i64 p.f1])) [.int .i64 (zai toks 4 ⟨d,0,p⟩).num,.int .i64 (zai toks 4 (mayR toks zba (zay toks 4 ⟨d,0,p⟩))).num] rfl rfl rfl ?aU B.o.row ?aB ?aM ?aL ?_;(case aW=>first|rfl|simp [qae]);(case aU=>intro u hu;simp at hu;rcases hu with rfl|rfl<;>rfl);(case aB=>have:=zam B.o.cnd;omega);(case aM=>have:=ak.o;simp only [maxLen];omega);(case aL=>have:=ak.o;omega);intro v1 w3 G E Y a8;have L:=(E.block _ (zam B.o.cnd) (fun e=>by have:=B.o.own _ e.symm;omega)).trans B.o.cnd;have g6:=zac L 4;have h6:w3.cell? ⟨W.heap.size+1+1,4,none⟩=some (.slice A l.length cap):=zab L 4;have O:=zq (B.o.snoc (y:=⟨(zai toks 4 ⟨d,0,p⟩).num,(zai toks 4 (mayR toks zba (zay toks 4 ⟨d,0,p⟩))).num⟩) (f:=4) hg hT kbn G E Y rfl);obtain ⟨A9,c9,rfl,-,-⟩:=G.form;clear G E Y a8 L))
     all_goals (go_roundg k;(case measure=>omega);(case rel=>exact ⟨_,l++[⟨(zai toks 4 ⟨d,0,p⟩).num,(zai toks 4 (mayR toks zba (zay toks 4 ⟨d,0,p⟩))).num⟩],_,_,_,8,rfl,rfl,⟨by have h1:=HN.o;have h2:=ak.o;simp only [qal,qay];first|omega|(unfold wrap64;omega)|(have:=qar.1 aF;omega)⟩,a6,⟨fun _=>rfl⟩,U⟩))
    have M:isR toks zba (zay toks 4 ⟨d,0,p⟩)=false:=(by simpa using M);have hh:hiR toks ⟨d,0,p⟩=(zai toks 4 ⟨d,0,p⟩).num:=(if_neg (by rw [M];decide));have hp:zmq toks ⟨d,0,p⟩=(mayR toks zba (zay toks 4 ⟨d,0,p⟩)):=(if_neg (by rw [M];decide));rw [hh,hp] at U;clear hh hp;go_wp2
    go_quiet (fail)
    go_wp2_with (first
     | (go_at_call 88;refine (af.o _ _ zet O.o.st).mono ?_;rintro e4 w4 ⟨rfl,m,hF⟩;have a6:=zq (O.o.move hg m hF);clear m hF)
     | (go_at_call 57;refine (aC.o _ kan).mono ?_;rintro e1 w1 ⟨rfl,m,hF⟩;have ab:=zq (HX.o.move hg m kag);have z:=zq (((ab.o.kind hg hT 8 rfl).alloc hg (tokQ (zai toks 4 ⟨d,0,p⟩))).alloc hg (.cells #[.int .i64 (zai toks 4 ⟨d,0,p⟩).num,.int .i64 (zai toks 4 ⟨d,0,p⟩).num] 68));have a7:=zam ab.o.cnd;have f0:=zac ab.o.cnd 0;have k0:w1.cell? ⟨W.heap.size+1+1,0,none⟩=some (.int .i64 kd):=zab ab.o.cnd 0;have aN:=fun o=>zac (zaf ab.o.cnd o) 0;have J:=qab (w1.setCell ⟨W.heap.size+1+1,0,none⟩ (.int .i64 8)) (tokQ (zai toks 4 ⟨d,0,p⟩));rw [(by simp:(w1.setCell ⟨W.heap.size+1+1,0,none⟩ (.int .i64 8)).heap.size=w1.heap.size)] at J;obtain ⟨t0,t1,t2,t3,t4,t5⟩:=zbk J;have I:=qab ((w1.setCell ⟨W.heap.size+1+1,0,none⟩ (.int .i64 8)).alloc (tokQ (zai toks 4 ⟨d,0,p⟩))) (.cells #[.int .i64 (zai toks 4 ⟨d,0,p⟩).num,.int .i64 (zai toks 4 ⟨d,0,p⟩).num] 68);rw [(by simp:((w1.setCell ⟨W.heap.size+1+1,0,none⟩ (.int .i64 8)).alloc (tokQ (zai toks 4 ⟨d,0,p⟩))).heap.size=w1.heap.size+1)] at I;have a1:=zq I;have aE:=zq (fun b (hb:(Value.slice A l.length cap).ownBlock=some b)=>(ab.o.row.blk hb).2.1);have az:=zq a7;clear m hF J I)
     | (go_at_call 88;refine (af.o _ _ zba z.o.st).mono ?_;rintro e5 s ⟨rfl,m,hF⟩;have q:=zq (z.o.move hg m hF);have r:=hF.blk a1.o kbe;have aD:=zq r;have aG:s.cell? ⟨w1.heap.size+1,0,none⟩=some (.int .i64 (zai toks 4 ⟨d,0,p⟩).num):=zab r 0;have aH:s.cell? ⟨w1.heap.size+1,1,none⟩=some (.int .i64 (zai toks 4 ⟨d,0,p⟩).num):=zab r 1;have k5:s.cell? ⟨W.heap.size+1+1,4,none⟩=some (.slice A l.length cap):=zab q.o.cnd 4;have aJ:=zq hF.size;clear m hF r z)
     | ((with_reducible refine zas (b := .append) (xs:=#[.tmp 83,.tmp 85]) rfl ?_);at_builtin;refine zaz (W:=s) ?aW W.heap.size rfl (.tmp 83) (.tmp 85) 57 68 (.agg #[.int .i64 0,.int .i64 0]) 2 16 rfl rfl rfl rfl kad (.slice A l.length cap) l.length (l.flatMap (fun p:S68=>[Value.int .i64 p.f0,Value.int .i64 p.f1])) [.int .i64 (zai toks 4 ⟨d,0,p⟩).num,.int .i64 (zai toks 4 ⟨d,0,p⟩).num] rfl rfl rfl ?aU q.o.row ?aB ?aM ?aL ?_;(case aW=>first|rfl|simp [qae]);(case aU=>intro u hu;simp at hu;rcases hu with rfl|rfl<;>rfl);(case aB=>have:=zam q.o.cnd;omega);(case aM=>have:=ak.o;simp only [maxLen];omega);(case aL=>have:=ak.o;omega);intro v1 w3 G E Y a8;have L:=(E.block _ (zam q.o.cnd) (fun e=>by have:=q.o.own _ e.symm;omega)).trans q.o.cnd;have g6:=zac L 4;have h6:w3.cell? ⟨W.heap.size+1+1,4,none⟩=some (.slice A l.length cap):=zab L 4;have O:=zq (q.o.snoc (y:=⟨(zai toks 4 ⟨d,0,p⟩).num,(zai toks 4 ⟨d,0,p⟩).num⟩) (f:=4) hg hT kbn G E Y rfl);obtain ⟨A9,c9,rfl,-,-⟩:=G.form;clear G E Y a8 L))
    all_goals (go_roundg k;(case measure=>omega);(case rel=>exact ⟨_,l++[⟨(zai toks 4 ⟨d,0,p⟩).num,(zai toks 4 ⟨d,0,p⟩).num⟩],_,_,_,8,rfl,rfl,⟨by have h1:=HN.o;have h2:=ak.o;simp only [qal,qay];first|omega|(unfold wrap64;omega)|(have:=qar.1 aF;omega)⟩,a6,⟨fun _=>rfl⟩,U⟩))
   ·cases hb
   exact absurd he br
  obtain ⟨s0,s1,s2,s3,z1,z2,z3⟩:=HX.o.st.facts;have hx:b=true->st.e≠0:=fun hb he=>aP ⟨hb,he⟩;have HE:=zq hx;have bv:=zq HX.o;cases b with
  | false=>
   clear hx aP;go_wp2_with (go_at_call 58;refine (bc.o _ _ HX.o.st).mono ?_;rintro e5 s ⟨rfl,m,hF⟩;have q:=zq (HX.o.move hg m hF);obtain ⟨c0,c1,c2,c3,c4,c5,c6,c7⟩:=zeb q.o.cnd;obtain ⟨y0,y1,y2,y3,y4,y5,y6,y7,x0,x1,x2,x3,x4,x5,x6,x7⟩:=zaw q.o.res;clear m hF);obtain ⟨R1,R2,R3,R4⟩:=q.o.over hg hT (.int .i64 kd) (.string ⟨#[]⟩) (.string ⟨#[]⟩) (.slice none 0 0) (.slice A l.length cap) (.slice none 0 0) (.slice none 0 0) (.int .i64 pl);refine qaf (qau rfl _ _ (W.heap.size+1) 60 #[.int .i64 kd,.string ⟨#[]⟩,.string ⟨#[]⟩,.slice none 0 0,.slice A l.length cap,.slice none 0 0,.slice none 0 0,.int .i64 pl] (0,0) _ rfl R1 underlying60 rfl kae) rfl ?_;exact ⟨⟨kd,⟨#[]⟩,⟨#[]⟩,[],l,[],[],pl⟩,_,_,_,rfl,.mk (x:=⟨kd,⟨#[]⟩,⟨#[]⟩,[],l,[],[],pl⟩) (Row.nil _ _ _ _) R4 (Row.nil _ _ _ _) (Row.nil _ _ _ _) .nil,R2,R3,zgm (fun l=>⟨8,⟨#[]⟩,⟨#[]⟩,[],l,[],[],pl⟩) HG.o kbf (fun hl=>by rw [aY.o hl])⟩
  | true=>
   have he:(st.e==0)=false:=qah.2 (hx rfl);clear hx aP;go_wp2_with (go_at_call 58;refine (bc.o _ _ HX.o.st).mono ?_;rintro e5 s ⟨rfl,m,hF⟩;have q:=zq (HX.o.move hg m hF);obtain ⟨c0,c1,c2,c3,c4,c5,c6,c7⟩:=zeb q.o.cnd;obtain ⟨y0,y1,y2,y3,y4,y5,y6,y7,x0,x1,x2,x3,x4,x5,x6,x7⟩:=zaw q.o.res;clear m hF);obtain ⟨R1,R2,R3,R4⟩:=q.o.over hg hT (.int .i64 kd) (.string ⟨#[]⟩) (.string ⟨#[]⟩) (.slice none 0 0) (.slice A l.length cap) (.slice none 0 0) (.slice none 0 0) (.int .i64 pl);refine qaf (qau rfl _ _ (W.heap.size+1) 60 #[.int .i64 kd,.string ⟨#[]⟩,.string ⟨#[]⟩,.slice none 0 0,.slice A l.length cap,.slice none 0 0,.slice none 0 0,.int .i64 pl] (0,0) _ rfl R1 underlying60 rfl kae) rfl ?_;exact ⟨⟨kd,⟨#[]⟩,⟨#[]⟩,[],l,[],[],pl⟩,_,_,_,rfl,.mk (x:=⟨kd,⟨#[]⟩,⟨#[]⟩,[],l,[],[],pl⟩) (Row.nil _ _ _ _) R4 (Row.nil _ _ _ _) (Row.nil _ _ _ _) .nil,R2,R3,zgm (fun l=>⟨8,⟨#[]⟩,⟨#[]⟩,[],l,[],[],pl⟩) HG.o kbf (fun hl=>by rw [aY.o hl])⟩
end
end
section
section
variable (g T c:Nat) (toks:List Tok) (aa:∀ k,k<toks.length->(tk toks k).kind≠8->k+1<toks.length)
include aa
theorem firstR_all (W:World) (k i:Nat) (p:Int) (r:PR CD) (h:RSt W g T c toks ⟨i,0,p⟩)
  (hr:(if (tk toks i).kind=2 then some (.ok (⟨3,(tk toks i).text,⟨#[]⟩,[],[],[],[],(tk toks i).place⟩,1) (i+1)) else if (tk toks i).kind=1/\isOp (tk toks i)=true then zor toks (tk toks i) k (i+1) else some (.bad 90 (tk toks i).place))=some r) :
  Calls prog 149 #[.pointer (some ⟨g,0,none⟩)] W (zey W g T c toks fun x st=>OkQ r p x 1 st):=by
 obtain ⟨kd,b,nm,pa,pb,pl,ht⟩:∃ kd b nm pa pb pl,tk toks i=⟨kd,b,nm,pa,pb,pl⟩:=⟨_,_,_,_,_,_,rfl⟩;rw [ht] at hr;dsimp only at hr;by_cases y:kd=2
 ·rw [if_pos y] at hr;subst y;obtain rfl:=qaa hr;exact firstR_name g T c toks aa W i p b nm pa pb pl ht h
 rw [if_neg y] at hr;by_cases h1:kd=1
 ·subst h1;by_cases z:isOp ⟨1,b,nm,pa,pb,pl⟩=true
  ·rw [if_pos ⟨rfl,z⟩] at hr;unfold zor at hr;dsimp only at hr;by_cases j:b.toList=zjt.toList
   ·rw [if_pos j] at hr;obtain rfl:=zck j;obtain rfl:=qaa hr;exact firstR_true g T c toks aa W i p nm pa pb pl ht h
   rw [if_neg j] at hr;by_cases m:b.toList=zge.toList
   ·rw [if_pos m] at hr;obtain rfl:=zck m;obtain rfl:=qaa hr;exact firstR_false g T c toks aa W i p nm pa pb pl ht h
   rw [if_neg m] at hr;by_cases n:b.toList=zfh.toList
   ·rw [if_pos n] at hr;obtain rfl:=zck n;obtain ⟨s,hs,rfl⟩:=qbu.1 hr;exact firstR_addr g T c toks aa W i p _ nm pa pb pl ht h fun W' e=>listR_addr g T c toks aa W' k (i+1) p nm pa pb pl s e hs
   rw [if_neg n] at hr;by_cases o:b.toList=zfd.toList
   ·rw [if_pos o] at hr;obtain rfl:=zck o;obtain ⟨s,hs,rfl⟩:=qbu.1 hr;exact firstR_port g T c toks aa W i p _ nm pa pb pl ht h fun W' e=>listR_port g T c toks aa W' k (i+1) p nm pa pb pl s e hs
   rw [if_neg o] at hr;by_cases q:b.toList=zcm.toList
   ·rw [if_pos q] at hr;obtain rfl:=zck q;obtain ⟨s,hs,rfl⟩:=qbu.1 hr;exact firstR_method g T c toks aa W i p _ nm pa pb pl ht h fun W' e=>listR_method g T c toks aa W' k (i+1) p nm pa pb pl s e hs
   rw [if_neg q] at hr;by_cases u:b.toList=zid.toList
   ·rw [if_pos u] at hr;obtain rfl:=zck u;obtain rfl:=qaa hr;exact firstR_path g T c toks aa W i p nm pa pb pl ht h
   rw [if_neg u] at hr;by_cases w:b.toList=zei.toList
   ·rw [if_pos w] at hr;obtain rfl:=zck w;obtain rfl:=qaa hr;exact firstR_header g T c toks aa W i p nm pa pb pl ht h
   rw [if_neg w] at hr;by_cases A:b.toList=sHas.toList
   ·rw [if_pos A] at hr;obtain rfl:=zck A;obtain rfl:=qaa hr;exact firstR_has g T c toks aa W i p nm pa pb pl ht h
   exfalso;simp [isOp,j,m,n,o,q,u,w,A] at z
  rw [if_neg fun hh=>z hh.2] at hr;obtain rfl:=qaa hr;have d:∀ (s:ByteArray) (l:List UInt8),s.toList=l->(s∈[zjt,zge,zfh,zfd,zcm,zid,zei,sHas])->(b.toList==l)=false:=fun s l D E=>by
   subst D;cases B:b.toList==s.toList with
   | false=>rfl
   | true=>exact absurd (List.any_eq_true.2 ⟨s,E,B⟩) z
  exact firstR_other g T c toks aa W i p b nm pa pb pl ht (d zjt _ kae (by simp)) (d zge _ kae (by simp)) (d zid _ kae (by simp)) (d zei _ kae (by simp)) (d sHas _ kae (by simp)) (d zfh _ kae (by simp)) (d zfd _ kae (by simp)) (d zcm _ kae (by simp)) h
 rw [if_neg fun hh=>h1 hh.1] at hr;obtain rfl:=qaa hr;exact firstR_kind g T c toks W i p kd b nm pa pb pl ht h1 y h
theorem condR:∀ k:Nat,
  (∀ W i p r,zce toks k 0 i=some r->RSt W g T c toks ⟨i,0,p⟩->Calls prog 59 #[.pointer (some ⟨g,0,none⟩),.string sOr] W (zen W g T c toks (OkQ r p))) /\
  (∀ W i p r,zce toks k 1 i=some r->RSt W g T c toks ⟨i,0,p⟩->Calls prog 59 #[.pointer (some ⟨g,0,none⟩),.string sAnd] W (zen W g T c toks (OkQ r p))) /\
  (∀ W i p r,zce toks k 2 i=some r->RSt W g T c toks ⟨i,0,p⟩->Calls prog 120 #[.pointer (some ⟨g,0,none⟩)] W (zen W g T c toks (OkQ r p))) /\
  (∀ W i p r,isT (tk toks i) sNot=false->zce toks k 3 i=some r->RSt W g T c toks ⟨i,0,p⟩->Calls prog 120 #[.pointer (some ⟨g,0,none⟩)] W (zen W g T c toks (OkQ r p))):=by
 intro k;induction k with
 | zero=>exact ⟨(fun W i p r h=>by cases h),(fun W i p r h=>by cases h),(fun W i p r h=>by cases h),(fun W i p r _ h=>by cases h)⟩
 | succ k u=>
  obtain ⟨i0,i1,i2,i3⟩:=u;have pos:∀ {o i:Nat} {kd:Int} {w:ByteArray} {r:PR CD},rowP toks (zce toks k o) kd w k i=some r->0<k:=fun {o i kd w r} h=>by
   cases k with
   | zero=>unfold rowP at h;cases h
   | succ k=>omega
  refine ⟨fun W i p r hr h=>?_,fun W i p r hr h=>?_,fun W i p r hr h=>?_,fun W i p r hn hr h=>?_⟩
  ·rw [zce] at hr;exact rowR_or g T c toks aa (zce toks k 1) W k i p r (pos hr) h.here h hr (fun j s W' _ hs b=>zpk g T c toks W' _ _ b fun l m=>i1 l j p s hs m) fun st W' n b=>zrq g T c toks aa W' st n b
  ·rw [zce] at hr;exact rowR_and g T c toks aa (zce toks k 2) W k i p r (pos hr) h.here h hr (fun j s W' _ hs b=>zpl g T c toks W' _ _ b fun l m=>i2 l j p s hs m) fun st W' n b=>zpm g T c toks aa W' st n b
  ·rw [zce] at hr;by_cases hn:isT (tk toks i) sNot=true
   ·rw [if_pos hn] at hr;cases hs:zce toks k 2 (i+1) with
    | none=>rw [hs] at hr;cases hr
    | some s=>
     rw [hs] at hr;have e:r=notP s (tk toks i).place:=by
      cases s with
      | bad e q=>exact (qaa hr).symm
      | ok y j=>exact (qaa hr).symm
     subst e;exact notR_not g T c toks aa W i p s hn h fun W' b=>i2 W' (i+1) p s hs b
   rw [if_neg hn] at hr;exact i3 W i p r (by simpa using hn) hr h
  rw [zce] at hr;by_cases d:isT (tk toks i) zgb=true
  ·rw [if_pos d] at hr;cases hs:zce toks k 0 (i+1) with
   | none=>rw [hs] at hr;cases hr
   | some s=>
    rw [hs] at hr;have e:r=brP toks s:=by
     cases s with
     | bad e q=>exact (qaa hr).symm
     | ok y j=>exact (qaa hr).symm
    subst e;exact notR_brackets g T c toks aa W i p s hn d h fun W' b=>i0 W' (i+1) p s hs b
  rw [if_neg d] at hr;exact notR_first g T c toks aa W ⟨i,0,p⟩ _ (by rw [zdy];exact hn) (by rw [zdy];simpa using d) h fun W' b=>firstR_all g T c toks aa W' k i p r b hr
end
end
section
structure ItR (W:World) (g T c:Nat) (toks:List Tok) (st:RS) (cells:Array Value) (W':World):Prop where
 st:RSt W' g T c toks st
 fr:Fr W W' (·=g)
 res:W'.heap[W.heap.size]?=some (.cells zfz 62 (0,0))
 itm:W'.heap[W.heap.size+1]?=some (.cells cells 62 (0,0))
section
variable {W W1 W2:World} {g T c:Nat} {toks:List Tok} {st ay:RS} {cells:Array Value}
theorem ItR.move (h:ItR W g T c toks st cells W1) (hg:g<W.heap.size) (b:RSt W2 g T c toks ay) (hF:Fr W1 W2 (·=g)):ItR W g T c toks ay cells W2:=
 ⟨b,h.fr.trans hF,hF.blk h.res kah,hF.blk h.itm (by show ¬W.heap.size+1=g;omega)⟩
theorem ItR.put (h:ItR W g T c toks st cells W1) (hg:g<W.heap.size) (d:T<W.heap.size) (k:Nat) (v:Value) {cells':Array Value} (b:cells.setIfInBounds k v=cells'):ItR W g T c toks st cells' (W1.setCell ⟨W.heap.size+1,k,none⟩ v):=by
 have hF:Fr W1 (W1.setCell ⟨W.heap.size+1,k,none⟩ v) (·=W.heap.size+1):=Fr.setCell (S:=(·=W.heap.size+1)) (Fr.refl _ _) (.inl rfl) _;subst b;exact ⟨h.st.fr hF kab kab,h.fr.then_ hF (fun k hk => .inr kab),hF.blk h.res kab,zan h.itm k v rfl⟩
theorem ItR.put8 {k:Int} {n:ByteArray} {a:Int} (h:ItR W g T c toks st (zcj k n a) W1) (hg:g<W.heap.size) (b:T<W.heap.size) (v0 v1 v2 v3 v4 v5 d e:Value) :
  ItR W g T c toks st #[.int .i64 k,.string n,v0,v1,v2,v3,v4,v5,d,e,.int .i64 a] ((((((((W1.setCell ⟨W.heap.size+1,2,none⟩ v0).setCell ⟨W.heap.size+1,3,none⟩ v1).setCell ⟨W.heap.size+1,4,none⟩ v2).setCell ⟨W.heap.size+1,5,none⟩ v3).setCell ⟨W.heap.size+1,6,none⟩ v4).setCell ⟨W.heap.size+1,7,none⟩ v5).setCell ⟨W.heap.size+1,8,none⟩ d).setCell ⟨W.heap.size+1,9,none⟩ e):=by
 have j:ItR W g T c toks st #[.int .i64 k,.string n,v0,.string ⟨#[]⟩,.string ⟨#[]⟩,.slice none 0 0,.slice none 0 0,.slice none 0 0,.slice none 0 0,.int .i64 0,.int .i64 a] _:=h.put hg b 2 v0 rfl;have l:ItR W g T c toks st #[.int .i64 k,.string n,v0,v1,.string ⟨#[]⟩,.slice none 0 0,.slice none 0 0,.slice none 0 0,.slice none 0 0,.int .i64 0,.int .i64 a] _:=j.put hg b 3 v1 rfl;have m:ItR W g T c toks st #[.int .i64 k,.string n,v0,v1,v2,.slice none 0 0,.slice none 0 0,.slice none 0 0,.slice none 0 0,.int .i64 0,.int .i64 a] _:=l.put hg b 4 v2 rfl;have o:ItR W g T c toks st #[.int .i64 k,.string n,v0,v1,v2,v3,.slice none 0 0,.slice none 0 0,.slice none 0 0,.int .i64 0,.int .i64 a] _:=m.put hg b 5 v3 rfl;have p:ItR W g T c toks st #[.int .i64 k,.string n,v0,v1,v2,v3,v4,.slice none 0 0,.slice none 0 0,.int .i64 0,.int .i64 a] _:=o.put hg b 6 v4 rfl;have q:ItR W g T c toks st #[.int .i64 k,.string n,v0,v1,v2,v3,v4,v5,.slice none 0 0,.int .i64 0,.int .i64 a] _:=p.put hg b 7 v5 rfl;have r:ItR W g T c toks st #[.int .i64 k,.string n,v0,v1,v2,v3,v4,v5,d,.int .i64 0,.int .i64 a] _:=q.put hg b 8 d rfl;exact r.put hg b 9 e rfl
theorem zoc (W:World) (m:Nat) (v0 v1 v2 v3 v4 v5 b d:Value):Fr W ((((((((W.setCell ⟨m,2,none⟩ v0).setCell ⟨m,3,none⟩ v1).setCell ⟨m,4,none⟩ v2).setCell ⟨m,5,none⟩ v3).setCell ⟨m,6,none⟩ v4).setCell ⟨m,7,none⟩ v5).setCell ⟨m,8,none⟩ b).setCell ⟨m,9,none⟩ d) (·=m):=by
 have e:=(Fr.refl W (·=m)).setCell (p:=⟨m,2,none⟩) (.inl rfl) v0;have j:=e.setCell (p:=⟨m,3,none⟩) (.inl rfl) v1;have l:=j.setCell (p:=⟨m,4,none⟩) (.inl rfl) v2;have n:=l.setCell (p:=⟨m,5,none⟩) (.inl rfl) v3;have o:=n.setCell (p:=⟨m,6,none⟩) (.inl rfl) v4;have q:=o.setCell (p:=⟨m,7,none⟩) (.inl rfl) v5;have r:=q.setCell (p:=⟨m,8,none⟩) (.inl rfl) b;exact r.setCell (p:=⟨m,9,none⟩) (.inl rfl) d
theorem ItR.over (h:ItR W g T c toks st cells W1) (hg:g<W.heap.size) (l:T<W.heap.size) (v0 v1 v2 v3 v4 v5 d e j v9 b:Value) :
  let W2:=zqn W1 W.heap.size v0 v1 v2 v3 v4 v5 d e j v9 b
  W2.heap[W.heap.size]?=some (.cells #[v0,v1,v2,v3,v4,v5,d,e,j,v9,b] 62 (0,0))/\RSt W2 g T c toks st/\Fr W W2 (·=g):=by
 intro W2;have hF:=zfc W1 W.heap.size v0 v1 v2 v3 v4 v5 d e j v9 b;exact ⟨zil h.res _ _ _ _ _ _ _ _ _ _ _,h.st.fr hF kab kab,h.fr.then_ hF fun k hk => .inr kab⟩
end
def zud (W:World) (g T c:Nat) (toks:List Tok) (kd a:Int) (b:RS) (w:ByteArray) (j:RS->S60->Int->RS->Prop) (e:Ending) (W':World):Prop:=
 ∃ x d ts L st,e = .returned (.agg (([Value.int .i64 kd,Value.string (zai toks 2 b).text]:List Value)++ts++[Value.int .i64 a]).toArray)/\Tree W' W.heap.size x ts L/\RSt W' g T c toks (zdn toks zjc st)/\Fr W W' (·=g)/\j (zdn toks w (zay toks 2 b)) x d st
section
variable (g T c:Nat) (toks:List Tok) (aa:∀ k,k<toks.length->(tk toks k).kind≠8->k+1<toks.length)
include aa
theorem itemR_let (W:World) (s:RS) (QR:RS->S60->Int->RS->Prop) (af:isR toks sLet s=true) (h:RSt W g T c toks s)
  (aD:∀ W' st,RSt W' g T c toks st->Calls prog 59 #[.pointer (some ⟨g,0,none⟩),.string sOr] W' (zen W' g T c toks (QR st))) :
  Calls prog 34 #[.pointer (some ⟨g,0,none⟩)] W (zud W g T c toks 1 (tk toks s.i).place ⟨s.i+1,0,s.p⟩ sEq QR):=by
 have hg:=h.lts.1;have D:=h.lts.2.1;have hj:=aa s.i h.here (zqw af).1;have aC:s.e=0:=(zqw af).2;have M:=zq (fun W' (l:RSt W' g T c toks s)=>(show Calls prog 32 #[.pointer (some ⟨g,0,none⟩),.string sLet] W' fun e r=>e = .returned (.bool (isR toks sLet s))/\Below W'.heap.size W' r from zbt W' g T c toks s sLet l));rw [af] at M;have a1:=zq (fun W' (l:RSt W' g T c toks s)=>(show Calls prog 32 #[.pointer (some ⟨g,0,none⟩),.string zdf] W' fun e r=>e = .returned (.bool (isR toks zdf s))/\Below W'.heap.size W' r from zbt W' g T c toks s zdf l));have a6:=zq (fun W' (l:RSt W' g T c toks s)=>(show Calls prog 32 #[.pointer (some ⟨g,0,none⟩),.string zeu] W' fun e r=>e = .returned (.bool (isR toks zeu s))/\Below W'.heap.size W' r from zbt W' g T c toks s zeu l));have HK:=zq (fun W' (l:RSt W' g T c toks ⟨s.i+1,0,s.p⟩)=>(show Calls prog 57 #[.pointer (some ⟨g,0,none⟩),.int .i64 2] W' fun e' r=>e' = .returned (.agg #[.int .i64 (zai toks 2 ⟨s.i+1,0,s.p⟩).kind,.string (zai toks 2 ⟨s.i+1,0,s.p⟩).text,.int .i64 (zai toks 2 ⟨s.i+1,0,s.p⟩).num,.int .i64 (zai toks 2 ⟨s.i+1,0,s.p⟩).pa,.int .i64 (zai toks 2 ⟨s.i+1,0,s.p⟩).pb,.int .i64 (zai toks 2 ⟨s.i+1,0,s.p⟩).place])/\RSt r g T c toks (zay toks 2 ⟨s.i+1,0,s.p⟩)/\Fr W' r (·=g) from zdr W' g T c toks aa ⟨s.i+1,0,s.p⟩ 2 kad l));have a7:=zq (fun W' (l:RSt W' g T c toks (zay toks 2 ⟨s.i+1,0,s.p⟩))=>zbr g T c toks aa W' _ sEq l);have aH:=zq (fun W' st (l:RSt W' g T c toks st)=>zbr g T c toks aa W' st zjc l);have aF:=zq aD;have I:=fun o=>(h.alloc o).look;have u0:=fun o=>(I o).1;have u1:=fun o=>(I o).2.1;have v5:=fun o=>(I o).2.2.2.2.2.2.2.2;have aP:=h.here;have aQ:=h.many;have hn:=qab (W.alloc (.cells zfz 62)) (.cells (zcj 0 ⟨#[]⟩ (tk toks s.i).place) 62);rw [qae] at hn;have ae:=zq (ItR.mk ((h.alloc (.cells zfz 62)).alloc (.cells (zcj 0 ⟨#[]⟩ (tk toks s.i).place) 62)) (((Fr.refl W (·=g)).alloc _).alloc _) (zaf (qab W (.cells zfz 62)) _) hn);have HD:=zq (fun {st:RS} {cs:Array Value} {w:World} (h:ItR W g T c toks st cs w)=>(⟨h.st.drew,h.fr.drew,h.res,h.itm⟩:ItR W g T c toks st cs w.drew));have aO:=@zgy;clear h aD aa I hn;go_enter func34,ntmps34;go_wp2;go_region;all_goals go_wp2_with (first
  | (go_at_call 32;refine (M.o _ (kay:ItR W g T c toks s _ _).st).mono ?_;rintro e1 w1 ⟨rfl,q⟩;have O:=zq ((kay:ItR W g T c toks s (zcj 0 ⟨#[]⟩ (tk toks s.i).place) _).move hg ((kay:ItR W g T c toks s (zcj 0 ⟨#[]⟩ (tk toks s.i).place) _).st.below q) (Fr.of_below q));clear q M)
  | (go_at_call 32;refine (a1.o _ (O.o:ItR W g T c toks s _ _).st).mono ?_;rintro e2 w2 ⟨rfl,q⟩;have U:=zq ((O.o:ItR W g T c toks s (zcj 0 ⟨#[]⟩ (tk toks s.i).place) _).move hg ((O.o:ItR W g T c toks s (zcj 0 ⟨#[]⟩ (tk toks s.i).place) _).st.below q) (Fr.of_below q));clear q a1)
  | (go_at_call 32;refine (a6.o _ (U.o:ItR W g T c toks s _ _).st).mono ?_;rintro e3 w3 ⟨rfl,q⟩;have A:=zq ((U.o:ItR W g T c toks s (zcj 0 ⟨#[]⟩ (tk toks s.i).place) _).move hg ((U.o:ItR W g T c toks s (zcj 0 ⟨#[]⟩ (tk toks s.i).place) _).st.below q) (Fr.of_below q));clear q a6;obtain ⟨s0,s1,s2,s3,z1,z2,z3⟩:=A.o.st.facts;have k0:=zab A.o.itm 0;have f0:=zac A.o.itm 0;rw [aC] at s2)
  | (go_at_call 57;have a8:=zq ((A.o.put (cells':=zcj 1 ⟨#[]⟩ (tk toks s.i).place) hg D 0 (.int .i64 1) rfl).move hg ((A.o.put (cells':=zcj 1 ⟨#[]⟩ (tk toks s.i).place) hg D 0 (.int .i64 1) rfl).st.setI hj (z:=(s.i:Int)+1) kab) (Fr.setCell (S:=(·=g)) (Fr.refl _ _) (p:=⟨g,1,none⟩) (.inl rfl) _));refine (HK.o _ (by have:=a8.o.st;rw [aC] at this;exact this)).mono ?_;rintro e5 w5 ⟨rfl,m,hF⟩;have Y:=zq (a8.o.move hg m hF);have k1:=zab Y.o.itm 1;have f1:=zac Y.o.itm 1;clear m hF)
  | (go_at_call 58;have aA:=zq (Y.o.put (cells':=zcj 1 (zai toks 2 ⟨s.i+1,0,s.p⟩).text (tk toks s.i).place) hg D 1 (.string (zai toks 2 ⟨s.i+1,0,s.p⟩).text) rfl);refine (a7.o _ aA.o.st).mono ?_;rintro e7 w7 ⟨rfl,m,hF⟩;have Z:=zq (aA.o.move hg m hF);clear m hF a7)
  | (go_at_call 59;refine (aF.o _ _ Z.o.st).mono ?_;rintro e8 w8 ⟨y,d,cs,L,st,rfl,ad,m,hF,hQ⟩;obtain ⟨v3,v4,aU,v6,rfl,-,-,-,-,u,n3,c3,x,n4,c4,A5,G,c5,A6,n6,c6,rfl,rfl,rfl,rfl⟩:=zax ad;have b:=zq (Z.o.move hg m hF);have aG:=zq ad;have HQ:=zq hQ;have au:=zq (And.intro (zam Z.o.itm) hF.size);have l0:=fun j=>zab b.o.itm j;have m2:=zac b.o.itm 2;have m3:=zac b.o.itm 3;have m4:=zac b.o.itm 4;have m5:=zac b.o.itm 5;have m6:=zac b.o.itm 6;have m7:=zac b.o.itm 7;have m8:=zac b.o.itm 8;have m9:=zac b.o.itm 9;obtain ⟨⟨q0,q1,q2,q3,q4,q5,q6,q7,q8,q9,aL⟩,-⟩:=zbd b.o.itm;clear ad m hF hQ l0)
  | (go_at_call 58;have aB:=zq (b.o.put8 (k:=1) (n:=(zai toks 2 ⟨s.i+1,0,s.p⟩).text) (a:=(tk toks s.i).place) hg D (.int .i64 y.f0) (.string y.f1) (.string y.f2) (.slice u n3 c3) (.slice x n4 c4) (.slice A5 G c5) (.slice A6 n6 c6) (.int .i64 y.f7));refine (aH.o _ _ aB.o.st).mono ?_;rintro aN aM ⟨rfl,m,hF⟩;have X:=zq (aB.o.move hg m hF);have aE:=zq hF;obtain ⟨⟨q0,q1,q2,q3,q4,q5,q6,q7,q8,q9,aL⟩,-⟩:=zbd X.o.itm;obtain ⟨⟨o0,o1,o2,o3,o4,o5,o6,o7,o8,o9,aS⟩,⟨p0,p1,p2,p3,p4,p5,p6,p7,p8,p9,aT⟩⟩:=zbd X.o.res;clear m hF))
 all_goals
  obtain ⟨R1,R2,R3⟩:=X.o.over hg D (.int .i64 1) (.string (zai toks 2 ⟨s.i+1,0,s.p⟩).text) (.int .i64 y.f0) (.string y.f1) (.string y.f2) (.slice u n3 c3) (.slice x n4 c4) (.slice A5 G c5) (.slice A6 n6 c6) (.int .i64 y.f7) (.int .i64 (tk toks s.i).place);refine qaf (qau rfl _ _ W.heap.size 62 #[.int .i64 1,.string (zai toks 2 ⟨s.i+1,0,s.p⟩).text,.int .i64 y.f0,.string y.f1,.string y.f2,.slice u n3 c3,.slice x n4 c4,.slice A5 G c5,.slice A6 n6 c6,.int .i64 y.f7,.int .i64 (tk toks s.i).place] (0,0) _ rfl R1 underlying62 rfl kae) rfl ?_;have aR:=au.o;have J:=aG.o;have aK:=J.fr (zoc w8 (W.heap.size+1) (.int .i64 y.f0) (.string y.f1) (.string y.f2) (.slice u n3 c3) (.slice x n4 c4) (.slice A5 G c5) (.slice A6 n6 c6) (.int .i64 y.f7)) (fun B E e=>by have:=(J.lt B E).1;omega);have aI:=aK.fr aE.o (fun B E e=>by have:=(J.lt B E).1;omega);have aJ:=aI.fr (zfc aM W.heap.size (.int .i64 1) (.string (zai toks 2 ⟨s.i+1,0,s.p⟩).text) (.int .i64 y.f0) (.string y.f1) (.string y.f2) (.slice u n3 c3) (.slice x n4 c4) (.slice A5 G c5) (.slice A6 n6 c6) (.int .i64 y.f7) (.int .i64 (tk toks s.i).place)) (fun B E e=>by have:=(J.lt B E).1;omega);exact ⟨y,d,_,L,st,rfl,aJ.lower kab,R2,R3,HQ.o⟩
theorem itemR_allow (W:World) (s:RS) (QR:RS->S60->Int->RS->Prop) (aL:isR toks sLet s=false) (a1:isR toks zdf s=true) (h:RSt W g T c toks s)
  (aD:∀ W' st,RSt W' g T c toks st->Calls prog 59 #[.pointer (some ⟨g,0,none⟩),.string sOr] W' (zen W' g T c toks (QR st))) :
  Calls prog 34 #[.pointer (some ⟨g,0,none⟩)] W (zud W g T c toks 2 (tk toks s.i).place ⟨s.i+1,0,s.p⟩ zim QR):=by
 have hg:=h.lts.1;have D:=h.lts.2.1;have hj:=aa s.i h.here (zqw a1).1;have aC:s.e=0:=(zqw a1).2;have M:=zq (fun W' (l:RSt W' g T c toks s)=>(show Calls prog 32 #[.pointer (some ⟨g,0,none⟩),.string sLet] W' fun e r=>e = .returned (.bool (isR toks sLet s))/\Below W'.heap.size W' r from zbt W' g T c toks s sLet l));rw [aL] at M;have U:=zq (fun W' (l:RSt W' g T c toks s)=>(show Calls prog 32 #[.pointer (some ⟨g,0,none⟩),.string zdf] W' fun e r=>e = .returned (.bool (isR toks zdf s))/\Below W'.heap.size W' r from zbt W' g T c toks s zdf l));rw [a1] at U;have a6:=zq (fun W' (l:RSt W' g T c toks s)=>(show Calls prog 32 #[.pointer (some ⟨g,0,none⟩),.string zeu] W' fun e r=>e = .returned (.bool (isR toks zeu s))/\Below W'.heap.size W' r from zbt W' g T c toks s zeu l));have HK:=zq (fun W' (l:RSt W' g T c toks ⟨s.i+1,0,s.p⟩)=>(show Calls prog 57 #[.pointer (some ⟨g,0,none⟩),.int .i64 2] W' fun e' r=>e' = .returned (.agg #[.int .i64 (zai toks 2 ⟨s.i+1,0,s.p⟩).kind,.string (zai toks 2 ⟨s.i+1,0,s.p⟩).text,.int .i64 (zai toks 2 ⟨s.i+1,0,s.p⟩).num,.int .i64 (zai toks 2 ⟨s.i+1,0,s.p⟩).pa,.int .i64 (zai toks 2 ⟨s.i+1,0,s.p⟩).pb,.int .i64 (zai toks 2 ⟨s.i+1,0,s.p⟩).place])/\RSt r g T c toks (zay toks 2 ⟨s.i+1,0,s.p⟩)/\Fr W' r (·=g) from zdr W' g T c toks aa ⟨s.i+1,0,s.p⟩ 2 kad l));have a7:=zq (fun W' (l:RSt W' g T c toks (zay toks 2 ⟨s.i+1,0,s.p⟩))=>zbr g T c toks aa W' _ zim l);have aH:=zq (fun W' st (l:RSt W' g T c toks st)=>zbr g T c toks aa W' st zjc l);have aF:=zq aD;have I:=fun o=>(h.alloc o).look;have u0:=fun o=>(I o).1;have u1:=fun o=>(I o).2.1;have v5:=fun o=>(I o).2.2.2.2.2.2.2.2;have aQ:=h.here;have aR:=h.many;have hn:=qab (W.alloc (.cells zfz 62)) (.cells (zcj 0 ⟨#[]⟩ (tk toks s.i).place) 62);rw [qae] at hn;have ae:=zq (ItR.mk ((h.alloc (.cells zfz 62)).alloc (.cells (zcj 0 ⟨#[]⟩ (tk toks s.i).place) 62)) (((Fr.refl W (·=g)).alloc _).alloc _) (zaf (qab W (.cells zfz 62)) _) hn);have HD:=zq (fun {st:RS} {cs:Array Value} {w:World} (h:ItR W g T c toks st cs w)=>(⟨h.st.drew,h.fr.drew,h.res,h.itm⟩:ItR W g T c toks st cs w.drew));have aP:=@zgy;clear h aD aa I hn;go_enter func34,ntmps34;go_wp2;go_region;all_goals go_wp2_with (first
  | (go_at_call 32;refine (M.o _ (kay:ItR W g T c toks s _ _).st).mono ?_;rintro e1 w1 ⟨rfl,q⟩;have O:=zq ((kay:ItR W g T c toks s (zcj 0 ⟨#[]⟩ (tk toks s.i).place) _).move hg ((kay:ItR W g T c toks s (zcj 0 ⟨#[]⟩ (tk toks s.i).place) _).st.below q) (Fr.of_below q));clear q M)
  | (go_at_call 32;refine (U.o _ (O.o:ItR W g T c toks s _ _).st).mono ?_;rintro e2 w2 ⟨rfl,q⟩;have X:=zq ((O.o:ItR W g T c toks s (zcj 0 ⟨#[]⟩ (tk toks s.i).place) _).move hg ((O.o:ItR W g T c toks s (zcj 0 ⟨#[]⟩ (tk toks s.i).place) _).st.below q) (Fr.of_below q));clear q U)
  | (go_at_call 32;refine (a6.o _ (X.o:ItR W g T c toks s _ _).st).mono ?_;rintro e3 w3 ⟨rfl,q⟩;have A:=zq ((X.o:ItR W g T c toks s (zcj 0 ⟨#[]⟩ (tk toks s.i).place) _).move hg ((X.o:ItR W g T c toks s (zcj 0 ⟨#[]⟩ (tk toks s.i).place) _).st.below q) (Fr.of_below q));clear q a6;obtain ⟨s0,s1,s2,s3,z1,z2,z3⟩:=A.o.st.facts;have k0:=zab A.o.itm 0;have f0:=zac A.o.itm 0;rw [aC] at s2)
  | (go_at_call 57;have a8:=zq ((A.o.put (cells':=zcj 2 ⟨#[]⟩ (tk toks s.i).place) hg D 0 (.int .i64 2) rfl).move hg ((A.o.put (cells':=zcj 2 ⟨#[]⟩ (tk toks s.i).place) hg D 0 (.int .i64 2) rfl).st.setI hj (z:=(s.i:Int)+1) kab) (Fr.setCell (S:=(·=g)) (Fr.refl _ _) (p:=⟨g,1,none⟩) (.inl rfl) _));refine (HK.o _ (by have:=a8.o.st;rw [aC] at this;exact this)).mono ?_;rintro e5 w5 ⟨rfl,m,hF⟩;have Z:=zq (a8.o.move hg m hF);have k1:=zab Z.o.itm 1;have f1:=zac Z.o.itm 1;clear m hF)
  | (go_at_call 58;have aA:=zq (Z.o.put (cells':=zcj 2 (zai toks 2 ⟨s.i+1,0,s.p⟩).text (tk toks s.i).place) hg D 1 (.string (zai toks 2 ⟨s.i+1,0,s.p⟩).text) rfl);refine (a7.o _ aA.o.st).mono ?_;rintro e7 w7 ⟨rfl,m,hF⟩;have ad:=zq (aA.o.move hg m hF);clear m hF a7)
  | (go_at_call 59;refine (aF.o _ _ ad.o.st).mono ?_;rintro e8 w8 ⟨y,d,cs,L,st,rfl,af,m,hF,hQ⟩;obtain ⟨v3,v4,aV,v6,rfl,-,-,-,-,u,n3,c3,x,n4,c4,A5,G,c5,A6,n6,c6,rfl,rfl,rfl,rfl⟩:=zax af;have b:=zq (ad.o.move hg m hF);have aG:=zq af;have HQ:=zq hQ;have au:=zq (And.intro (zam ad.o.itm) hF.size);have l0:=fun j=>zab b.o.itm j;have m2:=zac b.o.itm 2;have m3:=zac b.o.itm 3;have m4:=zac b.o.itm 4;have m5:=zac b.o.itm 5;have m6:=zac b.o.itm 6;have m7:=zac b.o.itm 7;have m8:=zac b.o.itm 8;have m9:=zac b.o.itm 9;obtain ⟨⟨q0,q1,q2,q3,q4,q5,q6,q7,q8,q9,aM⟩,-⟩:=zbd b.o.itm;clear af m hF hQ l0)
  | (go_at_call 58;have aB:=zq (b.o.put8 (k:=2) (n:=(zai toks 2 ⟨s.i+1,0,s.p⟩).text) (a:=(tk toks s.i).place) hg D (.int .i64 y.f0) (.string y.f1) (.string y.f2) (.slice u n3 c3) (.slice x n4 c4) (.slice A5 G c5) (.slice A6 n6 c6) (.int .i64 y.f7));refine (aH.o _ _ aB.o.st).mono ?_;rintro aO aN ⟨rfl,m,hF⟩;have Y:=zq (aB.o.move hg m hF);have aE:=zq hF;obtain ⟨⟨q0,q1,q2,q3,q4,q5,q6,q7,q8,q9,aM⟩,-⟩:=zbd Y.o.itm;obtain ⟨⟨o0,o1,o2,o3,o4,o5,o6,o7,o8,o9,aT⟩,⟨p0,p1,p2,p3,p4,p5,p6,p7,p8,p9,aU⟩⟩:=zbd Y.o.res;clear m hF))
 all_goals
  obtain ⟨R1,R2,R3⟩:=Y.o.over hg D (.int .i64 2) (.string (zai toks 2 ⟨s.i+1,0,s.p⟩).text) (.int .i64 y.f0) (.string y.f1) (.string y.f2) (.slice u n3 c3) (.slice x n4 c4) (.slice A5 G c5) (.slice A6 n6 c6) (.int .i64 y.f7) (.int .i64 (tk toks s.i).place);refine qaf (qau rfl _ _ W.heap.size 62 #[.int .i64 2,.string (zai toks 2 ⟨s.i+1,0,s.p⟩).text,.int .i64 y.f0,.string y.f1,.string y.f2,.slice u n3 c3,.slice x n4 c4,.slice A5 G c5,.slice A6 n6 c6,.int .i64 y.f7,.int .i64 (tk toks s.i).place] (0,0) _ rfl R1 underlying62 rfl kae) rfl ?_;have aS:=au.o;have J:=aG.o;have aK:=J.fr (zoc w8 (W.heap.size+1) (.int .i64 y.f0) (.string y.f1) (.string y.f2) (.slice u n3 c3) (.slice x n4 c4) (.slice A5 G c5) (.slice A6 n6 c6) (.int .i64 y.f7)) (fun B E e=>by have:=(J.lt B E).1;omega);have aI:=aK.fr aE.o (fun B E e=>by have:=(J.lt B E).1;omega);have aJ:=aI.fr (zfc aN W.heap.size (.int .i64 2) (.string (zai toks 2 ⟨s.i+1,0,s.p⟩).text) (.int .i64 y.f0) (.string y.f1) (.string y.f2) (.slice u n3 c3) (.slice x n4 c4) (.slice A5 G c5) (.slice A6 n6 c6) (.int .i64 y.f7) (.int .i64 (tk toks s.i).place)) (fun B E e=>by have:=(J.lt B E).1;omega);exact ⟨y,d,_,L,st,rfl,aJ.lower kab,R2,R3,HQ.o⟩
theorem itemR_deny (W:World) (s:RS) (QR:RS->S60->Int->RS->Prop) (aL:isR toks sLet s=false) (aM:isR toks zdf s=false) (a6:isR toks zeu s=true) (h:RSt W g T c toks s)
  (aD:∀ W' st,RSt W' g T c toks st->Calls prog 59 #[.pointer (some ⟨g,0,none⟩),.string sOr] W' (zen W' g T c toks (QR st))) :
  Calls prog 34 #[.pointer (some ⟨g,0,none⟩)] W (zud W g T c toks 3 (tk toks s.i).place ⟨s.i+1,0,s.p⟩ zim QR):=by
 have hg:=h.lts.1;have D:=h.lts.2.1;have hj:=aa s.i h.here (zqw a6).1;have aC:s.e=0:=(zqw a6).2;have M:=zq (fun W' (l:RSt W' g T c toks s)=>(show Calls prog 32 #[.pointer (some ⟨g,0,none⟩),.string sLet] W' fun e r=>e = .returned (.bool (isR toks sLet s))/\Below W'.heap.size W' r from zbt W' g T c toks s sLet l));rw [aL] at M;have U:=zq (fun W' (l:RSt W' g T c toks s)=>(show Calls prog 32 #[.pointer (some ⟨g,0,none⟩),.string zdf] W' fun e r=>e = .returned (.bool (isR toks zdf s))/\Below W'.heap.size W' r from zbt W' g T c toks s zdf l));rw [aM] at U;have Y:=zq (fun W' (l:RSt W' g T c toks s)=>(show Calls prog 32 #[.pointer (some ⟨g,0,none⟩),.string zeu] W' fun e r=>e = .returned (.bool (isR toks zeu s))/\Below W'.heap.size W' r from zbt W' g T c toks s zeu l));rw [a6] at Y;have HK:=zq (fun W' (l:RSt W' g T c toks ⟨s.i+1,0,s.p⟩)=>(show Calls prog 57 #[.pointer (some ⟨g,0,none⟩),.int .i64 2] W' fun e' r=>e' = .returned (.agg #[.int .i64 (zai toks 2 ⟨s.i+1,0,s.p⟩).kind,.string (zai toks 2 ⟨s.i+1,0,s.p⟩).text,.int .i64 (zai toks 2 ⟨s.i+1,0,s.p⟩).num,.int .i64 (zai toks 2 ⟨s.i+1,0,s.p⟩).pa,.int .i64 (zai toks 2 ⟨s.i+1,0,s.p⟩).pb,.int .i64 (zai toks 2 ⟨s.i+1,0,s.p⟩).place])/\RSt r g T c toks (zay toks 2 ⟨s.i+1,0,s.p⟩)/\Fr W' r (·=g) from zdr W' g T c toks aa ⟨s.i+1,0,s.p⟩ 2 kad l));have a7:=zq (fun W' (l:RSt W' g T c toks (zay toks 2 ⟨s.i+1,0,s.p⟩))=>zbr g T c toks aa W' _ zim l);have aH:=zq (fun W' st (l:RSt W' g T c toks st)=>zbr g T c toks aa W' st zjc l);have aF:=zq aD;have I:=fun o=>(h.alloc o).look;have u0:=fun o=>(I o).1;have u1:=fun o=>(I o).2.1;have v5:=fun o=>(I o).2.2.2.2.2.2.2.2;have aR:=h.here;have aS:=h.many;have hn:=qab (W.alloc (.cells zfz 62)) (.cells (zcj 0 ⟨#[]⟩ (tk toks s.i).place) 62);rw [qae] at hn;have ae:=zq (ItR.mk ((h.alloc (.cells zfz 62)).alloc (.cells (zcj 0 ⟨#[]⟩ (tk toks s.i).place) 62)) (((Fr.refl W (·=g)).alloc _).alloc _) (zaf (qab W (.cells zfz 62)) _) hn);have HD:=zq (fun {st:RS} {cs:Array Value} {w:World} (h:ItR W g T c toks st cs w)=>(⟨h.st.drew,h.fr.drew,h.res,h.itm⟩:ItR W g T c toks st cs w.drew));have aQ:=@zgy;clear h aD aa I hn;go_enter func34,ntmps34;go_wp2;go_region;all_goals go_wp2_with (first
  | (go_at_call 32;refine (M.o _ (kay:ItR W g T c toks s _ _).st).mono ?_;rintro e1 w1 ⟨rfl,q⟩;have O:=zq ((kay:ItR W g T c toks s (zcj 0 ⟨#[]⟩ (tk toks s.i).place) _).move hg ((kay:ItR W g T c toks s (zcj 0 ⟨#[]⟩ (tk toks s.i).place) _).st.below q) (Fr.of_below q));clear q M)
  | (go_at_call 32;refine (U.o _ (O.o:ItR W g T c toks s _ _).st).mono ?_;rintro e2 w2 ⟨rfl,q⟩;have X:=zq ((O.o:ItR W g T c toks s (zcj 0 ⟨#[]⟩ (tk toks s.i).place) _).move hg ((O.o:ItR W g T c toks s (zcj 0 ⟨#[]⟩ (tk toks s.i).place) _).st.below q) (Fr.of_below q));clear q U)
  | (go_at_call 32;refine (Y.o _ (X.o:ItR W g T c toks s _ _).st).mono ?_;rintro e3 w3 ⟨rfl,q⟩;have A:=zq ((X.o:ItR W g T c toks s (zcj 0 ⟨#[]⟩ (tk toks s.i).place) _).move hg ((X.o:ItR W g T c toks s (zcj 0 ⟨#[]⟩ (tk toks s.i).place) _).st.below q) (Fr.of_below q));clear q Y;obtain ⟨s0,s1,s2,s3,z1,z2,z3⟩:=A.o.st.facts;have k0:=zab A.o.itm 0;have f0:=zac A.o.itm 0;rw [aC] at s2)
  | (go_at_call 57;have a8:=zq ((A.o.put (cells':=zcj 3 ⟨#[]⟩ (tk toks s.i).place) hg D 0 (.int .i64 3) rfl).move hg ((A.o.put (cells':=zcj 3 ⟨#[]⟩ (tk toks s.i).place) hg D 0 (.int .i64 3) rfl).st.setI hj (z:=(s.i:Int)+1) kab) (Fr.setCell (S:=(·=g)) (Fr.refl _ _) (p:=⟨g,1,none⟩) (.inl rfl) _));refine (HK.o _ (by have:=a8.o.st;rw [aC] at this;exact this)).mono ?_;rintro e5 w5 ⟨rfl,m,hF⟩;have ad:=zq (a8.o.move hg m hF);have k1:=zab ad.o.itm 1;have f1:=zac ad.o.itm 1;clear m hF)
  | (go_at_call 58;have aA:=zq (ad.o.put (cells':=zcj 3 (zai toks 2 ⟨s.i+1,0,s.p⟩).text (tk toks s.i).place) hg D 1 (.string (zai toks 2 ⟨s.i+1,0,s.p⟩).text) rfl);refine (a7.o _ aA.o.st).mono ?_;rintro e7 w7 ⟨rfl,m,hF⟩;have af:=zq (aA.o.move hg m hF);clear m hF a7)
  | (go_at_call 59;refine (aF.o _ _ af.o.st).mono ?_;rintro e8 w8 ⟨y,d,cs,L,st,rfl,a1,m,hF,hQ⟩;obtain ⟨v3,v4,aW,v6,rfl,-,-,-,-,u,n3,c3,x,n4,c4,A5,G,c5,A6,n6,c6,rfl,rfl,rfl,rfl⟩:=zax a1;have b:=zq (af.o.move hg m hF);have aG:=zq a1;have HQ:=zq hQ;have au:=zq (And.intro (zam af.o.itm) hF.size);have l0:=fun j=>zab b.o.itm j;have m2:=zac b.o.itm 2;have m3:=zac b.o.itm 3;have m4:=zac b.o.itm 4;have m5:=zac b.o.itm 5;have m6:=zac b.o.itm 6;have m7:=zac b.o.itm 7;have m8:=zac b.o.itm 8;have m9:=zac b.o.itm 9;obtain ⟨⟨q0,q1,q2,q3,q4,q5,q6,q7,q8,q9,aN⟩,-⟩:=zbd b.o.itm;clear a1 m hF hQ l0)
  | (go_at_call 58;have aB:=zq (b.o.put8 (k:=3) (n:=(zai toks 2 ⟨s.i+1,0,s.p⟩).text) (a:=(tk toks s.i).place) hg D (.int .i64 y.f0) (.string y.f1) (.string y.f2) (.slice u n3 c3) (.slice x n4 c4) (.slice A5 G c5) (.slice A6 n6 c6) (.int .i64 y.f7));refine (aH.o _ _ aB.o.st).mono ?_;rintro aP aO ⟨rfl,m,hF⟩;have Z:=zq (aB.o.move hg m hF);have aE:=zq hF;obtain ⟨⟨q0,q1,q2,q3,q4,q5,q6,q7,q8,q9,aN⟩,-⟩:=zbd Z.o.itm;obtain ⟨⟨o0,o1,o2,o3,o4,o5,o6,o7,o8,o9,aU⟩,⟨p0,p1,p2,p3,p4,p5,p6,p7,p8,p9,aV⟩⟩:=zbd Z.o.res;clear m hF))
 all_goals
  obtain ⟨R1,R2,R3⟩:=Z.o.over hg D (.int .i64 3) (.string (zai toks 2 ⟨s.i+1,0,s.p⟩).text) (.int .i64 y.f0) (.string y.f1) (.string y.f2) (.slice u n3 c3) (.slice x n4 c4) (.slice A5 G c5) (.slice A6 n6 c6) (.int .i64 y.f7) (.int .i64 (tk toks s.i).place);refine qaf (qau rfl _ _ W.heap.size 62 #[.int .i64 3,.string (zai toks 2 ⟨s.i+1,0,s.p⟩).text,.int .i64 y.f0,.string y.f1,.string y.f2,.slice u n3 c3,.slice x n4 c4,.slice A5 G c5,.slice A6 n6 c6,.int .i64 y.f7,.int .i64 (tk toks s.i).place] (0,0) _ rfl R1 underlying62 rfl kae) rfl ?_;have aT:=au.o;have J:=aG.o;have aK:=J.fr (zoc w8 (W.heap.size+1) (.int .i64 y.f0) (.string y.f1) (.string y.f2) (.slice u n3 c3) (.slice x n4 c4) (.slice A5 G c5) (.slice A6 n6 c6) (.int .i64 y.f7)) (fun B E e=>by have:=(J.lt B E).1;omega);have aI:=aK.fr aE.o (fun B E e=>by have:=(J.lt B E).1;omega);have aJ:=aI.fr (zfc aO W.heap.size (.int .i64 3) (.string (zai toks 2 ⟨s.i+1,0,s.p⟩).text) (.int .i64 y.f0) (.string y.f1) (.string y.f2) (.slice u n3 c3) (.slice x n4 c4) (.slice A5 G c5) (.slice A6 n6 c6) (.int .i64 y.f7) (.int .i64 (tk toks s.i).place)) (fun B E e=>by have:=(J.lt B E).1;omega);exact ⟨y,d,_,L,st,rfl,aJ.lower kab,R2,R3,HQ.o⟩
theorem znj (W:World) (s:RS) (QR:RS->S60->Int->RS->Prop) (aH:isR toks sLet s=false) (aI:isR toks zdf s=false) (aJ:isR toks zeu s=false) (h:RSt W g T c toks s)
  (a7:∀ W' st,RSt W' g T c toks st->Calls prog 59 #[.pointer (some ⟨g,0,none⟩),.string sOr] W' (zen W' g T c toks (QR st))) :
  Calls prog 34 #[.pointer (some ⟨g,0,none⟩)] W (zud W g T c toks 0 (tk toks s.i).place (zbv toks s) zim QR):=by
 have hg:=h.lts.1;have hT:=h.lts.2.1;have aN:((zbv toks s).e==0)=false:=qah.2 (by unfold zbv zcc;split<;>first|assumption|(show (90:Int)≠0;decide));have G:=zq (fun W' (l:RSt W' g T c toks s)=>(show Calls prog 32 #[.pointer (some ⟨g,0,none⟩),.string sLet] W' fun e q=>e = .returned (.bool (isR toks sLet s))/\Below W'.heap.size W' q from zbt W' g T c toks s sLet l));rw [aH] at G;have J:=zq (fun W' (l:RSt W' g T c toks s)=>(show Calls prog 32 #[.pointer (some ⟨g,0,none⟩),.string zdf] W' fun e q=>e = .returned (.bool (isR toks zdf s))/\Below W'.heap.size W' q from zbt W' g T c toks s zdf l));rw [aI] at J;have O:=zq (fun W' (l:RSt W' g T c toks s)=>(show Calls prog 32 #[.pointer (some ⟨g,0,none⟩),.string zeu] W' fun e q=>e = .returned (.bool (isR toks zeu s))/\Below W'.heap.size W' q from zbt W' g T c toks s zeu l));rw [aJ] at O;have aB:=zq (fun W' (l:RSt W' g T c toks s)=>zdo W' g T c toks s l);have HK:=zq (fun W' (l:RSt W' g T c toks (zbv toks s))=>(show Calls prog 57 #[.pointer (some ⟨g,0,none⟩),.int .i64 2] W' fun e' q=>e' = .returned (.agg #[.int .i64 (zai toks 2 (zbv toks s)).kind,.string (zai toks 2 (zbv toks s)).text,.int .i64 (zai toks 2 (zbv toks s)).num,.int .i64 (zai toks 2 (zbv toks s)).pa,.int .i64 (zai toks 2 (zbv toks s)).pb,.int .i64 (zai toks 2 (zbv toks s)).place])/\RSt q g T c toks (zay toks 2 (zbv toks s))/\Fr W' q (·=g) from zdr W' g T c toks aa (zbv toks s) 2 kad l));have af:=zq (fun W' (l:RSt W' g T c toks (zay toks 2 (zbv toks s)))=>zbr g T c toks aa W' _ zim l);have aD:=zq (fun W' st (l:RSt W' g T c toks st)=>zbr g T c toks aa W' st zjc l);have aA:=zq a7;have D:=fun o=>(h.alloc o).look;have u0:=fun o=>(D o).1;have u1:=fun o=>(D o).2.1;have v5:=fun o=>(D o).2.2.2.2.2.2.2.2;have aP:=h.here;have aQ:=h.many;have hn:=qab (W.alloc (.cells zfz 62)) (.cells (zcj 0 ⟨#[]⟩ (tk toks s.i).place) 62);rw [qae] at hn;have ae:=zq (ItR.mk ((h.alloc (.cells zfz 62)).alloc (.cells (zcj 0 ⟨#[]⟩ (tk toks s.i).place) 62)) (((Fr.refl W (·=g)).alloc _).alloc _) (zaf (qab W (.cells zfz 62)) _) hn);have HD:=zq (fun {st:RS} {cs:Array Value} {w:World} (h:ItR W g T c toks st cs w)=>(⟨h.st.drew,h.fr.drew,h.res,h.itm⟩:ItR W g T c toks st cs w.drew));have aO:=@zgy;clear h a7 aa D hn;go_enter func34,ntmps34;go_wp2;go_region;all_goals go_wp2_with (first
  | (go_at_call 32;refine (G.o _ (kay:ItR W g T c toks s _ _).st).mono ?_;rintro e1 w1 ⟨rfl,p⟩;have I:=zq ((kay:ItR W g T c toks s (zcj 0 ⟨#[]⟩ (tk toks s.i).place) _).move hg ((kay:ItR W g T c toks s (zcj 0 ⟨#[]⟩ (tk toks s.i).place) _).st.below p) (Fr.of_below p));clear p G)
  | (go_at_call 32;refine (J.o _ (I.o:ItR W g T c toks s _ _).st).mono ?_;rintro e2 w2 ⟨rfl,p⟩;have M:=zq ((I.o:ItR W g T c toks s (zcj 0 ⟨#[]⟩ (tk toks s.i).place) _).move hg ((I.o:ItR W g T c toks s (zcj 0 ⟨#[]⟩ (tk toks s.i).place) _).st.below p) (Fr.of_below p));clear p J)
  | (go_at_call 32;refine (O.o _ (M.o:ItR W g T c toks s _ _).st).mono ?_;rintro e3 w3 ⟨rfl,p⟩;have x:=zq ((M.o:ItR W g T c toks s (zcj 0 ⟨#[]⟩ (tk toks s.i).place) _).move hg ((M.o:ItR W g T c toks s (zcj 0 ⟨#[]⟩ (tk toks s.i).place) _).st.below p) (Fr.of_below p));clear p O;obtain ⟨s0,s1,s2,s3,z1,z2,z3⟩:=x.o.st.facts;have k0:=zab x.o.itm 0;have f0:=zac x.o.itm 0)
  | (go_at_call 56;refine (aB.o _ x.o.st).mono ?_;rintro e4 w4 ⟨rfl,b,hF⟩;have X:=zq (x.o.move hg b hF);obtain ⟨r0,r1,r2,r3,-,-,-⟩:=X.o.st.facts;clear b hF)
  | (go_at_call 57;refine (HK.o _ X.o.st).mono ?_;rintro e5 w5 ⟨rfl,b,hF⟩;have Y:=zq (X.o.move hg b hF);have k1:=zab Y.o.itm 1;have f1:=zac Y.o.itm 1;clear b hF)
  | (go_at_call 58;have a1:=zq (Y.o.put (cells':=zcj 0 (zai toks 2 (zbv toks s)).text (tk toks s.i).place) hg hT 1 (.string (zai toks 2 (zbv toks s)).text) rfl);refine (af.o _ a1.o.st).mono ?_;rintro e7 w7 ⟨rfl,b,hF⟩;have Z:=zq (a1.o.move hg b hF);clear b hF af)
  | (go_at_call 59;refine (aA.o _ _ Z.o.st).mono ?_;rintro e8 w8 ⟨y,d,cs,L,st,rfl,ad,b,hF,hQ⟩;obtain ⟨v3,v4,aU,v6,rfl,-,-,-,-,r,n3,c3,u,n4,c4,A5,B,c5,A6,n6,c6,rfl,rfl,rfl,rfl⟩:=zax ad;have m:=zq (Z.o.move hg b hF);have aC:=zq ad;have HQ:=zq hQ;have au:=zq (And.intro (zam Z.o.itm) hF.size);have l0:=fun j=>zab m.o.itm j;have m2:=zac m.o.itm 2;have m3:=zac m.o.itm 3;have m4:=zac m.o.itm 4;have m5:=zac m.o.itm 5;have m6:=zac m.o.itm 6;have m7:=zac m.o.itm 7;have m8:=zac m.o.itm 8;have m9:=zac m.o.itm 9;obtain ⟨⟨q0,q1,q2,q3,q4,q5,q6,q7,q8,q9,aK⟩,-⟩:=zbd m.o.itm;clear ad b hF hQ l0)
  | (go_at_call 58;have a6:=zq (m.o.put8 (k:=0) (n:=(zai toks 2 (zbv toks s)).text) (a:=(tk toks s.i).place) hg hT (.int .i64 y.f0) (.string y.f1) (.string y.f2) (.slice r n3 c3) (.slice u n4 c4) (.slice A5 B c5) (.slice A6 n6 c6) (.int .i64 y.f7));refine (aD.o _ _ a6.o.st).mono ?_;rintro aM aL ⟨rfl,b,hF⟩;have U:=zq (a6.o.move hg b hF);have a8:=zq hF;obtain ⟨⟨q0,q1,q2,q3,q4,q5,q6,q7,q8,q9,aK⟩,-⟩:=zbd U.o.itm;obtain ⟨⟨o0,o1,o2,o3,o4,o5,o6,o7,o8,o9,aS⟩,⟨p0,p1,p2,p3,p4,p5,p6,p7,p8,p9,aT⟩⟩:=zbd U.o.res;clear b hF))
 all_goals
  obtain ⟨R1,R2,R3⟩:=U.o.over hg hT (.int .i64 0) (.string (zai toks 2 (zbv toks s)).text) (.int .i64 y.f0) (.string y.f1) (.string y.f2) (.slice r n3 c3) (.slice u n4 c4) (.slice A5 B c5) (.slice A6 n6 c6) (.int .i64 y.f7) (.int .i64 (tk toks s.i).place);refine qaf (qau rfl _ _ W.heap.size 62 #[.int .i64 0,.string (zai toks 2 (zbv toks s)).text,.int .i64 y.f0,.string y.f1,.string y.f2,.slice r n3 c3,.slice u n4 c4,.slice A5 B c5,.slice A6 n6 c6,.int .i64 y.f7,.int .i64 (tk toks s.i).place] (0,0) _ rfl R1 underlying62 rfl kae) rfl ?_;have aR:=au.o;have E:=aC.o;have aG:=E.fr (zoc w8 (W.heap.size+1) (.int .i64 y.f0) (.string y.f1) (.string y.f2) (.slice r n3 c3) (.slice u n4 c4) (.slice A5 B c5) (.slice A6 n6 c6) (.int .i64 y.f7)) (fun z A e=>by have:=(E.lt z A).1;omega);have aE:=aG.fr a8.o (fun z A e=>by have:=(E.lt z A).1;omega);have aF:=aE.fr (zfc aL W.heap.size (.int .i64 0) (.string (zai toks 2 (zbv toks s)).text) (.int .i64 y.f0) (.string y.f1) (.string y.f2) (.slice r n3 c3) (.slice u n4 c4) (.slice A5 B c5) (.slice A6 n6 c6) (.int .i64 y.f7) (.int .i64 (tk toks s.i).place)) (fun z A e=>by have:=(E.lt z A).1;omega);exact ⟨y,d,_,L,st,rfl,aF.lower kab,R2,R3,HQ.o⟩
end
end
section
def OkI (r:PR S62) (p:Int) (x:S62) (st:RS):Prop:=match r with
 | .ok y j=>x=y/\st=⟨j,0,p⟩
 | .bad e q=>st.e=e/\st.p=q/\e≠0
def zui (W:World) (g T c:Nat) (toks:List Tok) (Q:S62->RS->Prop) (e:Ending) (W':World):Prop:=
 ∃ x ts L st,e = .returned (.agg (([Value.int .i64 x.f0,Value.string x.f1]:List Value)++ts++[Value.int .i64 x.f3]).toArray)/\Tree W' W.heap.size x.f2 ts L/\RSt W' g T c toks st/\Fr W W' (·=g)/\Q x st
def RowQ (toks:List Tok) (k:Nat) (st:RS) (x:S60) (d:Int) (ay:RS):Prop:=
 (st.e=0/\∃ r,zce toks k 0 st.i=some r/\OkQ r st.p x d ay)\/(st.e≠0/\ay=st)
section
variable {toks:List Tok}
theorem item_fin (k n i:Nat) (p kd:Int) (w:ByteArray) (G:w=if kd=1 then sEq else zim) (hn:n≠100) (hk:(if (tk toks i).kind=1 then zfk (tk toks i) else none)=some kd) (r:PR S62) (hr:zfr toks k n i=some r) (x:S60) (d:Int) (st:RS)
  (b:RowQ toks k (zdn toks w (zay toks 2 ⟨i+1,0,p⟩)) x d st):OkI r p ⟨kd,(zai toks 2 ⟨i+1,0,p⟩).text,x,(tk toks i).place⟩ (zdn toks zjc st):=by
 unfold zfr at hr;rw [hk] at hr;dsimp only at hr;rw [if_neg hn] at hr;unfold ofP at hr;by_cases m:(tk toks (i+1)).kind=2
 ·rw [if_pos m] at hr;have o:zay toks 2 ⟨i+1,0,p⟩=⟨i+1+1,0,p⟩:=by simp [zay,m]
  have E:zai toks 2 ⟨i+1,0,p⟩=tk toks (i+1):=by simp [zai,m]
  rw [o,ziz] at b;rw [E];dsimp only at hr;rw [<-G] at hr;unfold zdg at hr;by_cases u:isT (tk toks (i+1+1)) w=true
  ·rw [if_pos u] at hr b;dsimp only at hr;rcases b with ⟨-,s,hs,b⟩|⟨l,-⟩
   ·dsimp only at hs b;rw [hs] at hr;cases s with
    | bad e q=>
     obtain ⟨B,I,D⟩:=b;have l:st.e≠0:=(by rw [B];exact D);rw [zeo l];obtain rfl:=qaa hr;exact ⟨B,I,D⟩
    | ok y j=>
     obtain ⟨rfl,rfl,-,rfl⟩:=b;rw [ziz];dsimp only at hr;by_cases z:isT (tk toks j) zjc=true
     ·rw [if_pos z] at hr ⊢;obtain rfl:=qaa hr;exact ⟨rfl,rfl⟩
     rw [if_neg z] at hr ⊢;obtain rfl:=qaa hr;exact ⟨rfl,rfl,kad⟩
   exact absurd rfl l
  rw [if_neg u] at hr b;obtain rfl:=qaa hr;rcases b with ⟨l,-⟩|⟨l,rfl⟩
  ·exact absurd l (by show ¬(90:Int)=0;decide)
  rw [zeo l];exact ⟨rfl,rfl,kad⟩
 rw [if_neg m] at hr;obtain rfl:=qaa hr;have o:zay toks 2 ⟨i+1,0,p⟩=⟨i+1,90,(tk toks (i+1)).place⟩:=by simp [zay,m,zbv,zcc]
 have l:(⟨i+1,90,(tk toks (i+1)).place⟩:RS).e≠0:=by show (90:Int)≠0;decide
 rw [o,zeo l] at b;rcases b with ⟨A,-⟩|⟨A,rfl⟩
 ·exact absurd A l
 rw [zeo l];exact ⟨rfl,rfl,kad⟩
theorem zgx {t:Tok} (h:t.kind=1) (s:ByteArray):isT t s=(t.text.toList==s.toList):=by simp [isT,h]
end
section
variable (g T c:Nat) (toks:List Tok) (aa:∀ k,k<toks.length->(tk toks k).kind≠8->k+1<toks.length) (aw:∀ i,(tk toks i).kind=7->(tk toks i).text.size=1)
include aa
theorem zna (k:Nat) (hk:5*toks.length+4<=k) (W:World) (st:RS) (h:RSt W g T c toks st):Calls prog 59 #[.pointer (some ⟨g,0,none⟩),.string sOr] W (zen W g T c toks (RowQ toks k st)):=by
 by_cases b:st.e=0
 ·obtain ⟨r,hr,-⟩:=zmj aa k 0 st.i kab h.here kab;obtain ⟨j,e,p⟩:=st;have b:e=0:=b;subst b;refine ((condR g T c toks aa k).1 W j p r hr h).mono ?_;rintro e w ⟨x,d,cs,L,st,h1,l,m,n,o⟩;exact ⟨x,d,cs,L,st,h1,l,m,n,.inl ⟨rfl,r,hr,o⟩⟩
 refine (rowE_or g T c toks aa W st b h).mono ?_;rintro e w ⟨x,d,cs,L,ay,h1,l,m,n,o⟩;exact ⟨x,d,cs,L,ay,h1,l,m,n,.inr ⟨b,o⟩⟩
include aw
theorem zux (k n i:Nat) (p:Int) (r:PR S62) (hk:5*toks.length+4<=k) (hn:n≠100) (hr:zfr toks k n i=some r) (W:World) (h:RSt W g T c toks ⟨i,0,p⟩) :
  Calls prog 34 #[.pointer (some ⟨g,0,none⟩)] W (zui W g T c toks (OkI r p)):=by
 have z:=fun W' st J=>zna g T c toks aa k hk W' st J;have fin:∀ (kd:Int) (w:ByteArray),w=(if kd=1 then sEq else zim)->(if (tk toks i).kind=1 then zfk (tk toks i) else none)=some kd ->
   ∀ e w',zud W g T c toks kd (tk toks i).place ⟨i+1,0,p⟩ w (RowQ toks k) e w'->zui W g T c toks (OkI r p) e w':=fun kd w G E e w' ⟨x,d,ts,L,st,h1,A,q,B,s⟩=>
  ⟨⟨kd,(zai toks 2 ⟨i+1,0,p⟩).text,x,(tk toks i).place⟩,ts,L,_,h1,A,q,B,item_fin k n i p kd w G hn E r hr x d st s⟩
 have b:∀ w:ByteArray,isR toks w ⟨i,0,p⟩=isT (tk toks i) w:=fun w=>zdy toks w i p;have U:sLet.size=3:=kae;have X:zdf.size=5:=kae;have Y:zeu.size=4:=kae;have none_:(if (tk toks i).kind=1 then zfk (tk toks i) else none)=none->isT (tk toks i) sLet=false->isT (tk toks i) zdf=false->isT (tk toks i) zeu=false ->
   Calls prog 34 #[.pointer (some ⟨g,0,none⟩)] W (zui W g T c toks (OkI r p)):=fun E b1 b2 b3=>by
  refine (znj g T c toks aa W ⟨i,0,p⟩ (RowQ toks k) (by rw [b];exact b1) (by rw [b];exact b2) (by rw [b];exact b3) h z).mono ?_;rintro e w' ⟨x,d,ts,L,st,h1,A,q,B,s⟩;unfold zfr at hr;rw [E] at hr;obtain rfl:=qaa hr;have j:zbv toks ⟨i,0,p⟩=⟨i,90,(tk toks i).place⟩:=by simp [zbv,zcc]
  have u:(⟨i,90,(tk toks i).place⟩:RS).e≠0:=by show (90:Int)≠0;decide
  rw [j,zhm u,zeo u] at s;rcases s with ⟨M,-⟩|⟨-,rfl⟩
  ·exact absurd M u
  rw [zeo u] at q;exact ⟨⟨0,_,x,(tk toks i).place⟩,ts,L,_,h1,A,q,B,rfl,rfl,kad⟩
 by_cases h1:(tk toks i).kind=1
 ·have y:∀ v,zfk (tk toks i)=v->(if (tk toks i).kind=1 then zfk (tk toks i) else none)=v:=fun v O=>(if_pos h1).trans O;by_cases j:(tk toks i).text.toList=sLet.toList
  ·have l:=y (some 1) (by unfold zfk;rw [if_pos j]);exact (itemR_let g T c toks aa W ⟨i,0,p⟩ (RowQ toks k) (by rw [b,zgx h1,j];simp) h z).mono (fin 1 sEq rfl l)
  have b1:isT (tk toks i) sLet=false:=by rw [zgx h1];exact qah.2 j
  by_cases m:(tk toks i).text.toList=zdf.toList
  ·have l:=y (some 2) (by unfold zfk;rw [if_neg j,if_pos m]);exact (itemR_allow g T c toks aa W ⟨i,0,p⟩ (RowQ toks k) (by rw [b];exact b1) (by rw [b,zgx h1,m];simp) h z).mono (fin 2 zim rfl l)
  have b2:isT (tk toks i) zdf=false:=by rw [zgx h1];exact qah.2 m
  by_cases o:(tk toks i).text.toList=zeu.toList
  ·have l:=y (some 3) (by unfold zfk;rw [if_neg j,if_neg m,if_pos o]);exact (itemR_deny g T c toks aa W ⟨i,0,p⟩ (RowQ toks k) (by rw [b];exact b1) (by rw [b];exact b2) (by rw [b,zgx h1,o];simp) h z).mono (fin 3 zim rfl l)
  have l:=y none (by unfold zfk;rw [if_neg j,if_neg m,if_neg o]);exact none_ l b1 b2 (by rw [zgx h1];exact qah.2 o)
 have I:∀ w:ByteArray,w.size≠1->isT (tk toks i) w=false:=fun w G=>by
  cases D:isT (tk toks i) w with
  | false=>rfl
  | true=>
   unfold isT at D;rw [qbj,Bool.or_eq_true,qar,qar,qar] at D;have:=aw i kab;rw [zck D.2] at this;exact absurd this G
 exact none_ (if_neg h1) (I _ kab) (I _ kab) (I _ kab)
omit aw in
theorem zve (W:World) (s:RS) (b:s.e≠0) (h:RSt W g T c toks s) :
  Calls prog 34 #[.pointer (some ⟨g,0,none⟩)] W (zui W g T c toks (fun _ st=>st=s)):=by
 refine (znj g T c toks aa W s (RowQ toks (5*toks.length+4)) (zea toks b) (zea toks b) (zea toks b) h fun W' st m=>zna g T c toks aa _ (qad _) W' st m).mono ?_;rintro e w' ⟨x,d,ts,L,st,h1,n,j,o,l⟩;rw [zfs toks b,zhm b,zeo b] at l;rcases l with ⟨p,-⟩|⟨-,rfl⟩
 ·exact absurd p b
 rw [zeo b] at j;exact ⟨⟨0,_,x,_⟩,ts,L,_,h1,n,j,o,rfl⟩
end
end
section
theorem zpb (x:ByteArray):x.toList=bl x:=Go.Lib.toList_data x
theorem digit08 (c:Int):lychgateref08_digit.f c=some (decide (48<=c/\c<=57)):=by
 unfold lychgateref08_digit.f;by_cases h:c>=48
 ·rw [if_pos h];congr 1;by_cases b:c<=57
  ·rw [qac b,qac ⟨h,b⟩]
  rw [qak b,qak (fun d=>b d.2)]
 rw [if_neg h,qak (fun d=>h d.1)]
theorem dig_dec (b:UInt8):decide (48<=(b.toNat:Int)/\(b.toNat:Int)<=57)=digB b:=by
 unfold digB;congr 1;exact propext ⟨fun h=>⟨kab,kab⟩,fun h=>⟨kab,kab⟩⟩
def lim:Nat->Nat
 | 0=>1
 | i+1=>10*lim i
theorem zps {i:Nat} (h:i<=9):lim i<=1000000000:=(show ∀ j:Fin 10,lim j.val<=1000000000 by decide) ⟨i,kab⟩
theorem zrt (i:Nat):lim (i+1)=10*lim i:=rfl
theorem znv {x:Int} (b:0<=x) (h1:x<9223372036854775808):wrap64 x=x:=by unfold wrap64;omega
theorem znm {a:Nat} {b:UInt8} (j:a<=1000000000) (l:48<=b.toNat/\b.toNat<=57):wrap64 (wrap64 (10*(a:Int))+((b.toNat:Int)-48)%256)=((10*a+(b.toNat-48):Nat):Int):=by
 have d:wrap64 (10*(a:Int))=10*(a:Int):=znv kab kab;have e:((b.toNat:Int)-48)%256=((b.toNat-48:Nat):Int):=kab;rw [d,e,znv kab kab];omega
theorem zqd {v n:Nat} (d:v<=16777216) (hn:n<=255):wrap64 (wrap64 (256*(v:Int))+(n:Int))=((256*v+n:Nat):Int):=by
 have b:wrap64 (256*(v:Int))=256*(v:Int):=znv kab kab;rw [b,znv kab kab];omega
theorem zsh (x:ByteArray) (m:Nat) (l:x.size<=8000) (j:m<=4294967295):∃ v,addr_number.f x (m:Int)=some (v,(numC (bl x) m).isSome)/\∀ n,numC (bl x) m=some n->v=(n:Int):=by
 unfold addr_number.f;rw [if_pos ⟨kab,kab⟩,zpb];have e:x.data.toList=bl x:=rfl;rw [e];cases h:Lib.atoiAll (bl x);case ok v=>
  obtain ⟨h1,d⟩:=zqx (bl x) m v h kab;exact ⟨v,by rw [<-h1],d⟩
 all_goals
  have:=ztx (bl x) m (fun v b=>by rw [h] at b;cases b) kab;rw [this];exact ⟨_,rfl,fun n hn=>by cases hn⟩
theorem zky (x:ByteArray) (d:x.size<=8000):(zef x).2=(numC (bl x) 255).isSome/\∀ n,numC (bl x) 255=some n->(zef x).1=(n:Int):=by
 obtain ⟨v,h1,b⟩:=zsh x 255 d kad;have:addr_number.f x 255=some (v,(numC (bl x) 255).isSome):=h1;unfold zef;rw [this];exact ⟨rfl,b⟩
def resD (v:Nat) (ok b:Bool):Int×Bool:=match ok with|true=>((v:Int),b)|false=>(0,false)
theorem ref8_l0 (x:ByteArray) (w:x.size<=8000) (s:0<x.size):∀ (d i k a:Nat),i+d=x.size->i<=10->d+1<=k->a<lim i ->
  lychgateref08_number.l0 k x (a:Int) (i:Int)=some (resD (valD a ((bl x).drop i)) (((bl x).drop i).all digB&&decide (x.size<=10)) (decide (valD a ((bl x).drop i)<=4294967295)&&(decide (bt x 0≠48)||decide (x.size=1)))):=by
 have u:=zbm x;intro d;induction d with
 | zero=>
  intro i k a hi n hk p;obtain ⟨k,rfl⟩:∃ m,k=m+1:=⟨k-1,kab⟩;simp only [lychgateref08_number.l0];rw [if_neg kab,qaz kab,zja,List.all_nil,qac (show x.size<=10 by omega)];show _=some ((a:Int),_);by_cases l:a<=4294967295
  ·rw [if_pos kab,if_pos kab,qac l,Bool.true_and];by_cases e:bt x 0=48
   ·rw [if_pos e,qak (fun h=>h e),Bool.false_or];congr 2;rw [Bool.eq_iff_iff,qar,qbw];omega
   rw [if_neg e,qac e,Bool.true_or]
  rw [if_neg kab,qak l,Bool.false_and]
 | succ d r=>
  intro i k a hi n hk p;obtain ⟨k,rfl⟩:∃ m,k=m+1:=⟨k-1,kab⟩;have j:i<(bl x).length:=kab;simp only [lychgateref08_number.l0];rw [if_pos kab,if_pos kab,digit08,zfm x i j,dig_dec,zem _ i j];simp only [qam,List.all_cons];generalize (bl x)[i]=b;by_cases hd:digB b=true
  ·rw [if_pos hd,hd,Bool.true_and];have q:48<=b.toNat/\b.toNat<=57:=qbo hd;by_cases o:i<=9
   ·have hp:=zps o;rw [if_neg kab,zct i kab,znm kab q,
     r (i+1) k _ kab kab kab (by rw [zrt];omega),zgi]
   rw [if_pos kab,qak (show ¬x.size<=10 by omega),Bool.and_false];rfl
  have hf:digB b=false:=by simpa using hd
  rw [if_neg hd,hf,Bool.false_and,Bool.false_and];rfl
theorem ref8_num (x:ByteArray) (q:x.size<=8000) (l:0<x.size) (k:Nat) (hk:9000<=k):∃ v,lychgateref08_number.f k x=some (v,(numC (bl x) 4294967295).isSome)/\∀ n,numC (bl x) 4294967295=some n->v=(n:Int):=by
 have j:=zbm x;have h:=ref8_l0 x q l x.size 0 k 0 kab kab kab kad;unfold lychgateref08_number.f;rw [show ((0:Nat):Int)=0 from rfl] at h;rw [h];simp only [List.drop_zero];have m:bt x 0=((bl x)[0]'kab).toNat:=zfm x 0 kab;have p:(bl x).head?.map (·.toNat)=some ((bl x)[0]'kab).toNat:=by
  rw [List.head?_eq_getElem?,qao kab];rfl
 have o:can (bl x)↔(bl x).all digB=true/\(bt x 0≠48\/x.size=1):=by
  unfold can;rw [p,m];constructor
  ·rintro ⟨_,b,d|d⟩
   ·exact ⟨b,.inr kab⟩
   exact ⟨b,.inl (fun e=>d (by congr 1;omega))⟩
  rintro ⟨b,d|d⟩
  ·exact ⟨fun e=>by rw [e] at j;simp at j;omega,b,.inr (fun e=>d (by have:=qaa e;omega))⟩
  exact ⟨fun e=>by rw [e] at j;simp at j;omega,b,.inl kab⟩
 by_cases hd:(bl x).all digB=true/\x.size<=10
 ·rw [hd.1,qac hd.2];refine ⟨(valD 0 (bl x):Int),congrArg some (Prod.ext rfl ?_),fun n hn=>by rw [(zdl hn).2.1]⟩;refine (zlw _ _ _ ?_).symm;show (decide (valD 0 (bl x)<=4294967295)&&(decide (bt x 0≠48)||decide (x.size=1)))=true↔_;rw [qbj,Bool.or_eq_true,qbw,qbw,qbw,o];exact ⟨fun h=>⟨⟨hd.1,h.2⟩,h.1⟩,fun h=>⟨h.2,h.1.2⟩⟩
 have hf:((bl x).all digB&&decide (x.size<=10))=false:=by
  rw [<-Bool.not_eq_true,qbj,qbw];exact hd
 rw [hf];have hn:numC (bl x) 4294967295=none:=by
  cases hn:numC (bl x) 4294967295 with
  | none=>rfl
  | some n=>
   obtain ⟨h1,b,d⟩:=zdl hn;have:=zqc _ h1 10 kad kab;exact absurd ⟨h1.2.1,kab⟩ hd
 rw [hn];exact ⟨0,rfl,fun n hn=>by cases hn⟩
theorem ref3_l0 (x:ByteArray) (m:Nat) (p:x.size<=3):∀ (d i k a:Nat),i+d=x.size->d+1<=k->a<lim i ->
  lychgateref03_number.l0 k x (m:Int) (a:Int) (i:Int)=some (resD (valD a ((bl x).drop i)) (((bl x).drop i).all digB) (decide (valD a ((bl x).drop i)<=m))):=by
 have o:=zbm x;intro d;induction d with
 | zero=>
  intro i k a hi hk j;obtain ⟨k,rfl⟩:∃ m,k=m+1:=⟨k-1,kab⟩;simp only [lychgateref03_number.l0];rw [if_neg kab,qaz kab,zja,List.all_nil];show _=some ((a:Int),_);congr 2;rw [Bool.eq_iff_iff,qbw,qbw];omega
 | succ d l=>
  intro i k a hi hk j;obtain ⟨k,rfl⟩:∃ m,k=m+1:=⟨k-1,kab⟩;have e:i<(bl x).length:=kab;simp only [lychgateref03_number.l0];rw [if_pos kab,if_pos kab,zfm x i e,zem _ i e];simp only [List.all_cons];generalize (bl x)[i]=b;have hp:=zps (show i<=9 by omega);by_cases h1:b.toNat<48
  ·rw [if_pos kab,show digB b=false from qak kab,Bool.false_and];rfl
  rw [if_neg kab];by_cases n:b.toNat>57
  ·rw [if_pos kab,show digB b=false from qak kab,Bool.false_and];rfl
  have hd:digB b=true:=qac ⟨kab,kab⟩;rw [if_neg kab,hd,Bool.true_and,zct i kab,znm kab ⟨kab,kab⟩,
   l (i+1) k _ kab kab (by rw [zrt];omega),zgi]
theorem zny (x:ByteArray) (m:Nat) (w:m<1000) (k:Nat) (hk:9000<=k):∃ v,lychgateref03_number.f k x (m:Int)=some (v,(numC (bl x) m).isSome)/\∀ n,numC (bl x) m=some n->v=(n:Int):=by
 have l:=zbm x;obtain ⟨k,rfl⟩:∃ m,k=m+1:=⟨k-1,kab⟩;have no:¬can (bl x)->∃ v,lychgateref03_number.j0 (k+1) x (m:Int) true=some (v,(numC (bl x) m).isSome)/\∀ n,numC (bl x) m=some n->v=(n:Int):=fun h=>by
  have:numC (bl x) m=none:=if_neg (fun b=>h b.1);rw [this];exact ⟨0,by simp only [lychgateref03_number.j0,if_true];rfl,fun n hn=>by cases hn⟩
 have p:x.size<=3->((bl x).all digB=true->can (bl x))->∃ v,lychgateref03_number.j0 (k+1) x (m:Int) false=some (v,(numC (bl x) m).isSome)/\∀ n,numC (bl x) m=some n->v=(n:Int):=fun r b=>by
  have h:=ref3_l0 x m r x.size 0 k 0 kab kab kad;rw [show ((0:Nat):Int)=0 from rfl] at h;simp only [lychgateref03_number.j0];rw [if_neg kad,h];simp only [List.drop_zero];by_cases hd:(bl x).all digB=true
  ·rw [hd];refine ⟨(valD 0 (bl x):Int),congrArg some (Prod.ext rfl ?_),fun n hn=>by rw [(zdl hn).2.1]⟩;refine (zlw _ _ _ ?_).symm;show decide (valD 0 (bl x)<=m)=true↔_;rw [qbw];exact ⟨fun h=>⟨b hd,h⟩,fun h=>h.2⟩
  have hf:(bl x).all digB=false:=by simpa using hd
  rw [hf];have:numC (bl x) m=none:=if_neg (fun b=>hd b.1.2.1);rw [this];exact ⟨0,rfl,fun n hn=>by cases hn⟩
 unfold lychgateref03_number.f;by_cases h1:x.size<1
 ·rw [if_pos kab];exact no (fun h=>h.1 (List.length_eq_zero_iff.1 kab))
 rw [if_neg kab];by_cases u:x.size>3
 ·rw [if_pos kab];by_cases b:can (bl x)/\valD 0 (bl x)<=m
  ·have:=zqc _ b.1 3 kad kab;omega
  have:numC (bl x) m=none:=if_neg b;rw [this];exact ⟨0,by simp only [lychgateref03_number.j0,if_true];rfl,fun n hn=>by cases hn⟩
 rw [if_neg kab];have j:(bl x).head?.map (·.toNat)=some ((bl x)[0]'kab).toNat:=by
  rw [List.head?_eq_getElem?,qao kab];rfl
 have q:bt x 0=((bl x)[0]'kab).toNat:=zfm x 0 kab;have o:bl x≠[]:=fun e=>by rw [e] at l;simp at l;omega
 by_cases s:x.size>1
 ·rw [if_pos kab,if_pos kab,q];by_cases d:((bl x)[0]'kab).toNat=48
  ·rw [show ((((bl x)[0]'kab).toNat:Int)==48)=true by rw [qar];omega];exact no (fun h=>by
    rcases h.2.2 with h|h
    ·omega
    exact h (by rw [j,d]))
  rw [show ((((bl x)[0]'kab).toNat:Int)==48)=false by rw [<-Bool.not_eq_true,qar];omega];exact p kab (fun hd=>⟨o,hd,.inr (fun e=>d (by rw [j] at e;exact qaa e))⟩)
 rw [if_neg kab];exact p kab (fun hd=>⟨o,hd,.inl kab⟩)
theorem ref3_cut_l0 (s:ByteArray) (p:s.size<=8000) (c:UInt8):∀ (d i k:Nat),i+d=s.size->d+1<=k ->
  lychgateref03_cut.l0 k s (c.toNat:Int) (i:Int)=some (match cutS c ((bl s).drop i) with|none=>(s,(⟨#[]⟩:ByteArray),false)|some (a,b)=>(toS ((bl s).take i++a),toS b,true)):=by
 have o:=zbm s;intro d;induction d with
 | zero=>
  intro i k hi hk;obtain ⟨k,rfl⟩:∃ m,k=m+1:=⟨k-1,kab⟩;simp only [lychgateref03_cut.l0];rw [if_neg kab,qaz kab];rfl
 | succ d n=>
  intro i k hi hk;obtain ⟨k,rfl⟩:∃ m,k=m+1:=⟨k-1,kab⟩;have j:i<(bl s).length:=kab;simp only [lychgateref03_cut.l0];rw [if_pos kab,if_pos kab,zfm s i j,zem _ i j,cutS];have l:(bl s).take (i+1)=(bl s).take i++[(bl s)[i]]:=by rw [List.take_append_getElem]
  by_cases h:(bl s)[i]=c
  ·rw [if_pos h,if_pos (by rw [h]),if_pos kab,zct i kab,if_pos kab,if_pos kab,qax,qax,zkf,zkn];simp
  rw [if_neg h,if_neg (fun e=>h (UInt8.toNat_inj.1 kab)),zct i kab,n (i+1) k kab kab,l];cases cutS c ((bl s).drop (i+1)) with
  | none=>rfl
  | some y=>simp
theorem zrp (s:ByteArray) (d:s.size<=8000) (c:UInt8) (k:Nat) (hk:9000<=k) :
  lychgateref03_cut.f k s (c.toNat:Int)=some (match cutS c (bl s) with|none=>(s,(⟨#[]⟩:ByteArray),false)|some (a,b)=>(toS a,toS b,true)):=by
 have h:=ref3_cut_l0 s d c s.size 0 k kab kab;unfold lychgateref03_cut.f;simpa using h
theorem zia (c:UInt8) (l a b:List UInt8) (h:cutS c l=some (a,b)):a.length+b.length+1=l.length:=by
 rw [(zlc c l a b h).1];simp;omega
def zhp:Nat->Nat->List UInt8->Option Nat
 | 0,v,l=>(numC l 255).map fun n=>256*v+n
 | j+1,v,l=>match cutS 46 l with
  | none=>none
  | some (a,r)=>match numC a 255 with
   | none=>none
   | some n=>zhp j (256*v+n) r
def zot:Option Nat->Int×Int
 | none=>(0,30)
 | some v=>((v:Int),0)
theorem ref3_parse_l0:∀ (j:Nat) (i k v:Nat) (s:ByteArray),s.size<=8000->i+j=3->9000+j+2<=k->v<256 ^ i ->
  lychgateref03_Parse.l0 k (v:Int) s (i:Int)=some (zot (zhp j v (bl s))):=by
 have small:∀ i,i<=3->256 ^ i<=16777216:=fun i h=>(Nat.pow_le_pow_right (by decide:0<256) h:256 ^ i<=256 ^ 3);intro j;induction j with
 | zero=>
  intro i k v s l hi hk q;obtain ⟨k,rfl⟩:∃ m,k=m+1:=⟨k-1,kab⟩;obtain rfl:i=3:=kab;have:=small 3 kab;obtain ⟨x,h1,d⟩:=zny s 255 kad k kab;simp only [lychgateref03_Parse.l0];rw [if_pos kab,if_neg kab];have b:lychgateref03_number.f k s 255=some (x,(numC (bl s) 255).isSome):=h1;rw [b];simp only [qam];rw [zhp];cases hn:numC (bl s) 255 with
  | none=>rfl
  | some n=>
   have e:=d n hn;have:=(zdl hn).2.2;subst e;rw [Option.isSome_some,if_pos rfl];obtain ⟨k,rfl⟩:∃ m,k=m+1:=⟨k-1,kab⟩;rw [zct 3 kab,zqd kab kab];simp only [lychgateref03_Parse.l0];rw [if_neg kab];rfl
 | succ j u=>
  intro i k v s l hi hk q;obtain ⟨k,rfl⟩:∃ m,k=m+1:=⟨k-1,kab⟩;have w:=zbm s;have:=small i kab;simp only [lychgateref03_Parse.l0];have o:=zrp s l 46 k kab;have p:lychgateref03_cut.f k s 46=_:=o;rw [if_pos kab,if_pos kab,p,zhp]
  match hcut:cutS 46 (bl s) with
  | none=>rfl
  | some (a,r)=>
   have y:=zia _ _ _ _ hcut;simp only [qam,if_true];obtain ⟨x,h1,d⟩:=zny (toS a) 255 kad k kab;have b:lychgateref03_number.f k (toS a) 255=some (x,(numC a 255).isSome):=h1;rw [b];simp only [qam];cases hn:numC a 255 with
   | none=>rfl
   | some n=>
    have e:=d n hn;have:=(zdl hn).2.2;subst e;rw [Option.isSome_some,if_pos rfl,zct i kab,zqd kab kab,
     u (i+1) k _ (toS r) (by rw [zdk];omega) kab kab (by rw [Nat.pow_succ];omega)]
    rfl
theorem znc (s:ByteArray) (b:s.size<=8000) (k:Nat) (hk:9010<=k):lychgateref03_Parse.f k s=some (zot (zhp 3 0 (bl s))):=
 ref3_parse_l0 3 0 k 0 s b rfl kab kad
theorem zon (s:ByteArray) (h:cutS 46 (bl s)=none):dots s=[s]:=dots_none s 46 h
theorem zla (s:ByteArray) (a b:List UInt8) (h:cutS 46 (bl s)=some (a,b)):dots s=toS a::dots (toS b):=by
 obtain ⟨x,y,l,m,j⟩:=dots_some s 46 a b h;have d:x=toS a:=by rw [<-zuo x];exact congrArg toS l
 have e:y=toS b:=by rw [<-zuo y];exact congrArg toS m
 subst d;subst e;exact j
theorem dots_ne (s:ByteArray):∃ x r,dots s=x::r:=by
 have:=zmf s
 match h:dots s with
 | []=>rw [h] at this;simp at this
 | x::r=>exact ⟨x,r,rfl⟩
theorem numC_dot (l:List UInt8) (m:Nat) (h:cutS 46 l≠none):numC l m=none:=by
 cases hn:numC l m with
 | none=>rfl
 | some n=>
  refine absurd ((zpz 46 l).2 (fun b=>?_)) h;have:=qbv.1 (zdl hn).1.2.1 _ b;exact absurd this kad
theorem four_ev (a b c d:ByteArray) (o:a.size<=8000) (p:b.size<=8000) (q:c.size<=8000) (hd:d.size<=8000) :
  (if (zef a).2=true/\(zef b).2=true/\(zef c).2=true/\(zef d).2=true then ((zef a).1*16777216+(zef b).1*65536+(zef c).1*256+(zef d).1,(0:Int)) else (0,30)) =
  zot (match numC (bl a) 255 with|none=>none|some x=>match numC (bl b) 255 with|none=>none|some y=>match numC (bl c) 255 with|none=>none|some z=>(numC (bl d) 255).map fun n=>256*(256*(256*(256*0+x)+y)+z)+n):=by
 obtain ⟨a1,a2⟩:=zky a o;obtain ⟨b1,b2⟩:=zky b p;obtain ⟨c1,c2⟩:=zky c q;obtain ⟨d1,d2⟩:=zky d hd;rw [a1,b1,c1,d1];cases e:numC (bl a) 255 with
 | none=>rw [if_neg (fun h=>by cases h.1)];rfl
 | some x=>
 cases j:numC (bl b) 255 with
 | none=>rw [if_neg (fun h=>by cases h.2.1)];rfl
 | some y=>
 cases l:numC (bl c) 255 with
 | none=>rw [if_neg (fun h=>by cases h.2.2.1)];rfl
 | some z=>
 cases m:numC (bl d) 255 with
 | none=>rw [if_neg (fun h=>by cases h.2.2.2)];rfl
 | some n=>
  rw [if_pos ⟨rfl,rfl,rfl,rfl⟩,a2 x e,b2 y j,c2 z l,d2 n m];simp only [Option.map_some,zot];congr 1;omega
theorem znr (s:ByteArray) (o:s.size<=8000):addr_Parse.f s=some (zot (zhp 3 0 (bl s))):=by
 have n:=zbm s;unfold addr_Parse.f;rw [if_pos kab];congr 1;simp only [zhp]
 match h1:cutS 46 (bl s) with
 | none=>rw [zon s h1];rfl
 | some (a,r1)=>
 have l1:=zia _ _ _ _ h1;rw [zla s a r1 h1];dsimp only
 match e:cutS 46 r1 with
 | none=>
  rw [zon (toS r1) e];cases numC a 255<;>rfl
 | some (b,r2)=>
 have l2:=zia _ _ _ _ e;rw [zla (toS r1) b r2 e];dsimp only
 match j:cutS 46 r2 with
 | none=>
  rw [zon (toS r2) j];cases numC a 255 with
  | none=>rfl
  | some x=>dsimp only;cases numC b 255<;>rfl
 | some (c,r3)=>
 have l3:=zia _ _ _ _ j;rw [zla (toS r2) c r3 j];dsimp only
 match l:cutS 46 r3 with
 | none=>
  rw [zon (toS r3) l];exact four_ev (toS a) (toS b) (toS c) (toS r3) (by rw [zdk];omega) (by rw [zdk];omega) (by rw [zdk];omega) (by rw [zdk];omega)
 | some (d,r4)=>
  rw [zla (toS r3) d r4 l];obtain ⟨x,r,m⟩:=dots_ne (toS r4);rw [m,numC_dot r3 255 (by rw [l];exact fun h=>by cases h)];simp only [Option.map_none];cases numC a 255 with
  | none=>rfl
  | some x=>
  dsimp only;cases numC b 255 with
  | none=>rfl
  | some x=>
  dsimp only;cases numC c 255 with
  | none=>rfl
  | some x=>rfl
theorem zsi:∀ (j v:Nat) (l:List UInt8) (n:Nat),zhp j v l=some n->n<256 ^ (j+1)*(v+1)
 | 0,v,l,n,h=>by
  rw [zhp] at h
  match hn:numC l 255 with
  | none=>rw [hn] at h;cases h
  | some m=>
   rw [hn] at h;have h1:=qaa h;have d:=(zdl hn).2.2;simp only at h1;rw [Nat.pow_succ,Nat.pow_zero];omega
 | j+1,v,l,n,h=>by
  rw [zhp] at h
  match b:cutS 46 l with
  | none=>rw [b] at h;cases h
  | some (a,r)=>
   rw [b] at h;simp only at h
   match hn:numC a 255 with
   | none=>rw [hn] at h;cases h
   | some m=>
    rw [hn] at h;have d:=(zdl hn).2.2;have e:=zsi j _ r n h;refine qce e ?_;rw [show 256 ^ (j+1+1)=256 ^ (j+1)*256 from rfl,Nat.mul_assoc];exact Nat.mul_le_mul_left _ kab
end
section
theorem num_kind (x:ByteArray) (h:(numS x).2.2.2.2.2.2=true):(numS x).1=4\/(numS x).1=5:=by
 unfold numS at h ⊢
 match hn:lex_numbered.f x with
 | none=>rw [hn] at h;cases h
 | some v=>
  rw [hn] at h;show v.1=4\/v.1=5;unfold lex_numbered.f at hn;obtain ⟨c,_,hn⟩:=qba.1 hn;split at hn
  ·obtain ⟨p,_,hn⟩:=qba.1 hn;obtain rfl:=qaa hn;exact .inr rfl
  split at hn
  ·have hn:=qaa hn;split at hn<;>(subst hn;first|exact .inl rfl|exact .inr rfl)
  cases hn
theorem gB1 (b:UInt8):gB 1 b=(zbc (b.toNat:Int)==1):=by unfold gB zev;rw [if_pos rfl]
theorem tok_blank (b:UInt8) (r v:List UInt8) (d:zbc (b.toNat:Int)=1) (hr:∀ x∈r,gB 1 x=true) (e:zmo 1 v=true) :
  tokS (b::(r++v)) = .inr (⟨0,toS (b::r),0,⟨0,0⟩,0⟩,r.length+1):=by
 simp only [tokS];rw [d,if_neg kad,if_neg kad,zrl 1 b r v e hr];rw [show (b::(r++v)).take (b::r).length=b::r from List.take_left (l₁:=b::r) (l₂:=v)];unfold finS;rw [if_neg kad,if_neg kad,if_neg kad,if_neg kad];rfl
theorem scan_blank (w v:List UInt8) (q:Nat) (j:w≠[]) (d:∀ x∈w,zbc (x.toNat:Int)=1) (e:zmo 1 v=true):zhe (w++v) q=zhe v (q+w.length):=by
 match w with
 | []=>exact absurd rfl j
 | b::r=>
  have ht:=tok_blank b r v (d b (by simp)) (fun x l=>by rw [gB1,d x (by simp [l])];rfl) e;rw [List.cons_append,zlm _ q _ _ ht,if_pos rfl,zsj];rw [show (b::(r++v)).drop (r.length+1)=v from List.drop_left (l₁:=b::r) (l₂:=v)];rfl
end
section
def zlp (v p:Nat):Bool:=decide ((v:Int)%2 ^ ((32:Int)-(p:Int)).toNat=0)
def zmp (l:List UInt8):Int×Int×Int:=
 match cutS 47 l with
 | none=>match zhp 3 0 l with
  | none=>(0,0,30)
  | some v=>if zlp v 32=true then ((v:Int),32,0) else (0,0,30)
 | some (a,b)=>match zhp 3 0 a with
  | none=>(0,0,30)
  | some v=>match numC b 32 with
   | none=>(0,0,30)
   | some p=>if zlp v p=true then ((v:Int),(p:Int),0) else (0,0,30)
theorem zos {l:List UInt8} {v:Nat} (h:zhp 3 0 l=some v):v<=4294967295:=by
 have h1:=zsi 3 0 l v h;have b:256 ^ (3+1)*(0+1)=4294967296:=kad;rw [b] at h1;omega
theorem zro (v p:Nat) (b:v<=4294967295) (hp:p<=32):addr_right.f (v:Int) (p:Int)=some (zlp v p):=by
 unfold addr_right.f;rw [if_pos kab];rfl
theorem zki (v p:Nat) (e:v<=4294967295) (hp:p<=32):lychgateref03_Right.f (v:Int) (p:Int)=some (zlp v p):=by
 have hs:∀ q:Fin 33,shl .i64 1 (wrap64 (32-(q.val:Int)))=2 ^ ((32:Int)-(q.val:Int)).toNat/\0<=wrap64 (32-(q.val:Int)):=by decide +kernel
 obtain ⟨h1,b⟩:=hs ⟨p,kab⟩;have h1:shl .i64 1 (wrap64 (32-(p:Int)))=2 ^ ((32:Int)-(p:Int)).toNat:=h1;have b:0<=wrap64 (32-(p:Int)):=b;have d:(0:Int)<2 ^ ((32:Int)-(p:Int)).toNat:=Int.pow_pos kad;unfold lychgateref03_Right.f lychgateref03_Size.f;rw [if_pos kab,if_pos kab,if_pos kab,if_pos kab,if_pos b,h1];simp only [qam];rw [if_neg kab,Int.tmod_eq_emod_of_nonneg kab];refine congrArg some ?_;unfold zlp;rw [Bool.eq_iff_iff,qar,qbw]
theorem cut47 (x:ByteArray) (d:x.size<=8000):strings_Cut.f x ⟨#[47]⟩=some (match cutS 47 (bl x) with|none=>(x,(⟨#[]⟩:ByteArray),false)|some (a,b)=>(toS a,toS b,true)):=by
 unfold strings_Cut.f;rw [if_pos kab];congr 1;have h:=cut_cut 47 (bl x);show (toS (Lib.cut (bl x) [47]).1,toS (Lib.cut (bl x) [47]).2.1,(Lib.cut (bl x) [47]).2.2)=_;rw [h];cases cutS 47 (bl x) with
 | none=>rfl
 | some y=>rfl
theorem prefix_ev (x:ByteArray) (j:x.size<=8000):addr_ParsePrefix.f x=some (zmp (bl x)):=by
 have q:=zbm x;unfold addr_ParsePrefix.f zmp;rw [cut47 x j]
 match m:cutS 47 (bl x) with
 | none=>
  simp only [qam];rw [znr x j];simp only [qam];rw [if_neg kad]
  match e:zhp 3 0 (bl x) with
  | none=>rfl
  | some v=>
   have:=zro v 32 (zos e) kad;have this:addr_right.f (v:Int) 32=some (zlp v 32):=this;simp only [zot,if_true];rw [this];simp only [qam];split<;>rfl
 | some (a,b)=>
  have r:=zia _ _ _ _ m;simp only [qam,if_true];rw [znr (toS a) (by rw [zdk];omega)];obtain ⟨w,h1,d⟩:=zsh (toS b) 32 (by rw [zdk];omega) kad;have h1:addr_number.f (toS b) 32=some (w,(numC b 32).isSome):=h1;have d:∀ n,numC b 32=some n->w=(n:Int):=d;have l:bl (toS a)=a:=rfl;rw [h1,l];simp only [qam]
  match e:zhp 3 0 a with
  | none=>rfl
  | some v=>
   simp only [zot,if_true]
   match hn:numC b 32 with
   | none=>rfl
   | some p=>
    have o:=d p hn;subst o;rw [Option.isSome_some,if_pos rfl,zro v p (zos e) (zdl hn).2.2];simp only [qam];split<;>rfl
theorem zvm (k:Nat) (x p:Int) (b:Bool):lychgateref03_ParsePrefix.j0 (k+2) x 30 p b=some (0,0,30):=by
 simp only [lychgateref03_ParsePrefix.j0];rw [if_neg kad];simp only [lychgateref03_ParsePrefix.j1,if_true]
theorem ref_prefix_ev (x:ByteArray) (l:x.size<=8000) (k:Nat) (hk:9020<=k):lychgateref03_ParsePrefix.f k x=some (zmp (bl x)):=by
 have s:=zbm x;have j:=zrp x l 47 k kab;have j:lychgateref03_cut.f k x 47=_:=j;obtain ⟨k,rfl⟩:∃ m,k=m+2:=⟨k-2,kab⟩;unfold lychgateref03_ParsePrefix.f zmp;rw [j]
 match q:cutS 47 (bl x) with
 | none=>
  simp only [qam];rw [znc x l _ kab];simp only [qam];rw [if_neg kad]
  match e:zhp 3 0 (bl x) with
  | none=>exact zvm k _ _ _
  | some v=>
   have:=zki v 32 (zos e) kad;have this:lychgateref03_Right.f (v:Int) 32=some (zlp v 32):=this;simp only [lychgateref03_ParsePrefix.j0,zot,if_true,lychgateref03_ParsePrefix.j1,Bool.not_true];rw [if_neg kad,this];simp only [qam];split<;>rfl
 | some (a,b)=>
  have u:=zia _ _ _ _ q;simp only [qam,if_true];rw [znc (toS a) (by rw [zdk];omega) _ kab];obtain ⟨w,h1,d⟩:=zny (toS b) 32 kad (k+2) kab;have h1:lychgateref03_number.f (k+2) (toS b) 32=some (w,(numC b 32).isSome):=h1;have d:∀ n,numC b 32=some n->w=(n:Int):=d;have o:bl (toS a)=a:=rfl;rw [h1,o];simp only [qam]
  match e:zhp 3 0 a with
  | none=>exact zvm k _ _ _
  | some v=>
   simp only [lychgateref03_ParsePrefix.j0,zot,if_true]
   match hn:numC b 32 with
   | none=>simp only [Option.isSome_none,Bool.not_false,lychgateref03_ParsePrefix.j1,if_true]
   | some p=>
    have r:=d p hn;subst r;simp only [Option.isSome_some,Bool.not_true,lychgateref03_ParsePrefix.j1];rw [if_neg kad,zki v p (zos e) (zdl hn).2.2];simp only [qam];split<;>rfl
def hasP (l:List UInt8):Bool:=l.any fun b=>decide (b=46)||decide (b=47)
theorem zty:∀ l:List UInt8,Lib.containsAny l [46,47]=hasP l:=by
 have key:∀ l:List UInt8,(0<=Lib.indexAny l [46,47])↔hasP l=true:=by
  intro l;induction l with
  | nil=>decide
  | cons b r j=>
   rw [Lib.indexAny,hasP,List.any_cons];have e:([46,47]:List UInt8).contains b=(decide (b=46)||decide (b=47)):=by
    rw [List.contains_cons,List.contains_cons,List.contains_nil,Bool.or_false];rfl
   have m:=Lib.indexAny_ge [46,47] r;rw [e];cases (decide (b=46)||decide (b=47)) with
   | true=>simp
   | false=>
    rw [if_neg kad,Bool.false_or];show _↔hasP r=true;rw [<-j];by_cases d:Lib.indexAny r [46,47] = -1
    ·rw [d];decide
    rw [if_neg (by simpa using d)];omega
 intro l;unfold Lib.containsAny;rw [Bool.eq_iff_iff,qbw];exact key l
theorem ztv (b:UInt8):((b.toNat:Int)=46)↔b=46:=⟨fun h=>UInt8.toNat_inj.1 (show b.toNat=46 by omega),fun h=>by rw [h];rfl⟩
theorem ztu (b:UInt8):((b.toNat:Int)=47)↔b=47:=⟨fun h=>UInt8.toNat_inj.1 (show b.toNat=47 by omega),fun h=>by rw [h];rfl⟩
theorem ref_numbered_l0 (x:ByteArray) (l:x.size<=8000):∀ (d i k:Nat),i+d=x.size->9020+d+1<=k ->
  lychgateref08_numbered.l0 k x (i:Int)=some (if hasP ((bl x).drop i)=true then (5,(⟨#[]⟩:ByteArray),0,(zmp (bl x)).1,(zmp (bl x)).2.1,0,(zmp (bl x)).2.2==0) else (0,(⟨#[]⟩:ByteArray),0,0,0,0,false)):=by
 have o:=zbm x;intro d;induction d with
 | zero=>
  intro i k hi hk;obtain ⟨k,rfl⟩:∃ m,k=m+1:=⟨k-1,kab⟩;simp only [lychgateref08_numbered.l0];rw [if_neg kab,qaz kab];rfl
 | succ d n=>
  intro i k hi hk;obtain ⟨k,rfl⟩:∃ m,k=m+1:=⟨k-1,kab⟩;have j:i<(bl x).length:=kab;simp only [lychgateref08_numbered.l0];rw [if_pos kab,if_pos kab,zfm x i j,zem _ i j,ref_prefix_ev x l k kab];have hh:hasP ((bl x)[i]::(bl x).drop (i+1))=((decide ((bl x)[i]=46)||decide ((bl x)[i]=47))||hasP ((bl x).drop (i+1))):=List.any_cons;rw [hh];by_cases b:(bl x)[i]=46
  ·rw [if_pos ((ztv _).2 b),qac b];rfl
  rw [if_neg (fun h=>b ((ztv _).1 h)),qak b];by_cases e:(bl x)[i]=47
  ·rw [if_pos ((ztu _).2 e),qac e];rfl
  rw [if_neg (fun h=>e ((ztu _).1 h)),qak e,zct i kab,n (i+1) k kab kab];rfl
theorem digs_of (l:List UInt8) (h:∀ b∈l,gB 5 b=true) (hp:hasP l=false):l.all digB=true:=by
 rw [qbv];intro b j;have h1:zev 5 (b.toNat:Int)=true:=h b j;rw [zol] at h1;have h1:=qbo h1;have d:(decide (b=46)||decide (b=47))=false:=by
  rw [<-Bool.not_eq_true];intro e;have:hasP l=true:=List.any_eq_true.2 ⟨b,j,e⟩;rw [hp] at this;cases this
 rw [Bool.or_eq_false_iff,decide_eq_false_iff_not,decide_eq_false_iff_not] at d;have m:¬(b.toNat:Int)=46:=fun e=>d.1 ((ztv b).1 e);have n:¬(b.toNat:Int)=47:=fun e=>d.2 ((ztu b).1 e);exact qac ⟨kab,kab⟩
theorem has_not (l:List UInt8) (h:hasP l=true) (m:Nat):numC l m=none:=by
 cases hn:numC l m with
 | none=>rfl
 | some n=>
  obtain ⟨b,e,h1⟩:=List.any_eq_true.1 h;have d:=qbv.1 (zdl hn).1.2.1 b e;have d:=qbo d;rw [Bool.or_eq_true,qbw,qbw] at h1;rcases h1 with rfl|rfl
  ·exact absurd d kad
  exact absurd d kad
theorem numS_has (x:ByteArray) (j:x.size<=8000) (d:(bl x).all (fun b=>decide (b.toNat<128))=true) (h:hasP (bl x)=true):numS x=(5,(⟨#[]⟩:ByteArray),0,(zmp (bl x)).1,(zmp (bl x)).2.1,0,(zmp (bl x)).2.2==0):=by
 have e:strings_ContainsAny.f x ⟨#[46,47]⟩=some true:=by
  unfold strings_ContainsAny.f;rw [if_pos ⟨kab,kad,d,kad⟩];have:=zty (bl x);rw [h] at this;exact congrArg some this
 unfold numS lex_numbered.f;rw [e];simp only [qam,if_true];rw [prefix_ev x j];rfl
theorem numS_not (x:ByteArray) (o:x.size<=8000) (j:(bl x).all (fun b=>decide (b.toNat<128))=true) (h:hasP (bl x)=false) (hd:(bl x).all digB=true) :
  (numS x).2.2.2.2.2.2=(numC (bl x) 4294967295).isSome/\∀ n,numC (bl x) 4294967295=some n->numS x=(4,(⟨#[]⟩:ByteArray),(n:Int),0,0,0,true):=by
 have l:strings_ContainsAny.f x ⟨#[46,47]⟩=some false:=by
  unfold strings_ContainsAny.f;rw [if_pos ⟨kab,kad,j,kad⟩];have:=zty (bl x);rw [h] at this;exact congrArg some this
 unfold numS lex_numbered.f;rw [l];simp only [qam];rw [if_neg kad,if_pos kab,zpb];have m:x.data.toList=bl x:=rfl;rw [m];cases d:Lib.atoiAll (bl x);case ok v=>
  have h1:=atoi_dig (bl x) 4294967295 v d kad hd;have e:=(zqx (bl x) 4294967295 v d kad).2;have h1:(decide (v<=4294967295)&&(Lib.itoa v==bl x))=(numC (bl x) 4294967295).isSome:=h1;refine ⟨h1,fun n hn=>?_⟩;have:=e n hn;subst this;show (4,(⟨#[]⟩:ByteArray),(n:Int),0,0,0,(decide ((n:Int)<=4294967295)&&(Lib.itoa (n:Int)==bl x)))=_;rw [h1,hn];rfl
 all_goals
  have:=ztx (bl x) 4294967295 (fun v h=>by rw [d] at h;cases h) kad;rw [this];exact ⟨rfl,fun n hn=>by cases hn⟩
theorem numbered_ev (x:ByteArray) (j:x.size<=8000) (o:0<x.size) (hg:∀ b∈bl x,gB 5 b=true) (k:Nat) (hk:18000<=k) :
  ∃ v,lychgateref08_numbered.f k x=some v/\v.2.2.2.2.2.2=(numS x).2.2.2.2.2.2/\(v.2.2.2.2.2.2=true->v=numS x):=by
 have m:(bl x).all (fun b=>decide (b.toNat<128))=true:=qbv.2 fun b r=>qac (zti b (hg b r));obtain ⟨w,h1,p⟩:=ref8_num x j o k kab;have d:=ref_numbered_l0 x j x.size 0 k kab kab;rw [List.drop_zero] at d;have d:lychgateref08_numbered.l0 k x 0=_:=d;unfold lychgateref08_numbered.f;rw [h1];simp only [qam];cases hp:hasP (bl x) with
 | true=>
  rw [has_not _ hp,Option.isSome_none,if_neg kad,d,hp,if_pos rfl];have:=numS_has x j m hp;exact ⟨_,rfl,by rw [this],fun _=>this.symm⟩
 | false=>
  obtain ⟨l,q⟩:=numS_not x j m hp (digs_of _ hg hp);cases hn:numC (bl x) 4294967295 with
  | none=>
   rw [hn] at l;rw [Option.isSome_none,if_neg kad,d,hp,if_neg kad];exact ⟨_,rfl,l.symm,fun e=>by cases e⟩
  | some n=>
   have s:=p n hn;subst s;have:=q n hn;rw [Option.isSome_some,if_pos rfl];exact ⟨_,rfl,by rw [this],fun _=>this.symm⟩
end
end Go.Proofs.YtjeekocidaogoaaGreatDoor.H
