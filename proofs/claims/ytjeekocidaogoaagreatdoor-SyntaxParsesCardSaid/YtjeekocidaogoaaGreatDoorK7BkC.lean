import Derived.Test.YtjeekocidaogoaaGreatDoorK7PsG
import Derived.Test.YtjeekocidaogoaaGreatDoorProg
import Derived.KernelRfl
import Derived.Deep.LoopGhost
import Derived.Deep.QuietTactic
import Derived.Deep.RegionLaw
import Derived.BigQuiet
set_option linter.unusedVariables false
set_option linter.unusedSimpArgs false
set_option maxRecDepth 100000
set_option maxHeartbeats 8000000
open Go.Proofs.Tryz
namespace Go.Proofs.YtjeekocidaogoaaGreatDoor.H
open Go.RowKit Go.Proofs.YtjeekocidaogoaaGreatDoor.Hand Go.Proofs.YtjeekocidaogoaaGreatDoorW.PrintWords Go.Proofs.YtjeekocidaogoaaGreatDoorW.PrintLast Go.Proofs.YtjeekocidaogoaaGreatDoorW.PrintMore
section
theorem _root_.Go.Proofs.YtjeekocidaogoaaGreatDoor.Hand.Row.drew {W:World} {b ty sz n:Nat} {v:Value} {xs:List Value} (h:Row W b ty sz v n xs):Row W.drew b ty sz v n xs:=h
theorem BkV.drew {W:World} {b B:Nat} {it kd nm sp pr:List Value} {v0 v1 v2 v3 v4:Value} (h:BkV W b B it kd nm sp pr v0 v1 v2 v3 v4):BkV W.drew b B it kd nm sp pr v0 v1 v2 v3 v4:=⟨h.low,h.blk,h.r0,h.r1,h.r2,h.r3,h.r4⟩
theorem zcg {P:Program} {W w:World} {ops:Array Oper} {o:Oper} {a:Act} {Q:Exit->Act->World->Prop} {K:Act->World->Prop} (m:Nat) (p:W.heap.size=m) (b:Nat) (y:Region.wanted o (yielded ops a.tmps)=true) (s x:Operand) (t e:TypeId) (z:Value) (size bytes:Nat)
  (q:o.op = .call { callee := .builtin .append,args:=#[s,x],argTypes:=#[t,t] })
  (ht:P.underlying t=some (.slice e)) (j:(P.info? e).map (fun i=>(i.zero,i.size,i.bytes))=some (some z,size,bytes)) (E:z.cells.size=size) (r:0<size)
  (v:Value) (n:Nat) (xs ys:List Value) (A:w=W.alloc (.cells ys.toArray e)) (hs:a.eval s=v) (B:a.eval x = .slice (some ⟨m,0,none⟩) 1 1) (D:ys.length=size) (h1:∀ u∈ys,u.oneCell'=true)
  (c:Row W b e size v n xs) (d:b<=W.heap.size) (l:n+1<=maxLen) (k:(n+1)*bytes<=140737488355328)
  (h:∀ v1 w1,Row w1 b e size v1 (n+1) (xs++ys)->W.grownBy w1 v.ownBlock->(v1.ownBlock=v.ownBlock\/v1.ownBlock=some (W.heap.size+1))->v1.ownBlock≠none->K (a.put o.dst v1) w1) :
  if Region.wanted o (yielded ops a.tmps)=true then Oper.wp P o a w K Q else K (a.put o.dst undef) w:=by
 subst p;subst A;exact zch b y s x t e z size bytes q ht j E r v n xs ys hs B D h1 c d l k h
theorem zgl {W W1 w0:World} {b B k ty n:Nat} {v u:Value} {xs:List Value} (e:Row W b ty 1 v n xs) (hg:W.grownBy W1 v.ownBlock) (i:b<=W.heap.size) (c:Below b w0 W) (d:b<=B):Below b w0 (W1.setCell ⟨B,k,none⟩ u):=
 ((Fr.of_grown (S:=fun k=>v.ownBlock=some k) hg (fun k hk=>hk)).below (fun k hk=>(e.blk hk).1) i c).setCell d u
structure CSt (W:World) (b B tb:Nat) (it kd nm sp pr:List Value) (v0 v1 v2 v3 v4:Value) (cs:List Value) (wx:World):Prop where
 bk:BkV wx b B it kd nm sp pr v0 v1 v2 v3 v4
 box:wx.heap[W.heap.size]?=some (.cells cs.toArray tb (0,0))
 tfr:TFr W wx zco
 bel:Below b W wx
 sz:b<=wx.heap.size
theorem CSt.push0 {W wx w1:World} {b B tb:Nat} {it kd nm sp pr:List Value} {v0 v1 v2 v3 v4 u X:Value} {cs:List Value} (h:CSt W b B tb it kd nm sp pr v0 v1 v2 v3 v4 cs wx) (d:Row w1 b 34 1 u (it.length+1) (it++[X])) (hg:wx.drew.grownBy w1 v0.ownBlock) (e:tb∉zco) :
  CSt W b B tb (it++[X]) kd nm sp pr u v1 v2 v3 v4 cs (w1.setCell ⟨B,0,none⟩ u):=by
 obtain ⟨h1,c⟩:=h.bk.drew.push0 d hg;exact ⟨h1,c.blk (show wx.drew.heap[W.heap.size]?=_ from h.box) e,(h.tfr.drewN 1).trans c,zgl (k:=0) h.bk.drew.r0 hg h.sz (Below.drew h.bel) h.bk.low,qas h.sz (show wx.heap.size<=_ from c.size)⟩
theorem CSt.store0 {W wx w1:World} {b B tb:Nat} {it kd nm sp pr:List Value} {v0 v1 v2 v3 v4:Value} {cs:List Value} (h:CSt W b B tb it kd nm sp pr v0 v1 v2 v3 v4 cs wx) (hg:wx.drew.grownBy w1 v0.ownBlock):w1.cell? ⟨B,0,none⟩=some v0/\w1.frozen? ⟨B,0,none⟩=false:=by
 have h1:=(TFr.of_grown h.bk.drew.r0 hg).blk h.bk.drew.blk kad;exact ⟨zab h1 0,zac h1 0⟩
theorem CSt.push1 {W wx w1:World} {b B tb:Nat} {it kd nm sp pr:List Value} {v0 v1 v2 v3 v4 u X:Value} {cs:List Value} (h:CSt W b B tb it kd nm sp pr v0 v1 v2 v3 v4 cs wx) (d:Row w1 b 58 1 u (kd.length+1) (kd++[X])) (hg:wx.drew.grownBy w1 v1.ownBlock) (e:tb∉zco) :
  CSt W b B tb it (kd++[X]) nm sp pr v0 u v2 v3 v4 cs (w1.setCell ⟨B,1,none⟩ u):=by
 obtain ⟨h1,c⟩:=h.bk.drew.push1 d hg;exact ⟨h1,c.blk (show wx.drew.heap[W.heap.size]?=_ from h.box) e,(h.tfr.drewN 1).trans c,zgl (k:=1) h.bk.drew.r1 hg h.sz (Below.drew h.bel) h.bk.low,qas h.sz (show wx.heap.size<=_ from c.size)⟩
theorem CSt.store1 {W wx w1:World} {b B tb:Nat} {it kd nm sp pr:List Value} {v0 v1 v2 v3 v4:Value} {cs:List Value} (h:CSt W b B tb it kd nm sp pr v0 v1 v2 v3 v4 cs wx) (hg:wx.drew.grownBy w1 v1.ownBlock):w1.cell? ⟨B,1,none⟩=some v1/\w1.frozen? ⟨B,1,none⟩=false:=by
 have h1:=(TFr.of_grown h.bk.drew.r1 hg).blk h.bk.drew.blk kad;exact ⟨zab h1 1,zac h1 1⟩
theorem CSt.push2 {W wx w1:World} {b B tb:Nat} {it kd nm sp pr:List Value} {v0 v1 v2 v3 v4 u X:Value} {cs:List Value} (h:CSt W b B tb it kd nm sp pr v0 v1 v2 v3 v4 cs wx) (d:Row w1 b 25 1 u (nm.length+1) (nm++[X])) (hg:wx.drew.grownBy w1 v2.ownBlock) (e:tb∉zco) :
  CSt W b B tb it kd (nm++[X]) sp pr v0 v1 u v3 v4 cs (w1.setCell ⟨B,2,none⟩ u):=by
 obtain ⟨h1,c⟩:=h.bk.drew.push2 d hg;exact ⟨h1,c.blk (show wx.drew.heap[W.heap.size]?=_ from h.box) e,(h.tfr.drewN 1).trans c,zgl (k:=2) h.bk.drew.r2 hg h.sz (Below.drew h.bel) h.bk.low,qas h.sz (show wx.heap.size<=_ from c.size)⟩
theorem CSt.store2 {W wx w1:World} {b B tb:Nat} {it kd nm sp pr:List Value} {v0 v1 v2 v3 v4:Value} {cs:List Value} (h:CSt W b B tb it kd nm sp pr v0 v1 v2 v3 v4 cs wx) (hg:wx.drew.grownBy w1 v2.ownBlock):w1.cell? ⟨B,2,none⟩=some v2/\w1.frozen? ⟨B,2,none⟩=false:=by
 have h1:=(TFr.of_grown h.bk.drew.r2 hg).blk h.bk.drew.blk kad;exact ⟨zab h1 2,zac h1 2⟩
theorem CSt.push3 {W wx w1:World} {b B tb:Nat} {it kd nm sp pr:List Value} {v0 v1 v2 v3 v4 u X:Value} {cs:List Value} (h:CSt W b B tb it kd nm sp pr v0 v1 v2 v3 v4 cs wx) (d:Row w1 b 57 1 u (sp.length+1) (sp++[X])) (hg:wx.drew.grownBy w1 v3.ownBlock) (e:tb∉zco) :
  CSt W b B tb it kd nm (sp++[X]) pr v0 v1 v2 u v4 cs (w1.setCell ⟨B,3,none⟩ u):=by
 obtain ⟨h1,c⟩:=h.bk.drew.push3 d hg;exact ⟨h1,c.blk (show wx.drew.heap[W.heap.size]?=_ from h.box) e,(h.tfr.drewN 1).trans c,zgl (k:=3) h.bk.drew.r3 hg h.sz (Below.drew h.bel) h.bk.low,qas h.sz (show wx.heap.size<=_ from c.size)⟩
theorem CSt.store3 {W wx w1:World} {b B tb:Nat} {it kd nm sp pr:List Value} {v0 v1 v2 v3 v4:Value} {cs:List Value} (h:CSt W b B tb it kd nm sp pr v0 v1 v2 v3 v4 cs wx) (hg:wx.drew.grownBy w1 v3.ownBlock):w1.cell? ⟨B,3,none⟩=some v3/\w1.frozen? ⟨B,3,none⟩=false:=by
 have h1:=(TFr.of_grown h.bk.drew.r3 hg).blk h.bk.drew.blk kad;exact ⟨zab h1 3,zac h1 3⟩
theorem CSt.push4 {W wx w1:World} {b B tb:Nat} {it kd nm sp pr:List Value} {v0 v1 v2 v3 v4 u X:Value} {cs:List Value} (h:CSt W b B tb it kd nm sp pr v0 v1 v2 v3 v4 cs wx) (d:Row w1 b 56 1 u (pr.length+1) (pr++[X])) (hg:wx.drew.grownBy w1 v4.ownBlock) (e:tb∉zco) :
  CSt W b B tb it kd nm sp (pr++[X]) v0 v1 v2 v3 u cs (w1.setCell ⟨B,4,none⟩ u):=by
 obtain ⟨h1,c⟩:=h.bk.drew.push4 d hg;exact ⟨h1,c.blk (show wx.drew.heap[W.heap.size]?=_ from h.box) e,(h.tfr.drewN 1).trans c,zgl (k:=4) h.bk.drew.r4 hg h.sz (Below.drew h.bel) h.bk.low,qas h.sz (show wx.heap.size<=_ from c.size)⟩
theorem CSt.store4 {W wx w1:World} {b B tb:Nat} {it kd nm sp pr:List Value} {v0 v1 v2 v3 v4:Value} {cs:List Value} (h:CSt W b B tb it kd nm sp pr v0 v1 v2 v3 v4 cs wx) (hg:wx.drew.grownBy w1 v4.ownBlock):w1.cell? ⟨B,4,none⟩=some v4/\w1.frozen? ⟨B,4,none⟩=false:=by
 have h1:=(TFr.of_grown h.bk.drew.r4 hg).blk h.bk.drew.blk kad;exact ⟨zab h1 4,zac h1 4⟩
structure CInv (W:World) (b b1 B:Nat) (it kd nm sp pr:List Value) (x:S60) (cs cells:List Value) (Lh L:List Nat) (i:Nat) (wr:World):Prop where
 bel:Below b W wr
 tfr:TFr W wr zco
 box:wr.heap[W.heap.size]?=some (.cells cs.toArray 60 (0,0))
 part:∃ kd' nm' sp' pr' L1 L2,BkS wr b B it (kd++kd') (nm++nm') (sp++sp') (pr++pr')/\New wr b1 (1+wtL (x.f6.take i)) (wt x) (Lh++L1) kd' nm' sp' pr'/\Forest W b1 (x.f6.drop i) (cells.drop (i*8)) L2/\L=Lh++(L1++L2)
theorem zfn:∀ (l:List S60) (i:Nat) (c:S60),l[i]?=some c->wtL (l.take (i+1))=wtL (l.take i)+wt c
 | [],i,c,h=>by simp at h
 | a::l,0,c,h=>by
  obtain rfl:a=c:=by simpa using h
  simp [wtL]
 | a::l,i+1,c,h=>by
  rw [qby,wtL,qby,wtL,zfn l i c (by simpa using h)];omega
theorem zgr:∀ (l:List S60) (i:Nat),wtL (l.take i)<=wtL l
 | [],i=>by simp
 | a::l,0=>by simp [wtL]
 | a::l,i+1=>by
  rw [qby,wtL,wtL];have:=zgr l i;omega
theorem CInv.next {W w1 k:World} {b b1 B:Nat} {it kd nm sp pr kd' nm' sp' pr':List Value} {x c:S60} {cs cells:List Value} {Lh L L1 M N:List Nat} {i:Nat} (ag:Below b W w1) (s:TFr W w1 zco) (p:w1.heap[W.heap.size]?=some (.cells cs.toArray 60 (0,0)))
  (j:x.f6[i]?=some c) (r:New w1 b1 (1+wtL (x.f6.take i)) (wt x) (Lh++L1) kd' nm' sp' pr') (hf:Forest W b1 (x.f6.drop (i+1)) (cells.drop ((i+1)*8)) N) (o:L=Lh++(L1++(M++N)))
  (n:zuj w1 b b1 B it (kd++kd') (nm++nm') (sp++sp') (pr++pr') (wt c) (wt c) M k):CInv W b b1 B it kd nm sp pr x cs cells Lh L (i+1) k:=by
 obtain ⟨h1,d,u,w,z,y,l,m⟩:=n;have q:wt c<=wt x:=by
  have e:=zfn x.f6 i c j;have A:=zgr x.f6 (i+1);rw [znt x];omega
 refine ⟨ag.trans h1,s.trans d,d.blk p kad,kd'++u,nm'++w,sp'++z,pr'++y,L1++M,N,by simpa only [qbl] using l,?_,hf,by rw [o];simp only [qbl]⟩;have e:=(r.tfr d kad).append (m.mono (qad _) q (List.Sublist.refl _));rw [zfn x.f6 i c j,<-Nat.add_assoc,<-qbl];exact e
theorem Tree.tfr {W W1:World} {b:Nat} {ts:List Nat} {x:S60} {cs:List Value} {L:List Nat} (h:Tree W b x cs L) (hf:TFr W W1 ts) (ht:∀ t∈[60,9,68,47],t∉ts):Tree W1 b x cs L:=by
 refine Tree.rec (motive_1:=fun c cs L _=>Tree W1 b c cs L) (motive_2:=fun l cs L _=>Forest W1 b l cs L) ?_ ?_ ?_ h
 ·intro _ _ _ _ _ _ _ hp hs hn hk _ d;exact .mk (hp.tfr hf (ht _ (by simp))) (hs.tfr hf (ht _ (by simp))) (hn.tfr hf (ht _ (by simp))) (hk.tfr hf (ht _ (by simp))) d
 ·exact .nil
 intro _ _ _ _ _ _ _ _ e i;exact .cons e i
theorem CInv.start {W wx:World} {b b1 B e i d c:Nat} {it kd nm sp pr:List Value} {v0 v1 v2 v3 v4 vp vs vn vk:Value} {x:S60} {cs cells n xs m:List Value} {M:List Nat}
  (h:CSt W b B 60 it (kd++[vk]) (nm++[vn]) (sp++[vs]) (pr++[vp]) v0 v1 v2 v3 v4 cs wx)
  (hp:Row W b1 47 2 vp e n) (hs:Row W b1 68 2 vs i xs) (hn:Row W b1 9 1 vn d m) (hk:Row W b1 60 8 vk c cells) (hf:Forest W b1 x.f6 cells M)
  (h1:e<=wt x) (j:i<=wt x) (k:d<=wt x) (l:c<=wt x):CInv W b b1 B it kd nm sp pr x cs cells (Blk vp++Blk vs++Blk vn++Blk vk) (Blk vp++Blk vs++Blk vn++Blk vk++M) 0 wx:=by
 refine ⟨h.bel,h.tfr,h.box,[vk],[vn],[vs],[vp],[],M,⟨_,_,_,_,_,h.bk⟩,?_,by simpa using hf,by simp⟩;have:=New.head (hp.tfr h.tfr kad) (hs.tfr h.tfr kad) (hn.tfr h.tfr kad) (hk.tfr h.tfr kad) h1 j k l;exact this.mono (by simp) (qad _) (by simp)
theorem CInv.done {W wr:World} {b b1 B:Nat} {it kd nm sp pr:List Value} {x:S60} {cs cells:List Value} {Lh L:List Nat} {i:Nat} (h:CInv W b b1 B it kd nm sp pr x cs cells Lh L i wr):zuj W b b1 B it kd nm sp pr (wt x) (wt x) L wr:=by
 obtain ⟨kd',nm',sp',pr',L1,L2,h1,c,e,d⟩:=h.part;have j:=zgr x.f6 i;have k:=znt x;exact ⟨h.bel,h.tfr,kd',nm',sp',pr',h1,c.mono kab (qad _) (by rw [d,<-qbl];exact qcg _ _)⟩
theorem CInv.part_at {W wr:World} {b b1 B n:Nat} {it kd nm sp pr:List Value} {x:S60} {cs cells:List Value} {Lh L:List Nat} {i:Nat} {A:Option Addr} {w:Nat} (h:CInv W b b1 B it kd nm sp pr x cs cells Lh L i wr) (hi:i<x.f6.length) (hk:Row W b1 60 8 (.slice A x.f6.length w) x.f6.length cells)
  (hn:wt x<=n+1) (hl:kd.length+wt x<=100000) (l2:nm.length=kd.length) (l3:sp.length=kd.length) (l4:pr.length=kd.length) (E:b<=W.heap.size)
  (J:∀ (x:S60) (cs:List Value) (L:List Nat) (W:World) (b b1 B:Nat) (it kd nm sp pr:List Value),wt x<=n->Tree W b1 x cs L->BkS W b B it kd nm sp pr->b<=W.heap.size->kd.length+wt x<=100000->nm.length=kd.length->sp.length=kd.length->pr.length=kd.length ->
   Calls prog 36 #[.pointer (some ⟨B,0,none⟩),.agg cs.toArray] W fun e W'=>e = .returned (.tuple #[])/\zuj W b b1 B it kd nm sp pr (wt x) (wt x) L W') :
  ∃ (g:Nat) (c:S60) (k l m o:Value),A=some ⟨g,0,none⟩/\(wr.cell? ⟨g,i*8,none⟩=some (.int .i64 c.f0)/\wr.cell? ⟨g,i*8+1,none⟩=some (.string c.f1)/\wr.cell? ⟨g,i*8+2,none⟩=some (.string c.f2)/\wr.cell? ⟨g,i*8+3,none⟩=some k/\wr.cell? ⟨g,i*8+4,none⟩=some l/\wr.cell? ⟨g,i*8+5,none⟩=some m/\wr.cell? ⟨g,i*8+6,none⟩=some o/\wr.cell? ⟨g,i*8+7,none⟩=some (.int .i64 c.f7)) /\
   Calls prog 36 #[.pointer (some ⟨B,0,none⟩),.agg #[.int .i64 c.f0,.string c.f1,.string c.f2,k,l,m,o,.int .i64 c.f7]] wr fun e W'=>e = .returned (.tuple #[])/\CInv W b b1 B it kd nm sp pr x cs cells Lh L (i+1) W':=by
 obtain ⟨kd',nm',sp',pr',L1,L2,h1,j,y,z⟩:=h.part;obtain ⟨c,ds,M,N,q,s,O,U,rfl⟩:=y.step hi;have p:=hk.tfr h.tfr kad;obtain ⟨A',c',hf,-,hg⟩:=p.form;injection hf with G ad af;subst G;obtain ⟨g,cur,rfl,I,-⟩:=hg kab;obtain ⟨k,l,m,o,Y,X,rfl,Z,-⟩:=s.open_;have d:∀ r u,r<8->[Value.int .i64 c.f0,.string c.f1,.string c.f2,k,l,m,o,.int .i64 c.f7][r]?=some u->wr.cell? ⟨g,i*8+r,none⟩=some u:=fun r u hr hu=>p.cell I _ u ((O r hr).trans hu);have hw:=zfn x.f6 i c q;have a1:=zgr x.f6 (i+1);have hx:=znt x;have a6:=j.len;refine ⟨g,c,k,l,m,o,rfl,⟨d 0 _ kad rfl,d 1 _ kad rfl,d 2 _ kad rfl,d 3 _ kad rfl,d 4 _ kad rfl,d 5 _ kad rfl,d 6 _ kad rfl,d 7 _ kad rfl⟩,?_⟩;refine (J c _ M wr b b1 B it (kd++kd') (nm++nm') (sp++sp') (pr++pr') kab (s.tfr h.tfr kad) h1 (qas E h.bel.size) (by rw [qal];omega) (by rw [qal,qal,l2,j.l2]) (by rw [qal,qal,l3,j.l3]) (by rw [qal,qal,l4,j.l4])).mono ?_;rintro e w' ⟨rfl,D⟩;exact ⟨rfl,CInv.next h.bel h.tfr h.box q j U z D⟩
theorem cond_calls:∀ (n:Nat) (x:S60) (cs:List Value) (L:List Nat) (W:World) (b b1 B:Nat) (it kd nm sp pr:List Value),wt x<=n->Tree W b1 x cs L->BkS W b B it kd nm sp pr->b<=W.heap.size->kd.length+wt x<=100000->nm.length=kd.length->sp.length=kd.length->pr.length=kd.length ->
  Calls prog 36 #[.pointer (some ⟨B,0,none⟩),.agg cs.toArray] W fun e W'=>e = .returned (.tuple #[])/\zuj W b b1 B it kd nm sp pr (wt x) (wt x) L W':=by
 intro n;induction n with
 | zero=>intro x cs L W b b1 B it kd nm sp pr h;have:=zrc x;omega
 | succ n ih=>
  intro x cs L W b b1 B it kd nm sp pr hn ht hB X hl l2 l3 l4;obtain ⟨vp,vs,vn,vk,cells,M,rfl,rfl,hp,hs,O,hk,hf⟩:=ht.open_;obtain ⟨v0,v1,v2,v3,v4,hV⟩:=hB;have Y:=znt x;have Z:=zjr x.f6;obtain ⟨d,j,rfl,aC,aA⟩:=hk.form;obtain ⟨m,p,rfl,-,-⟩:=hs.form;obtain ⟨q,w,rfl,-,-⟩:=hp.form;obtain ⟨k,l,rfl,-,-⟩:=O.form;have ae:=zq (show CSt W b B 60 it kd nm sp pr v0 v1 v2 v3 v4 [.int .i64 x.f0,.string x.f1,.string x.f2,.slice q x.f3.length w,.slice m x.f4.length p,.slice k x.f5.length l,.slice d x.f6.length j,.int .i64 x.f7] (W.alloc (.cells ([.int .i64 x.f0,.string x.f1,.string x.f2,.slice q x.f3.length w,.slice m x.f4.length p,.slice k x.f5.length l,.slice d x.f6.length j,.int .i64 x.f7]:List Value).toArray 60)) from
   ⟨hV.tfr ((TFr.refl W []).alloc _) (fun t _=>by simp),qab W _,(TFr.refl W zco).alloc _,(qan b W).alloc X _,kax⟩)
  have r:=zq (And.intro l2 (And.intro l3 l4));have HT:=zq (And.intro hp (And.intro hs (And.intro O (And.intro hk hf))));have U:=zq (And.intro Y (And.intro hn (And.intro Z X)));clear aA hV ht l2 l3 l4 hp hs O hk hf Y hn Z X;go_enter func36,ntmps36;go_upto_region 1 with fail;obtain ⟨A1,c1,e1,-,-⟩:=ae.o.bk.r1.form;subst e1;have u:=zab ae.o.bk.blk 1;have s:=fun o=>zab (zaf ae.o.bk.blk o) 1;have D:=zab ae.o.box 6;simp only [qaj,qag,qaw] at u s D
  go_cut [3] (fun c wx=>c = .pointer (some ⟨W.heap.size,0,none⟩)/\∃ z,Zq (CSt W b B 60 it (kd++[.slice d x.f6.length j]) nm sp pr v0 z v2 v3 v4 [.int .i64 x.f0,.string x.f1,.string x.f2,.slice q x.f3.length w,.slice m x.f4.length p,.slice k x.f5.length l,.slice d x.f6.length j,.int .i64 x.f7] wx))
  case first=>
   go_region_law (refine zcg (W:=(W.alloc (.cells #[.int .i64 x.f0,.string x.f1,.string x.f2,.slice q x.f3.length w,.slice m x.f4.length p,.slice k x.f5.length l,.slice d x.f6.length j,.int .i64 x.f7] 60)).drew) (W.heap.size+1) (by simp) b (by rfl) (.tmp 9) (.tmp 12) 28 58 (.slice none 0 0) 1 24 rfl rfl rfl rfl kad (.slice A1 kd.length c1) kd.length kd [.slice d x.f6.length j] rfl rfl rfl rfl ?aU ae.o.bk.r1.drew ae.o.sz ?aM ?aL ?_;(case aU=>intro y A;simp at A;subst A;rfl);(case aM=>have:=r.o;simp only [maxLen];omega);(case aL=>have:=r.o;omega);intro z w1 hr hg I J;obtain ⟨Au,cu,rfl,-,-⟩:=hr.form;obtain ⟨g0,g1⟩:=ae.o.store1 hg;have HX:=zq (ae.o.push1 hr hg kad);clear hr hg I J);all_goals (go_wp2_with fail;go_meet;exact ⟨rfl,_,HX⟩)
  obtain ⟨rfl,z1,ab⟩:=hcut;clear u s D ae;go_upto_region 2 with fail;obtain ⟨A2,c2,e2,-,-⟩:=ab.o.bk.r2.form;subst e2;have u:=zab ab.o.bk.blk 2;have s:=fun o=>zab (zaf ab.o.bk.blk o) 2;have D:=zab ab.o.box 5;simp only [qaj,qag,qaw] at u s D
  go_cut [3] (fun c wx=>c = .pointer (some ⟨W.heap.size,0,none⟩)/\∃ z,Zq (CSt W b B 60 it (kd++[.slice d x.f6.length j]) (nm++[.slice k x.f5.length l]) sp pr v0 z1 z v3 v4 [.int .i64 x.f0,.string x.f1,.string x.f2,.slice q x.f3.length w,.slice m x.f4.length p,.slice k x.f5.length l,.slice d x.f6.length j,.int .i64 x.f7] wx))
  case first=>
   go_region_law (refine zcg (W:=wc.drew) (wc.heap.size) (by simp) b (by rfl) (.tmp 20) (.tmp 23) 29 25 (.slice none 0 0) 1 24 rfl rfl rfl rfl kad (.slice A2 nm.length c2) nm.length nm [.slice k x.f5.length l] rfl rfl rfl rfl ?aU ab.o.bk.r2.drew ab.o.sz ?aM ?aL ?_;(case aU=>intro y A;simp at A;subst A;rfl);(case aM=>have:=r.o;simp only [maxLen];omega);(case aL=>have:=r.o;omega);intro z w1 hr hg I J;obtain ⟨Au,cu,rfl,-,-⟩:=hr.form;obtain ⟨g0,g1⟩:=ab.o.store2 hg;have HX:=zq (ab.o.push2 hr hg kad);clear hr hg I J);all_goals (go_wp2_with fail;go_meet;exact ⟨rfl,_,HX⟩)
  obtain ⟨rfl,z2,E⟩:=hcut;clear u s D ab;go_upto_region 3 with fail;obtain ⟨A3,c3,e3,-,-⟩:=E.o.bk.r3.form;subst e3;have u:=zab E.o.bk.blk 3;have s:=fun o=>zab (zaf E.o.bk.blk o) 3;have D:=zab E.o.box 4;simp only [qaj,qag,qaw] at u s D
  go_cut [3] (fun c wx=>c = .pointer (some ⟨W.heap.size,0,none⟩)/\∃ z,Zq (CSt W b B 60 it (kd++[.slice d x.f6.length j]) (nm++[.slice k x.f5.length l]) (sp++[.slice m x.f4.length p]) pr v0 z1 z2 z v4 [.int .i64 x.f0,.string x.f1,.string x.f2,.slice q x.f3.length w,.slice m x.f4.length p,.slice k x.f5.length l,.slice d x.f6.length j,.int .i64 x.f7] wx))
  case first=>
   go_region_law (refine zcg (W:=wc.drew) (wc.heap.size) (by simp) b (by rfl) (.tmp 31) (.tmp 34) 30 57 (.slice none 0 0) 1 24 rfl rfl rfl rfl kad (.slice A3 sp.length c3) sp.length sp [.slice m x.f4.length p] rfl rfl rfl rfl ?aU E.o.bk.r3.drew E.o.sz ?aM ?aL ?_;(case aU=>intro y A;simp at A;subst A;rfl);(case aM=>have:=r.o;simp only [maxLen];omega);(case aL=>have:=r.o;omega);intro z w1 hr hg I J;obtain ⟨Au,cu,rfl,-,-⟩:=hr.form;obtain ⟨g0,g1⟩:=E.o.store3 hg;have HX:=zq (E.o.push3 hr hg kad);clear hr hg I J);all_goals (go_wp2_with fail;go_meet;exact ⟨rfl,_,HX⟩)
  obtain ⟨rfl,z3,G⟩:=hcut;clear u s D E;go_upto_region 4 with fail;obtain ⟨A4,c4,e4,-,-⟩:=G.o.bk.r4.form;subst e4;have u:=zab G.o.bk.blk 4;have s:=fun o=>zab (zaf G.o.bk.blk o) 4;have D:=zab G.o.box 3;simp only [qaj,qag,qaw] at u s D
  go_cut [3] (fun c wx=>c = .pointer (some ⟨W.heap.size,0,none⟩)/\∃ z,Zq (CSt W b B 60 it (kd++[.slice d x.f6.length j]) (nm++[.slice k x.f5.length l]) (sp++[.slice m x.f4.length p]) (pr++[.slice q x.f3.length w]) v0 z1 z2 z3 z [.int .i64 x.f0,.string x.f1,.string x.f2,.slice q x.f3.length w,.slice m x.f4.length p,.slice k x.f5.length l,.slice d x.f6.length j,.int .i64 x.f7] wx))
  case first=>
   go_region_law (refine zcg (W:=wc.drew) (wc.heap.size) (by simp) b (by rfl) (.tmp 42) (.tmp 45) 31 56 (.slice none 0 0) 1 24 rfl rfl rfl rfl kad (.slice A4 pr.length c4) pr.length pr [.slice q x.f3.length w] rfl rfl rfl rfl ?aU G.o.bk.r4.drew G.o.sz ?aM ?aL ?_;(case aU=>intro y A;simp at A;subst A;rfl);(case aM=>have:=r.o;simp only [maxLen];omega);(case aL=>have:=r.o;omega);intro z w1 hr hg I J;obtain ⟨Au,cu,rfl,-,-⟩:=hr.form;obtain ⟨g0,g1⟩:=G.o.store4 hg;have HX:=zq (G.o.push4 hr hg kad);clear hr hg I J);all_goals (go_wp2_with fail;go_meet;exact ⟨rfl,_,HX⟩)
  obtain ⟨rfl,z4,af⟩:=hcut;clear u s D G;obtain ⟨hp,hs,O,hk,hf⟩:=HT.o;obtain ⟨Y,hn,Z,X⟩:=U.o;have ad:=zq (CInv.start (x:=x) af.o hp hs O hk hf kab kab kab kab);have HK:=zq hk;have a7:=zq ih;clear af hp hs O hk hf Y hn Z X HT ih;go_upto_region 6 with fail;generalize a8:Blk (.slice q x.f3.length w)++Blk (.slice m x.f4.length p)++Blk (.slice k x.f5.length l)++Blk (.slice d x.f6.length j)=Lh at ad ⊢;go_loopg [4] (x.f6.length+1) (fun f iv wr=>∃ i:Nat,iv = .int .i64 i/\i<=x.f6.length/\x.f6.length-i<f/\Zq (CInv W b b1 B it kd nm sp pr x [.int .i64 x.f0,.string x.f1,.string x.f2,.slice q x.f3.length w,.slice m x.f4.length p,.slice k x.f5.length l,.slice d x.f6.length j,.int .i64 x.f7] cells Lh (Lh++M) i wr));case atStart=>exact ⟨0,rfl,qbx _,kab,ad⟩
  case round=>
   clear ad;obtain ⟨i,rfl,aF,aD,HI⟩:=hrel;have y6:=zab HI.o.box 6;simp only [qaj,qag,qaw] at y6;obtain ⟨f,rfl⟩:∃ f',gk=f'+1:=⟨gk-1,kab⟩;by_cases aB:i<x.f6.length
   ·obtain ⟨g,c,q3,q4,q5,q6,rfl,⟨d0,d1,d2,d3,d4,d5,d6,d7⟩,hC⟩:=HI.o.part_at aB HK.o U.o.2.1 hl r.o.1 r.o.2.1 r.o.2.2 U.o.2.2.2 a7.o;have HC:=zq hC;have aE:x.f6.length<=100000:=(by have:=U.o.1;have:=U.o.2.2.1;omega);clear hC;go_wp2_with (go_at_call 36;refine HC.o.mono ?_;rintro e2 w2 ⟨rfl,a1⟩;have a6:=zq a1;clear a1)
    go_roundg f
    case measure=>omega
    case rel=>exact ⟨i+1,by first|rfl|(congr 1;unfold wrap64;omega),kab,kab,a6⟩
   go_wp2;(first|go_end0|(refine qaf (qbb rfl _ _ _) rfl ?_));exact ⟨rfl,a8 ▸ HI.o.done⟩
end
section
def PolB (W:World) (b b1 B:Nat) (it kd nm sp pr:List Value) (v:Value) (w:Nat) (L:List Nat) (W':World):Prop:=
 Below b W W'/\TFr W W' zco/\∃ kd' nm' sp' pr',BkS W' b B (it++[v]) (kd++kd') (nm++nm') (sp++sp') (pr++pr')/\New W' b1 w w L kd' nm' sp' pr'
theorem ziy:∀ (l:List S62) (i:Nat) (c:S62),l[i]?=some c->wtI (l.take (i+1))=wtI (l.take i)+(1+wt c.f2)
 | [],i,c,h=>by simp at h
 | a::l,0,c,h=>by
  obtain rfl:a=c:=by simpa using h
  simp [wtI]
 | a::l,i+1,c,h=>by
  rw [qby,wtI,qby,wtI,ziy l i c (by simpa using h)];omega
theorem zij:∀ (l:List S62) (i:Nat),wtI (l.take i)<=wtI l
 | [],i=>by simp
 | a::l,0=>by simp [wtI]
 | a::l,i+1=>by
  rw [qby,wtI,wtI];have:=zij l i;omega
structure TInv (W:World) (b b1 B:Nat) (it kd nm sp pr:List Value) (l:List S62) (v:Value) (cells:List Value) (L:List Nat) (i:Nat) (wr:World):Prop where
 bel:Below b W wr
 tfr:TFr W wr zco
 box:wr.heap[W.heap.size]?=some (.cells #[v] 36 (0,0))
 part:∃ kd' nm' sp' pr' L1 L2,BkS wr b B (it++[v]) (kd++kd') (nm++nm') (sp++sp') (pr++pr')/\New wr b1 (wtI (l.take i)) (wtI l) L1 kd' nm' sp' pr'/\zex W b1 (l.drop i) (cells.drop (i*11)) L2/\L=L1++L2
theorem TInv.start {W wx:World} {b b1 B:Nat} {it kd nm sp pr:List Value} {v0 v1 v2 v3 v4 v:Value} {l:List S62} {cells:List Value} {L:List Nat}
  (h:CSt W b B 36 (it++[v]) kd nm sp pr v0 v1 v2 v3 v4 [v] wx) (hf:zex W b1 l cells L):TInv W b b1 B it kd nm sp pr l v cells L 0 wx:=
 ⟨h.bel,h.tfr,h.box,[],[],[],[],[],L,⟨v0,v1,v2,v3,v4,by simpa using h.bk⟩,New.nil _ _ _ _ _,by simpa using hf,by simp⟩
theorem TInv.done {W wr:World} {b b1 B:Nat} {it kd nm sp pr:List Value} {l:List S62} {v:Value} {cells:List Value} {L:List Nat} {i:Nat} (h:TInv W b b1 B it kd nm sp pr l v cells L i wr):PolB W b b1 B it kd nm sp pr v (wtI l) L wr:=by
 obtain ⟨kd',nm',sp',pr',L1,L2,h1,c,e,d⟩:=h.part;have j:=zij l i;exact ⟨h.bel,h.tfr,kd',nm',sp',pr',h1,c.mono kab (qad _) (by rw [d];exact qcg _ _)⟩
theorem TInv.part_at {W wr:World} {b b1 B:Nat} {it kd nm sp pr:List Value} {l:List S62} {cells:List Value} {L:List Nat} {i:Nat} {A:Option Addr} {p:Nat} (h:TInv W b b1 B it kd nm sp pr l (.slice A l.length p) cells L i wr) (hi:i<l.length) (hk:Row W b1 62 11 (.slice A l.length p) l.length cells)
  (hl:kd.length+wtI l<=100000) (l2:nm.length=kd.length) (l3:sp.length=kd.length) (l4:pr.length=kd.length) (J:b<=W.heap.size) :
  ∃ (g:Nat) (c:S60) (k m n o:Value),A=some ⟨g,0,none⟩/\(wr.cell? ⟨g,i*11+2,none⟩=some (.int .i64 c.f0)/\wr.cell? ⟨g,i*11+2+1,none⟩=some (.string c.f1)/\wr.cell? ⟨g,i*11+2+2,none⟩=some (.string c.f2)/\wr.cell? ⟨g,i*11+2+3,none⟩=some k/\wr.cell? ⟨g,i*11+2+4,none⟩=some m/\wr.cell? ⟨g,i*11+2+5,none⟩=some n/\wr.cell? ⟨g,i*11+2+6,none⟩=some o/\wr.cell? ⟨g,i*11+2+7,none⟩=some (.int .i64 c.f7)) /\
   Calls prog 36 #[.pointer (some ⟨B,0,none⟩),.agg #[.int .i64 c.f0,.string c.f1,.string c.f2,k,m,n,o,.int .i64 c.f7]] wr fun e W'=>e = .returned (.tuple #[])/\TInv W b b1 B it kd nm sp pr l (.slice A l.length p) cells L (i+1) W':=by
 obtain ⟨kd',nm',sp',pr',L1,L2,h1,j,E,G⟩:=h.part;obtain ⟨x,ds,M,N,Y,w,-,-,Z,-,k4,rfl⟩:=E.step hi;have s:=hk.tfr h.tfr kad;obtain ⟨A',c',hf,-,hg⟩:=s.form;injection hf with O a8 aA;subst O;obtain ⟨g,cur,rfl,U,-⟩:=hg kab;obtain ⟨k,m,n,o,cl,M',rfl,a7,-⟩:=w.open_;have d:∀ r u,r<8->[Value.int .i64 x.f2.f0,.string x.f2.f1,.string x.f2.f2,k,m,n,o,.int .i64 x.f2.f7][r]?=some u->wr.cell? ⟨g,i*11+2+r,none⟩=some u:=fun r u hr hu=>by
  rw [Nat.add_assoc];exact s.cell U _ u ((Z r hr).trans hu)
 have X:=ziy l i x Y;have aB:=zij l (i+1);have aC:=j.len;refine ⟨g,x.f2,k,m,n,o,rfl,⟨d 0 _ kad rfl,d 1 _ kad rfl,d 2 _ kad rfl,d 3 _ kad rfl,d 4 _ kad rfl,d 5 _ kad rfl,d 6 _ kad rfl,d 7 _ kad rfl⟩,?_⟩;refine (cond_calls _ x.f2 _ M wr b b1 B (it++[.slice (some ⟨g,0,none⟩) l.length p]) (kd++kd') (nm++nm') (sp++sp') (pr++pr') (qad _) (w.tfr h.tfr kad) h1 (qas J h.bel.size) (by rw [qal];omega) (by rw [qal,qal,l2,j.l2]) (by rw [qal,qal,l3,j.l3]) (by rw [qal,qal,l4,j.l4])).mono ?_;rintro e w' ⟨rfl,y,q,ad,af,a6,a1,z,D⟩;refine ⟨rfl,h.bel.trans y,h.tfr.trans q,q.blk h.box kad,kd'++ad,nm'++af,sp'++a6,pr'++a1,L1++M,N,by simpa only [qbl] using z,?_,k4,by rw [G];simp only [qbl]⟩;have I:=(j.tfr q kad).append (D.mono (c':=1+wt x.f2) kab kab (List.Sublist.refl _));rw [X];exact I
theorem zcp (W:World) (b b1 B:Nat) (it kd nm sp pr:List Value) (l:List S62) (v:Value) (cells:List Value) (L:List Nat) (n:Row W b1 62 11 v l.length cells) (w:zex W b1 l cells L) (hB:BkS W b B it kd nm sp pr) (p:b<=W.heap.size)
  (hit:it.length<=1000) (E:kd.length+wtI l<=100000) (l2:nm.length=kd.length) (l3:sp.length=kd.length) (l4:pr.length=kd.length) :
  Calls prog 14 #[.pointer (some ⟨B,0,none⟩),.agg #[v]] W fun e W'=>e = .returned (.tuple #[])/\PolB W b b1 B it kd nm sp pr v (wtI l) L W':=by
 obtain ⟨v0,v1,v2,v3,v4,D⟩:=hB;obtain ⟨A,d,rfl,af,-⟩:=n.form;have G:=zhq l;have ae:=zq (show CSt W b B 36 it kd nm sp pr v0 v1 v2 v3 v4 [.slice A l.length d] (W.alloc (.cells #[.slice A l.length d] 36)) from
  ⟨D.tfr ((TFr.refl W []).alloc _) (fun t _=>by simp),qab W _,(TFr.refl W zco).alloc _,(qan b W).alloc p _,kax⟩)
 have m:=zq (And.intro l2 (And.intro l3 l4));have X:=zq n;have j:=zq w;have k:=zq (And.intro E (And.intro G p));clear D l2 l3 l4 n w E G p af;go_enter func14,ntmps14;go_upto_region 1 with fail;obtain ⟨M,c0,Y,-,-⟩:=ae.o.bk.r0.form;subst Y;have s:=zab ae.o.bk.blk 0;have r:=fun o=>zab (zaf ae.o.bk.blk o) 0;have J:=zab ae.o.box 0;simp only [qaj,qag,qaw] at s r J
 go_cut [3] (fun c wx=>c = .pointer (some ⟨W.heap.size,0,none⟩)/\∃ z,Zq (CSt W b B 36 (it++[.slice A l.length d]) kd nm sp pr z v1 v2 v3 v4 [.slice A l.length d] wx))
 case first=>
  go_region_law (refine zcg (W:=(W.alloc (.cells #[.slice A l.length d] 36)).drew) (W.heap.size+1) (by simp) b (by rfl) (.tmp 9) (.tmp 12) 27 34 (.slice none 0 0) 1 24 rfl rfl rfl rfl kad (.slice M it.length c0) it.length it [.slice A l.length d] rfl rfl rfl rfl ?aU ae.o.bk.r0.drew ae.o.sz ?aM ?aL ?_;(case aU=>intro y I;simp at I;subst I;rfl);(case aM=>simp only [maxLen];omega);(case aL=>omega);intro z w1 hr hg ad a6;obtain ⟨Au,cu,rfl,-,-⟩:=hr.form;obtain ⟨g0,g1⟩:=ae.o.store0 hg;have HX:=zq (ae.o.push0 hr hg kad);clear hr hg ad a6);all_goals (go_wp2_with fail;go_meet;exact ⟨rfl,_,HX⟩)
 obtain ⟨rfl,z0,ab⟩:=hcut;clear s r J ae;have q:=zq (TInv.start ab.o j.o);clear ab j;go_upto_region 3 with fail;go_loopg [4] (l.length+1) (fun f iv wr=>∃ i:Nat,iv = .int .i64 i/\i<=l.length/\l.length-i<f/\Zq (TInv W b b1 B it kd nm sp pr l (.slice A l.length d) cells L i wr));case atStart=>exact ⟨0,rfl,qbx _,kab,q⟩
 case round=>
  clear q;obtain ⟨i,rfl,aA,a7,j⟩:=hrel;have y0:=zab j.o.box 0;simp only [qaj,qag] at y0;obtain ⟨f,rfl⟩:∃ Z,gk=Z+1:=⟨gk-1,kab⟩;by_cases a1:i<l.length
  ·obtain ⟨g,c,q3,q4,q5,q6,rfl,⟨d0,d1,d2,d3,d4,d5,d6,d7⟩,u⟩:=j.o.part_at a1 X.o k.o.1 m.o.1 m.o.2.1 m.o.2.2 k.o.2.2;have O:=zq u;have a8:l.length<=100000:=(by have:=k.o.1;have:=k.o.2.1;omega);clear u;go_wp2_with (go_at_call 36;refine O.o.mono ?_;rintro e2 w2 ⟨rfl,x⟩;have U:=zq x;clear x)
   go_roundg f
   case measure=>omega
   case rel=>exact ⟨i+1,by first|rfl|(congr 1;unfold wrap64;omega),kab,kab,U⟩
  go_wp2;first|go_end0|(refine qaf (qbb rfl _ _ _) rfl ?_)
  exact ⟨rfl,j.o.done⟩
end
section
theorem Wr.mono {W W1:World} {g ty lo hi c b:Nat} (h:Wr W W1 g ty lo hi) (h1:c<=lo) (l:hi<=b):Wr W W1 g ty c b:=
 ⟨h.fr,h.size,fun cs d=>by obtain ⟨cs',e,i,k⟩:=h.blk cs d;exact ⟨cs',e,i,fun j m=>k j kab⟩⟩
theorem Wr.trans {W W1 W2:World} {g ty lo hi:Nat} (h:Wr W W1 g ty lo hi) (k:Wr W1 W2 g ty lo hi):Wr W W2 g ty lo hi:=
 ⟨h.fr.trans k.fr,k.size.trans h.size,fun cs c=>by
  obtain ⟨c1,d,e,i⟩:=h.blk cs c;obtain ⟨c2,l1,l2,l3⟩:=k.blk c1 d;exact ⟨c2,l1,l2.trans e,fun j b=>(l3 j b).trans (i j b)⟩⟩
theorem Wr.head {W W1:World} {g ty lo hi:Nat} {cs:Array Value} {v:Value} (hg:W.heap[g]?=some (.cells cs ty (0,0))) (hp:lo<cs.size) (b:lo<hi) (h:Wr (W.setCell ⟨g,lo,none⟩ v) W1 g ty (lo+1) hi):Wr W W1 g ty lo hi/\W1.cell? ⟨g,lo,none⟩=some v:=by
 refine ⟨((Wr.refl W g ty lo hi).set lo (qad _) b v).trans (h.mono kab (qad _)),?_⟩;obtain ⟨c1,c,e,d⟩:=h.blk _ (zan hg lo v rfl);rw [zab c,d lo kab,Array.getElem?_setIfInBounds_self_of_lt hp]
def mkI (i:Nat):Value := .int .i64 (-1-(i:Int))
def mkS (mb:Nat->ByteArray) (i:Nat):Value := .string (mb i)
structure Fams (W:World) (b:Nat) (it kd nm sp pr:List Value) (Pi Pk Pn Ps Pp:Nat->List Value->Nat->Prop):Prop where
 fi:Fam W b 62 11 it Pi
 fk:Fam W b 60 8 kd Pk
 fn:Fam W b 9 1 nm Pn
 fs:Fam W b 68 2 sp Ps
 fp:Fam W b 47 2 pr Pp
theorem Fams.tfr {W W1:World} {b:Nat} {it kd nm sp pr:List Value} {Pi Pk Pn Ps Pp:Nat->List Value->Nat->Prop} {ts:List Nat} (h:Fams W b it kd nm sp pr Pi Pk Pn Ps Pp) (hf:TFr W W1 ts) (ht:∀ t∈[62,60,9,68,47],t∉ts):Fams W1 b it kd nm sp pr Pi Pk Pn Ps Pp:=
 ⟨h.fi.tfr hf (ht _ (by simp)),h.fk.tfr hf (ht _ (by simp)),h.fn.tfr hf (ht _ (by simp)),h.fs.tfr hf (ht _ (by simp)),h.fp.tfr hf (ht _ (by simp))⟩
structure MSt (W:World) (b B:Nat) (it kd nm sp pr:List Value) (Pi Pk Pn Ps Pp:Nat->List Value->Nat->Prop) (wr:World):Prop where
 bel:Below b W wr
 sz:b<=wr.heap.size
 bk:BkS wr b B it kd nm sp pr
 fams:Fams wr b it kd nm sp pr Pi Pk Pn Ps Pp
theorem MSt.step {W W1 W2:World} {b B:Nat} {it kd nm sp pr:List Value} {Pi Pk Pn Ps Pp:Nat->List Value->Nat->Prop} (h:MSt W b B it kd nm sp pr Pi Pk Pn Ps Pp W1) (c:Below W1.heap.size W1 W2):MSt W b B it kd nm sp pr Pi Pk Pn Ps Pp W2:=
 ⟨h.bel.trans (c.mono h.sz),qas h.sz c.size,h.bk.tfr (ts:=[]) (TFr.of_below c) (fun t _=>by simp),h.fams.tfr (ts:=[]) (TFr.of_below c) (fun t _=>by simp)⟩
theorem MSt.drew {W W1:World} {b B:Nat} {it kd nm sp pr:List Value} {Pi Pk Pn Ps Pp:Nat->List Value->Nat->Prop} (h:MSt W b B it kd nm sp pr Pi Pk Pn Ps Pp W1):MSt W b B it kd nm sp pr Pi Pk Pn Ps Pp W1.drew:=
 ⟨Below.drew h.bel,h.sz,h.bk.tfr (ts:=[]) ((TFr.refl W1 []).drewN 1) (fun t _=>by simp),h.fams.tfr (ts:=[]) ((TFr.refl W1 []).drewN 1) (fun t _=>by simp)⟩
theorem Fam.form {W:World} {b ty sz i:Nat} {rows:List Value} {P:Nat->List Value->Nat->Prop} (h:Fam W b ty sz rows P) (hi:i<rows.length):∃ A n c,rows[i]?=some (.slice A n c):=by
 have h1:=qao hi;obtain ⟨n,xs,d,-⟩:=h.row i _ h1;obtain ⟨A,c,e,-⟩:=d.form;exact ⟨A,n,c,by rw [h1,e]⟩
theorem MSt.len0 {W wr:World} {b B:Nat} {it kd nm sp pr:List Value} {Pi Pk Pn Ps Pp:Nat->List Value->Nat->Prop} (h:MSt W b B it kd nm sp pr Pi Pk Pn Ps Pp wr):∃ A c,wr.cell? ⟨B,0,none⟩=some (.slice A it.length c):=by
 obtain ⟨v0,v1,v2,v3,v4,d⟩:=h.bk;obtain ⟨A,c,e,-⟩:=d.r0.form;exact ⟨A,c,by rw [zab d.blk,<-e];rfl⟩
theorem MSt.rd0 {W wr:World} {b B:Nat} {it kd nm sp pr:List Value} {Pi Pk Pn Ps Pp:Nat->List Value->Nat->Prop} {i n l:Nat} {j:Option Addr} (h:MSt W b B it kd nm sp pr Pi Pk Pn Ps Pp wr) (hi:it[i]?=some (.slice j n l)) :
  ∃ d c,wr.cell? ⟨B,0,none⟩=some (.slice (some ⟨d,0,none⟩) it.length c)/\wr.cell? ⟨d,i,none⟩=some (.slice j n l)/\(0<n->∃ g cur,j=some ⟨g,0,none⟩/\b<=g/\wr.heap[g]?=some (.cells cur 62 (0,0))/\n*11<=cur.size):=by
 obtain ⟨v0,v1,v2,v3,v4,k⟩:=h.bk;have D:=(qav.1 hi).1;obtain ⟨A,c,rfl,-,s⟩:=k.r0.form;obtain ⟨d,y,rfl,x,-⟩:=s kab;refine ⟨d,c,by rw [zab k.blk];rfl,k.r0.cell x i _ hi,fun q=>?_⟩;obtain ⟨m,xs,r,-⟩:=h.fams.fi.row i _ hi;obtain ⟨A',c',e,w,hg⟩:=r.form;injection e with o p z;subst o;subst p;obtain ⟨g,cur,rfl,E,u,hh,-,hs,-⟩:=hg q;exact ⟨g,cur,rfl,u,hh,qas (qbp _ w) hs⟩
theorem MSt.mark0 {W wr w1:World} {b B M i k g n c:Nat} {it kd nm sp pr:List Value} {Pk Pn Ps Pp:Nat->List Value->Nat->Prop} (h:MSt W b B it kd nm sp pr (PM M 11 mkI i k) Pk Pn Ps Pp wr) (hi:it[i]?=some (.slice (some ⟨g,0,none⟩) n c)) (hk:k<n) (e:Wr wr w1 g 62 (k*11) (k*11+11)) (o:w1.cell? ⟨g,k*11,none⟩=some (mkI i)) (l:b<=g) :
  MSt W b B it kd nm sp pr (PM M 11 mkI i (k+1)) Pk Pn Ps Pp w1:=by
 obtain ⟨m,xs,j,-⟩:=h.fams.fi.row i _ hi;obtain ⟨-,-,cur,p⟩:=j.blk rfl;have hf:=e.tfr p;have d:=h.fams;exact ⟨e.fr.below (fun q r=>by rw [r];exact l) h.sz h.bel,by rw [e.size];exact h.sz,h.bk.tfr hf kad,⟨d.fi.mark kad hi rfl e rfl hk o,d.fk.tfr hf kad,d.fn.tfr hf kad,d.fs.tfr hf kad,d.fp.tfr hf kad⟩⟩
theorem MSt.next0 {W wr:World} {b B M i n c:Nat} {A:Option Addr} {it kd nm sp pr:List Value} {Pk Pn Ps Pp:Nat->List Value->Nat->Prop} (h:MSt W b B it kd nm sp pr (PM M 11 mkI i n) Pk Pn Ps Pp wr) (hi:it[i]?=some (.slice A n c)) :
  MSt W b B it kd nm sp pr (PM M 11 mkI (i+1) 0) Pk Pn Ps Pp wr:=
 ⟨h.bel,h.sz,h.bk,⟨h.fams.fi.next hi rfl,h.fams.fk,h.fams.fn,h.fams.fs,h.fams.fp⟩⟩
theorem MSt.len1 {W wr:World} {b B:Nat} {it kd nm sp pr:List Value} {Pi Pk Pn Ps Pp:Nat->List Value->Nat->Prop} (h:MSt W b B it kd nm sp pr Pi Pk Pn Ps Pp wr):∃ A c,wr.cell? ⟨B,1,none⟩=some (.slice A kd.length c):=by
 obtain ⟨v0,v1,v2,v3,v4,d⟩:=h.bk;obtain ⟨A,c,e,-⟩:=d.r1.form;exact ⟨A,c,by rw [zab d.blk,<-e];rfl⟩
theorem MSt.rd1 {W wr:World} {b B:Nat} {it kd nm sp pr:List Value} {Pi Pk Pn Ps Pp:Nat->List Value->Nat->Prop} {i n l:Nat} {j:Option Addr} (h:MSt W b B it kd nm sp pr Pi Pk Pn Ps Pp wr) (hi:kd[i]?=some (.slice j n l)) :
  ∃ d c,wr.cell? ⟨B,1,none⟩=some (.slice (some ⟨d,0,none⟩) kd.length c)/\wr.cell? ⟨d,i,none⟩=some (.slice j n l)/\(0<n->∃ g cur,j=some ⟨g,0,none⟩/\b<=g/\wr.heap[g]?=some (.cells cur 60 (0,0))/\n*8<=cur.size):=by
 obtain ⟨v0,v1,v2,v3,v4,k⟩:=h.bk;have D:=(qav.1 hi).1;obtain ⟨A,c,rfl,-,s⟩:=k.r1.form;obtain ⟨d,y,rfl,x,-⟩:=s kab;refine ⟨d,c,by rw [zab k.blk];rfl,k.r1.cell x i _ hi,fun q=>?_⟩;obtain ⟨m,xs,r,-⟩:=h.fams.fk.row i _ hi;obtain ⟨A',c',e,w,hg⟩:=r.form;injection e with o p z;subst o;subst p;obtain ⟨g,cur,rfl,E,u,hh,-,hs,-⟩:=hg q;exact ⟨g,cur,rfl,u,hh,qas (qbp _ w) hs⟩
theorem MSt.mark1 {W wr w1:World} {b B M i k g n c:Nat} {it kd nm sp pr:List Value} {Pi Pn Ps Pp:Nat->List Value->Nat->Prop} (h:MSt W b B it kd nm sp pr Pi (PM M 8 mkI i k) Pn Ps Pp wr) (hi:kd[i]?=some (.slice (some ⟨g,0,none⟩) n c)) (hk:k<n) (e:Wr wr w1 g 60 (k*8) (k*8+8)) (o:w1.cell? ⟨g,k*8,none⟩=some (mkI i)) (l:b<=g) :
  MSt W b B it kd nm sp pr Pi (PM M 8 mkI i (k+1)) Pn Ps Pp w1:=by
 obtain ⟨m,xs,j,-⟩:=h.fams.fk.row i _ hi;obtain ⟨-,-,cur,p⟩:=j.blk rfl;have hf:=e.tfr p;have d:=h.fams;exact ⟨e.fr.below (fun q r=>by rw [r];exact l) h.sz h.bel,by rw [e.size];exact h.sz,h.bk.tfr hf kad,⟨d.fi.tfr hf kad,d.fk.mark kad hi rfl e rfl hk o,d.fn.tfr hf kad,d.fs.tfr hf kad,d.fp.tfr hf kad⟩⟩
theorem MSt.next1 {W wr:World} {b B M i n c:Nat} {A:Option Addr} {it kd nm sp pr:List Value} {Pi Pn Ps Pp:Nat->List Value->Nat->Prop} (h:MSt W b B it kd nm sp pr Pi (PM M 8 mkI i n) Pn Ps Pp wr) (hi:kd[i]?=some (.slice A n c)) :
  MSt W b B it kd nm sp pr Pi (PM M 8 mkI (i+1) 0) Pn Ps Pp wr:=
 ⟨h.bel,h.sz,h.bk,⟨h.fams.fi,h.fams.fk.next hi rfl,h.fams.fn,h.fams.fs,h.fams.fp⟩⟩
theorem MSt.rd2 {W wr:World} {b B:Nat} {it kd nm sp pr:List Value} {Pi Pk Pn Ps Pp:Nat->List Value->Nat->Prop} {i n l:Nat} {j:Option Addr} (h:MSt W b B it kd nm sp pr Pi Pk Pn Ps Pp wr) (hi:nm[i]?=some (.slice j n l)) :
  ∃ d c,wr.cell? ⟨B,2,none⟩=some (.slice (some ⟨d,0,none⟩) nm.length c)/\wr.cell? ⟨d,i,none⟩=some (.slice j n l)/\(0<n->∃ g cur,j=some ⟨g,0,none⟩/\b<=g/\wr.heap[g]?=some (.cells cur 9 (0,0))/\n*1<=cur.size):=by
 obtain ⟨v0,v1,v2,v3,v4,k⟩:=h.bk;have D:=(qav.1 hi).1;obtain ⟨A,c,rfl,-,s⟩:=k.r2.form;obtain ⟨d,y,rfl,x,-⟩:=s kab;refine ⟨d,c,by rw [zab k.blk];rfl,k.r2.cell x i _ hi,fun q=>?_⟩;obtain ⟨m,xs,r,-⟩:=h.fams.fn.row i _ hi;obtain ⟨A',c',e,w,hg⟩:=r.form;injection e with o p z;subst o;subst p;obtain ⟨g,cur,rfl,E,u,hh,-,hs,-⟩:=hg q;exact ⟨g,cur,rfl,u,hh,qas (qbp _ w) hs⟩
theorem MSt.mark2 {W wr w1:World} {b B M i k g n c:Nat} {it kd nm sp pr:List Value} {Pi Pk Ps Pp:Nat->List Value->Nat->Prop} {mb:Nat->ByteArray} (h:MSt W b B it kd nm sp pr Pi Pk (PM M 1 (mkS mb) i k) Ps Pp wr) (hi:nm[i]?=some (.slice (some ⟨g,0,none⟩) n c)) (hk:k<n) (e:Wr wr w1 g 9 (k*1) (k*1+1)) (o:w1.cell? ⟨g,k*1,none⟩=some ((mkS mb) i)) (l:b<=g) :
  MSt W b B it kd nm sp pr Pi Pk (PM M 1 (mkS mb) i (k+1)) Ps Pp w1:=by
 obtain ⟨m,xs,j,-⟩:=h.fams.fn.row i _ hi;obtain ⟨-,-,cur,p⟩:=j.blk rfl;have hf:=e.tfr p;have d:=h.fams;exact ⟨e.fr.below (fun q r=>by rw [r];exact l) h.sz h.bel,by rw [e.size];exact h.sz,h.bk.tfr hf kad,⟨d.fi.tfr hf kad,d.fk.tfr hf kad,d.fn.mark kad hi rfl e rfl hk o,d.fs.tfr hf kad,d.fp.tfr hf kad⟩⟩
theorem MSt.next2 {W wr:World} {b B M i n c:Nat} {A:Option Addr} {it kd nm sp pr:List Value} {Pi Pk Ps Pp:Nat->List Value->Nat->Prop} {mb:Nat->ByteArray} (h:MSt W b B it kd nm sp pr Pi Pk (PM M 1 (mkS mb) i n) Ps Pp wr) (hi:nm[i]?=some (.slice A n c)) :
  MSt W b B it kd nm sp pr Pi Pk (PM M 1 (mkS mb) (i+1) 0) Ps Pp wr:=
 ⟨h.bel,h.sz,h.bk,⟨h.fams.fi,h.fams.fk,h.fams.fn.next hi rfl,h.fams.fs,h.fams.fp⟩⟩
theorem MSt.rd3 {W wr:World} {b B:Nat} {it kd nm sp pr:List Value} {Pi Pk Pn Ps Pp:Nat->List Value->Nat->Prop} {i n l:Nat} {j:Option Addr} (h:MSt W b B it kd nm sp pr Pi Pk Pn Ps Pp wr) (hi:sp[i]?=some (.slice j n l)) :
  ∃ d c,wr.cell? ⟨B,3,none⟩=some (.slice (some ⟨d,0,none⟩) sp.length c)/\wr.cell? ⟨d,i,none⟩=some (.slice j n l)/\(0<n->∃ g cur,j=some ⟨g,0,none⟩/\b<=g/\wr.heap[g]?=some (.cells cur 68 (0,0))/\n*2<=cur.size):=by
 obtain ⟨v0,v1,v2,v3,v4,k⟩:=h.bk;have D:=(qav.1 hi).1;obtain ⟨A,c,rfl,-,s⟩:=k.r3.form;obtain ⟨d,y,rfl,x,-⟩:=s kab;refine ⟨d,c,by rw [zab k.blk];rfl,k.r3.cell x i _ hi,fun q=>?_⟩;obtain ⟨m,xs,r,-⟩:=h.fams.fs.row i _ hi;obtain ⟨A',c',e,w,hg⟩:=r.form;injection e with o p z;subst o;subst p;obtain ⟨g,cur,rfl,E,u,hh,-,hs,-⟩:=hg q;exact ⟨g,cur,rfl,u,hh,qas (qbp _ w) hs⟩
theorem MSt.mark3 {W wr w1:World} {b B M i k g n c:Nat} {it kd nm sp pr:List Value} {Pi Pk Pn Pp:Nat->List Value->Nat->Prop} (h:MSt W b B it kd nm sp pr Pi Pk Pn (PM M 2 mkI i k) Pp wr) (hi:sp[i]?=some (.slice (some ⟨g,0,none⟩) n c)) (hk:k<n) (e:Wr wr w1 g 68 (k*2) (k*2+2)) (o:w1.cell? ⟨g,k*2,none⟩=some (mkI i)) (l:b<=g) :
  MSt W b B it kd nm sp pr Pi Pk Pn (PM M 2 mkI i (k+1)) Pp w1:=by
 obtain ⟨m,xs,j,-⟩:=h.fams.fs.row i _ hi;obtain ⟨-,-,cur,p⟩:=j.blk rfl;have hf:=e.tfr p;have d:=h.fams;exact ⟨e.fr.below (fun q r=>by rw [r];exact l) h.sz h.bel,by rw [e.size];exact h.sz,h.bk.tfr hf kad,⟨d.fi.tfr hf kad,d.fk.tfr hf kad,d.fn.tfr hf kad,d.fs.mark kad hi rfl e rfl hk o,d.fp.tfr hf kad⟩⟩
theorem MSt.next3 {W wr:World} {b B M i n c:Nat} {A:Option Addr} {it kd nm sp pr:List Value} {Pi Pk Pn Pp:Nat->List Value->Nat->Prop} (h:MSt W b B it kd nm sp pr Pi Pk Pn (PM M 2 mkI i n) Pp wr) (hi:sp[i]?=some (.slice A n c)) :
  MSt W b B it kd nm sp pr Pi Pk Pn (PM M 2 mkI (i+1) 0) Pp wr:=
 ⟨h.bel,h.sz,h.bk,⟨h.fams.fi,h.fams.fk,h.fams.fn,h.fams.fs.next hi rfl,h.fams.fp⟩⟩
theorem MSt.rd4 {W wr:World} {b B:Nat} {it kd nm sp pr:List Value} {Pi Pk Pn Ps Pp:Nat->List Value->Nat->Prop} {i n l:Nat} {j:Option Addr} (h:MSt W b B it kd nm sp pr Pi Pk Pn Ps Pp wr) (hi:pr[i]?=some (.slice j n l)) :
  ∃ d c,wr.cell? ⟨B,4,none⟩=some (.slice (some ⟨d,0,none⟩) pr.length c)/\wr.cell? ⟨d,i,none⟩=some (.slice j n l)/\(0<n->∃ g cur,j=some ⟨g,0,none⟩/\b<=g/\wr.heap[g]?=some (.cells cur 47 (0,0))/\n*2<=cur.size):=by
 obtain ⟨v0,v1,v2,v3,v4,k⟩:=h.bk;have D:=(qav.1 hi).1;obtain ⟨A,c,rfl,-,s⟩:=k.r4.form;obtain ⟨d,y,rfl,x,-⟩:=s kab;refine ⟨d,c,by rw [zab k.blk];rfl,k.r4.cell x i _ hi,fun q=>?_⟩;obtain ⟨m,xs,r,-⟩:=h.fams.fp.row i _ hi;obtain ⟨A',c',e,w,hg⟩:=r.form;injection e with o p z;subst o;subst p;obtain ⟨g,cur,rfl,E,u,hh,-,hs,-⟩:=hg q;exact ⟨g,cur,rfl,u,hh,qas (qbp _ w) hs⟩
theorem MSt.mark4 {W wr w1:World} {b B M i k g n c:Nat} {it kd nm sp pr:List Value} {Pi Pk Pn Ps:Nat->List Value->Nat->Prop} (h:MSt W b B it kd nm sp pr Pi Pk Pn Ps (PM M 2 mkI i k) wr) (hi:pr[i]?=some (.slice (some ⟨g,0,none⟩) n c)) (hk:k<n) (e:Wr wr w1 g 47 (k*2) (k*2+2)) (o:w1.cell? ⟨g,k*2,none⟩=some (mkI i)) (l:b<=g) :
  MSt W b B it kd nm sp pr Pi Pk Pn Ps (PM M 2 mkI i (k+1)) w1:=by
 obtain ⟨m,xs,j,-⟩:=h.fams.fp.row i _ hi;obtain ⟨-,-,cur,p⟩:=j.blk rfl;have hf:=e.tfr p;have d:=h.fams;exact ⟨e.fr.below (fun q r=>by rw [r];exact l) h.sz h.bel,by rw [e.size];exact h.sz,h.bk.tfr hf kad,⟨d.fi.tfr hf kad,d.fk.tfr hf kad,d.fn.tfr hf kad,d.fs.tfr hf kad,d.fp.mark kad hi rfl e rfl hk o⟩⟩
theorem MSt.next4 {W wr:World} {b B M i n c:Nat} {A:Option Addr} {it kd nm sp pr:List Value} {Pi Pk Pn Ps:Nat->List Value->Nat->Prop} (h:MSt W b B it kd nm sp pr Pi Pk Pn Ps (PM M 2 mkI i n) wr) (hi:pr[i]?=some (.slice A n c)) :
  MSt W b B it kd nm sp pr Pi Pk Pn Ps (PM M 2 mkI (i+1) 0) wr:=
 ⟨h.bel,h.sz,h.bk,⟨h.fams.fi,h.fams.fk,h.fams.fn,h.fams.fs,h.fams.fp.next hi rfl⟩⟩
end
section
theorem Fam.le {W:World} {b ty sz M i k j n c:Nat} {A:Option Addr} {rows:List Value} {mk:Nat->Value} (h:Fam W b ty sz rows (PM M sz mk i k)) (d:rows[j]?=some (.slice A n c)):n<=M:=by
 obtain ⟨m,xs,h1,q,-⟩:=h.row j _ d;obtain ⟨A',c',e,-⟩:=h1.form;injection e with l o p;omega
theorem zca {W:World} {g ty p:Nat} {cs:Array Value} (h:W.heap[g]?=some (.cells cs ty (0,0))) (hp:p<cs.size):W.cell? ⟨g,p,none⟩=some ((cs[p]?).getD default):=by
 rw [zab h,Array.getElem?_eq_getElem hp];rfl
theorem st11_wr {W:World} {g ty p:Nat} {cs:Array Value} (h:W.heap[g]?=some (.cells cs ty (0,0))) (hp:p+11<=cs.size) (v0 v1 v2 v3 v4 v5 c d e v9 b:Value) :
  Wr W (((((((((((W.setCell ⟨g,p,none⟩ v0).setCell ⟨g,p+1,none⟩ v1).setCell ⟨g,p+2,none⟩ v2).setCell ⟨g,p+3,none⟩ v3).setCell ⟨g,p+4,none⟩ v4).setCell ⟨g,p+5,none⟩ v5).setCell ⟨g,p+6,none⟩ c).setCell ⟨g,p+7,none⟩ d).setCell ⟨g,p+8,none⟩ e).setCell ⟨g,p+9,none⟩ v9).setCell ⟨g,p+10,none⟩ b) g ty p (p+11) /\
  (((((((((((W.setCell ⟨g,p,none⟩ v0).setCell ⟨g,p+1,none⟩ v1).setCell ⟨g,p+2,none⟩ v2).setCell ⟨g,p+3,none⟩ v3).setCell ⟨g,p+4,none⟩ v4).setCell ⟨g,p+5,none⟩ v5).setCell ⟨g,p+6,none⟩ c).setCell ⟨g,p+7,none⟩ d).setCell ⟨g,p+8,none⟩ e).setCell ⟨g,p+9,none⟩ v9).setCell ⟨g,p+10,none⟩ b).cell? ⟨g,p,none⟩=some v0:=
 Wr.head h kab kab ((((((((((Wr.refl _ g ty (p+1) (p+11)).set (p+1) kab kab v1).set (p+2) kab kab v2).set (p+3) kab kab v3).set (p+4) kab kab v4).set (p+5) kab kab v5).set (p+6) kab kab c).set (p+7) kab kab d).set (p+8) kab kab e).set (p+9) kab kab v9 |>.set (p+10) kab kab b)
theorem st8_wr {W:World} {g ty p:Nat} {cs:Array Value} (h:W.heap[g]?=some (.cells cs ty (0,0))) (hp:p+8<=cs.size) (v0 v1 v2 v3 v4 v5 b c:Value) :
  Wr W ((((((((W.setCell ⟨g,p,none⟩ v0).setCell ⟨g,p+1,none⟩ v1).setCell ⟨g,p+2,none⟩ v2).setCell ⟨g,p+3,none⟩ v3).setCell ⟨g,p+4,none⟩ v4).setCell ⟨g,p+5,none⟩ v5).setCell ⟨g,p+6,none⟩ b).setCell ⟨g,p+7,none⟩ c) g ty p (p+8) /\
  ((((((((W.setCell ⟨g,p,none⟩ v0).setCell ⟨g,p+1,none⟩ v1).setCell ⟨g,p+2,none⟩ v2).setCell ⟨g,p+3,none⟩ v3).setCell ⟨g,p+4,none⟩ v4).setCell ⟨g,p+5,none⟩ v5).setCell ⟨g,p+6,none⟩ b).setCell ⟨g,p+7,none⟩ c).cell? ⟨g,p,none⟩=some v0:=
 Wr.head h kab kab (((((((Wr.refl _ g ty (p+1) (p+8)).set (p+1) kab kab v1).set (p+2) kab kab v2).set (p+3) kab kab v3).set (p+4) kab kab v4).set (p+5) kab kab v5).set (p+6) kab kab b |>.set (p+7) kab kab c)
theorem zif {k n:Nat} (h:k<n):n-(intOf (.int .i64 ((k:Int)+1))).toNat<n-(intOf (.int .i64 (k:Int))).toNat:=by simp [intOf];omega
theorem zpv {k n sz s:Nat} (h:k<n) (b:n*sz<=s):k*sz+sz<=s:=by
 have:(k+1)*sz<=n*sz:=qbp _ h;rw [Nat.add_mul,Nat.one_mul] at this;omega
theorem zej {p sz s:Nat} (r:Nat) (h:p+sz<=s) (hr:r<sz):p+r<s:=kab
theorem fit_le1 {k n s:Nat} (h:k<n) (b:n*1<=s):k+(0+1)<=s:=kab
theorem zsq {W:World} {g ty p:Nat} (n:Nat) {cs:Array Value} (h:W.heap[g]?=some (.cells cs ty (0,0))) (hp:p+(n+1)<=cs.size) (v0:Value) :
  Wr W (W.setCell ⟨g,p,none⟩ v0) g ty p (p+(n+1))/\(W.setCell ⟨g,p,none⟩ v0).cell? ⟨g,p,none⟩=some v0:=
 Wr.head h kab kab (Wr.refl _ g ty (p+1) (p+(n+1)))
theorem marked_calls (mb:Nat->ByteArray) (a1:∀ i:Nat,i<=100000->∀ W,Calls prog 38 #[.int .i64 i] W fun e W'=>e = .returned (.string (mb i))/\Below W.heap.size W W')
  (W:World) (b B M:Nat) (it kd nm sp pr:List Value) (hM:M<=100000) (h:MSt W b B it kd nm sp pr (PM M 11 mkI 0 0) (PM M 8 mkI 0 0) (PM M 1 (mkS mb) 0 0) (PM M 2 mkI 0 0) (PM M 2 mkI 0 0) W) (hit:it.length<=1000) (aL:kd.length<=100000) (l2:nm.length=kd.length) (l3:sp.length=kd.length) (l4:pr.length=kd.length) :
  Calls prog 37 #[.pointer (some ⟨B,0,none⟩)] W fun e W'=>e = .returned (.tuple #[])/\MSt W b B it kd nm sp pr (PM M 11 mkI it.length 0) (PM M 8 mkI kd.length 0) (PM M 1 (mkS mb) kd.length 0) (PM M 2 mkI kd.length 0) (PM M 2 mkI kd.length 0) W':=by
 have Y:=zq h;have a6:=zq a1;have s:=zq (And.intro l2 (And.intro l3 l4));clear h a1 l2 l3 l4;go_enter func37,ntmps37;go_wp2
 go_loopw [2] (fun v w=>∃ i:Nat,i<=it.length/\v = .int .i64 i/\Zq (MSt W b B it kd nm sp pr (PM M 11 mkI i 0) (PM M 8 mkI 0 0) (PM M 1 (mkS mb) 0 0) (PM M 2 mkI 0 0) (PM M 2 mkI 0 0) w)) (fun v _=>it.length-(intOf v).toNat)
 case atStart=>exact ⟨0,kab,rfl,Y⟩
 case round=>
  clear Y;obtain ⟨i,hi,rfl,H⟩:=hrel;obtain ⟨Ab,cb,a7⟩:=H.o.len0;by_cases x:i<it.length
  ·have af:i<=1000:=kab;obtain ⟨aA,J,aG,A⟩:=H.o.fams.fi.form (i:=i) (by have:=s.o;omega);have aP:=H.o.fams.fi.le A;go_wp2
   go_loopw [3] (fun v w=>∃ k:Nat,k<=J/\v = .int .i64 k/\Zq (MSt W b B it kd nm sp pr (PM M 11 mkI i k) (PM M 8 mkI 0 0) (PM M 1 (mkS mb) 0 0) (PM M 2 mkI 0 0) (PM M 2 mkI 0 0) w)) (fun v _=>J-(intOf v).toNat)
   case atStart=>exact ⟨0,kab,rfl,H⟩
   case round=>
    clear H;obtain ⟨k,hk,rfl,l⟩:=hrel;obtain ⟨z,y,r0,r1,hg⟩:=l.o.rd0 A;by_cases j:k<J
    ·obtain ⟨g,cur,rfl,r,c,m⟩:=hg (Nat.zero_lt_of_lt j);have d:k*11+11<=cur.size:=zpv j m;have d0:=zca (p:=k*11) c (zej 0 d kad);have f0:=zac c (k*11);have d1:=zca (p:=k*11+1) c (zej 1 d kad);have f1:=zac c (k*11+1);have d2:=zca (p:=k*11+2) c (zej 2 d kad);have f2:=zac c (k*11+2);have d3:=zca (p:=k*11+3) c (zej 3 d kad);have f3:=zac c (k*11+3);have d4:=zca (p:=k*11+4) c (zej 4 d kad);have f4:=zac c (k*11+4);have d5:=zca (p:=k*11+5) c (zej 5 d kad);have f5:=zac c (k*11+5);have d6:=zca (p:=k*11+6) c (zej 6 d kad);have f6:=zac c (k*11+6);have d7:=zca (p:=k*11+7) c (zej 7 d kad);have f7:=zac c (k*11+7);have d8:=zca (p:=k*11+8) c (zej 8 d kad);have f8:=zac c (k*11+8);have d9:=zca (p:=k*11+9) c (zej 9 d kad);have f9:=zac c (k*11+9);have d10:=zca (p:=k*11+10) c (zej 10 d kad);have f10:=zac c (k*11+10);have n:=zq c;have q:=zq d;clear c d m hg;go_wp2
     go_roundw
     case rel=>
      have hh:=st11_wr n.o q.o (.int .i64 (-1-(i:Int))) (.string ⟨#[]⟩) (.int .i64 0) (.string ⟨#[]⟩) (.string ⟨#[]⟩) (.slice none 0 0) (.slice none 0 0) (.slice none 0 0) (.slice none 0 0) (.int .i64 0) (.int .i64 0);exact ⟨k+1,j,by first|rfl|go_num,⟨l.o.mark0 A j hh.1 hh.2 r⟩⟩
     case measure=>exact zif j
    obtain rfl:J=k:=kab;have H:=zq (l.o.next0 A);clear l hg;go_wp2
    go_roundw
    case rel=>exact ⟨i+1,x,by first|rfl|go_num,H⟩
    case measure=>exact zif x
  have X:i=it.length:=kab;subst X;clear x hi;go_wp2
  go_loopw [4] (fun v w=>∃ i:Nat,i<=kd.length/\v = .int .i64 i/\Zq (MSt W b B it kd nm sp pr (PM M 11 mkI it.length 0) (PM M 8 mkI i 0) (PM M 1 (mkS mb) i 0) (PM M 2 mkI i 0) (PM M 2 mkI i 0) w)) (fun v _=>kd.length-(intOf v).toNat)
  case atStart=>exact ⟨0,kab,rfl,H⟩
  case round=>
   clear H a7;obtain ⟨i,hi,rfl,H⟩:=hrel;obtain ⟨a8,aF,u⟩:=H.o.len1;by_cases x:i<kd.length
   ·have af:i<=100000:=kab;obtain ⟨aB,L,aH,D⟩:=H.o.fams.fk.form (i:=i) (by have:=s.o;omega);have aQ:=H.o.fams.fk.le D;go_wp2
    go_loopw [5] (fun v w=>∃ k:Nat,k<=L/\v = .int .i64 k/\Zq (MSt W b B it kd nm sp pr (PM M 11 mkI it.length 0) (PM M 8 mkI i k) (PM M 1 (mkS mb) i 0) (PM M 2 mkI i 0) (PM M 2 mkI i 0) w)) (fun v _=>L-(intOf v).toNat)
    case atStart=>exact ⟨0,kab,rfl,H⟩
    case round=>
     clear H;obtain ⟨k,hk,rfl,l⟩:=hrel;obtain ⟨z,y,r0,r1,hg⟩:=l.o.rd1 D;by_cases j:k<L
     ·obtain ⟨g,cur,rfl,r,c,m⟩:=hg (Nat.zero_lt_of_lt j);have d:k*8+8<=cur.size:=zpv j m;have d0:=zca (p:=k*8) c (zej 0 d kad);have f0:=zac c (k*8);have d1:=zca (p:=k*8+1) c (zej 1 d kad);have f1:=zac c (k*8+1);have d2:=zca (p:=k*8+2) c (zej 2 d kad);have f2:=zac c (k*8+2);have d3:=zca (p:=k*8+3) c (zej 3 d kad);have f3:=zac c (k*8+3);have d4:=zca (p:=k*8+4) c (zej 4 d kad);have f4:=zac c (k*8+4);have d5:=zca (p:=k*8+5) c (zej 5 d kad);have f5:=zac c (k*8+5);have d6:=zca (p:=k*8+6) c (zej 6 d kad);have f6:=zac c (k*8+6);have d7:=zca (p:=k*8+7) c (zej 7 d kad);have f7:=zac c (k*8+7);have n:=zq c;have q:=zq d;clear c d m hg;go_wp2
      go_roundw
      case rel=>
       have hh:=st8_wr n.o q.o (.int .i64 (-1-(i:Int))) (.string ⟨#[]⟩) (.string ⟨#[]⟩) (.slice none 0 0) (.slice none 0 0) (.slice none 0 0) (.slice none 0 0) (.int .i64 0);exact ⟨k+1,j,by first|rfl|go_num,⟨l.o.mark1 D j hh.1 hh.2 r⟩⟩
      case measure=>exact zif j
     obtain rfl:L=k:=kab;have H:=zq (l.o.next1 D);clear l hg;obtain ⟨aC,O,aI,E⟩:=H.o.fams.fn.form (i:=i) (by have:=s.o;omega);have aM:i<nm.length:=(by have:=s.o;omega);have aR:=H.o.fams.fn.le E;go_wp2
     go_loopw [6] (fun v w=>∃ k:Nat,k<=O/\v = .int .i64 k/\Zq (MSt W b B it kd nm sp pr (PM M 11 mkI it.length 0) (PM M 8 mkI (i+1) 0) (PM M 1 (mkS mb) i k) (PM M 2 mkI i 0) (PM M 2 mkI i 0) w)) (fun v _=>O-(intOf v).toNat)
     case atStart=>exact ⟨0,kab,rfl,H⟩
     case round=>
      clear H;obtain ⟨k,hk,rfl,l⟩:=hrel;obtain ⟨z,y,r0,r1,hg⟩:=l.o.rd2 E;by_cases j:k<O
      ·obtain ⟨g,cur,rfl,r,c,m⟩:=hg (Nat.zero_lt_of_lt j);have d:k*1+1<=cur.size:=zpv j m;have d0:=zca (p:=k*1) c (zej 0 d kad);have f0:=zac c (k*1);rw [Nat.mul_one] at d0 f0;have HM:=zq (a6.o i af);have n:=zq c;have q:=zq m;clear m hg d c;go_wp2;go_region_law (go_simp;go_at_call 38;refine (HM.o _).mono ?_;rintro e1 w1 ⟨rfl,u⟩;have ad:=(show MSt W b B it kd nm sp pr (PM M 11 mkI it.length 0) (PM M 8 mkI (i+1) 0) (PM M 1 (mkS mb) i k) (PM M 2 mkI i 0) (PM M 2 mkI i 0) w1 from by first|exact l.o.step u|exact l.o.drew.step u);have s0:=zag u r0;have s1:=zag u r1;have U:=(u.block g (zam n.o)).trans n.o;have d1:=zag u d0;have f1:=zac U k;have Z:=zq (And.intro ad U);clear u ad U);all_goals (go_wp2;go_roundw;(case rel=>(have hh:=zsq 0 (p:=k) Z.o.2 (fit_le1 j q.o) (.string (mb i));exact ⟨k+1,j,by first|rfl|go_num,⟨Z.o.1.mark2 E j (by rw [Nat.mul_one];exact hh.1) (by rw [Nat.mul_one];exact hh.2) r⟩⟩));(case measure=>exact zif j))
      obtain rfl:O=k:=kab;have H:=zq (l.o.next2 E);clear l hg;obtain ⟨aD,n3,aJ,G⟩:=H.o.fams.fs.form (i:=i) (by have:=s.o;omega);have aN:i<sp.length:=(by have:=s.o;omega);have aS:=H.o.fams.fs.le G;go_wp2
      go_loopw [7] (fun v w=>∃ k:Nat,k<=n3/\v = .int .i64 k/\Zq (MSt W b B it kd nm sp pr (PM M 11 mkI it.length 0) (PM M 8 mkI (i+1) 0) (PM M 1 (mkS mb) (i+1) 0) (PM M 2 mkI i k) (PM M 2 mkI i 0) w)) (fun v _=>n3-(intOf v).toNat)
      case atStart=>exact ⟨0,kab,rfl,H⟩
      case round=>
       clear H;obtain ⟨k,hk,rfl,l⟩:=hrel;obtain ⟨z,y,r0,r1,hg⟩:=l.o.rd3 G;by_cases j:k<n3
       ·obtain ⟨g,cur,rfl,r,c,m⟩:=hg (Nat.zero_lt_of_lt j);have d:k*2+2<=cur.size:=zpv j m;have d0:=zca (p:=k*2) c (zej 0 d kad);have f0:=zac c (k*2);have n:=zq c;have q:=zq d;clear c d m hg;go_wp2
        go_roundw
        case rel=>
         have hh:=zsq 1 n.o q.o (.int .i64 (-1-(i:Int)));exact ⟨k+1,j,by first|rfl|go_num,⟨l.o.mark3 G j hh.1 hh.2 r⟩⟩
        case measure=>exact zif j
       obtain rfl:n3=k:=kab;have H:=zq (l.o.next3 G);clear l hg;obtain ⟨aE,n4,aK,I⟩:=H.o.fams.fp.form (i:=i) (by have:=s.o;omega);have aO:i<pr.length:=(by have:=s.o;omega);have aT:=H.o.fams.fp.le I;go_wp2
       go_loopw [8] (fun v w=>∃ k:Nat,k<=n4/\v = .int .i64 k/\Zq (MSt W b B it kd nm sp pr (PM M 11 mkI it.length 0) (PM M 8 mkI (i+1) 0) (PM M 1 (mkS mb) (i+1) 0) (PM M 2 mkI (i+1) 0) (PM M 2 mkI i k) w)) (fun v _=>n4-(intOf v).toNat)
       case atStart=>exact ⟨0,kab,rfl,H⟩
       case round=>
        clear H;obtain ⟨k,hk,rfl,l⟩:=hrel;obtain ⟨z,y,r0,r1,hg⟩:=l.o.rd4 I;by_cases j:k<n4
        ·obtain ⟨g,cur,rfl,r,c,m⟩:=hg (Nat.zero_lt_of_lt j);have d:k*2+2<=cur.size:=zpv j m;have d0:=zca (p:=k*2) c (zej 0 d kad);have f0:=zac c (k*2);have n:=zq c;have q:=zq d;clear c d m hg;go_wp2
         go_roundw
         case rel=>
          have hh:=zsq 1 n.o q.o (.int .i64 (-1-(i:Int)));exact ⟨k+1,j,by first|rfl|go_num,⟨l.o.mark4 I j hh.1 hh.2 r⟩⟩
         case measure=>exact zif j
        obtain rfl:n4=k:=kab;have H:=zq (l.o.next4 I);clear l hg;go_wp2
        go_roundw
        case rel=>exact ⟨i+1,x,by first|rfl|go_num,H⟩
        case measure=>exact zif x
   have X:i=kd.length:=kab;subst X;go_wp2;(first|go_end0|(refine qaf (qbb rfl _ _ _) rfl ?_));exact ⟨rfl,H.o⟩
end
section
theorem Grow.form {W:World} {b ty tyo sz M i o L:Nat} {it cur:List Value} {mk:Nat->Value} {out:Value} (h:Grow W b ty tyo sz M it cur mk i o out) (d:it.length=L) {j:Nat} (e:j<L):∃ A n c,cur[j]?=some (.slice A n c):=
 h.fam.form (by rw [h.len,d];exact e)
theorem Grow.see {W:World} {b ty tyo sz M L n l co i:Nat} {it cur:List Value} {mk:Nat->Value} {k j:Option Addr} (h:Grow W b ty tyo sz M it cur mk L L (.slice k L co)) (hi:i<L) (o:cur[i]?=some (.slice j n l)) :
  ∃ d,k=some ⟨d,0,none⟩/\n<=M+1/\W.cell? ⟨d,i,none⟩=some (.slice j n l)/\∀ q,q<n->∃ g,j=some ⟨g,0,none⟩/\W.cell? ⟨g,q*sz,none⟩=some (mk i):=by
 obtain ⟨A,c,e,J,s⟩:=h.row.form;injection e with r G I;subst r;obtain ⟨d,E,rfl,w,-⟩:=s kab;have u:=h.row.cell w i _ (by rw [List.getElem?_take,if_pos hi];exact o);obtain ⟨m,xs,p,z,U,B⟩:=h.fam.row i _ o;obtain ⟨A',c',hf,O,hg⟩:=p.form;injection hf with f1 f2 f3;subst f1;subst f2;refine ⟨d,rfl,z,u,fun q y=>?_⟩;obtain ⟨g,D,rfl,x,-⟩:=hg kab;exact ⟨g,rfl,p.cell x _ _ (B q y)⟩
structure ASt (W:World) (b B M:Nat) (mb:Nat->ByteArray) (it kd nm sp pr:List Value) (z0 z1 z2 z3 z4:Value) (c0:List Value) (i0 o0:Nat) (v0:Value) (c1:List Value) (i1 o1:Nat) (v1:Value) (c2:List Value) (i2 o2:Nat) (v2:Value) (c3:List Value) (i3 o3:Nat) (v3:Value) (c4:List Value) (i4 o4:Nat) (v4:Value) (wr:World):Prop where
 bel:Below b W wr
 sz:b<=wr.heap.size
 bk:BkV wr b B it kd nm sp pr z0 z1 z2 z3 z4
 g0:Grow wr b 62 34 11 M it c0 mkI i0 o0 v0
 g1:Grow wr b 60 58 8 M kd c1 mkI i1 o1 v1
 g2:Grow wr b 9 25 1 M nm c2 (mkS mb) i2 o2 v2
 g3:Grow wr b 68 57 2 M sp c3 mkI i3 o3 v3
 g4:Grow wr b 47 56 2 M pr c4 mkI i4 o4 v4
 p0:∀ g,v0.ownBlock=some g->z0.ownBlock≠some g
 p1:∀ g,v1.ownBlock=some g->z1.ownBlock≠some g
 p2:∀ g,v2.ownBlock=some g->z2.ownBlock≠some g
 p3:∀ g,v3.ownBlock=some g->z3.ownBlock≠some g
 p4:∀ g,v4.ownBlock=some g->z4.ownBlock≠some g
theorem ASt.step {W wr:World} {b B M:Nat} {mb:Nat->ByteArray} {it kd nm sp pr:List Value} {z0 z1 z2 z3 z4:Value} {c0:List Value} {i0 o0:Nat} {v0:Value} {c1:List Value} {i1 o1:Nat} {v1:Value} {c2:List Value} {i2 o2:Nat} {v2:Value} {c3:List Value} {i3 o3:Nat} {v3:Value} {c4:List Value} {i4 o4:Nat} {v4:Value} {d:World} (h:ASt W b B M mb it kd nm sp pr z0 z1 z2 z3 z4 c0 i0 o0 v0 c1 i1 o1 v1 c2 i2 o2 v2 c3 i3 o3 v3 c4 i4 o4 v4 wr) (c:Below wr.heap.size wr d):ASt W b B M mb it kd nm sp pr z0 z1 z2 z3 z4 c0 i0 o0 v0 c1 i1 o1 v1 c2 i2 o2 v2 c3 i3 o3 v3 c4 i4 o4 v4 d:=
 ⟨h.bel.trans (c.mono h.sz),qas h.sz c.size,h.bk.tfr (ts:=[]) (TFr.of_below c) (fun t _=>by simp),h.g0.tfr (ts:=[]) (TFr.of_below c) (by simp) (by simp),h.g1.tfr (ts:=[]) (TFr.of_below c) (by simp) (by simp),h.g2.tfr (ts:=[]) (TFr.of_below c) (by simp) (by simp),h.g3.tfr (ts:=[]) (TFr.of_below c) (by simp) (by simp),h.g4.tfr (ts:=[]) (TFr.of_below c) (by simp) (by simp),h.p0,h.p1,h.p2,h.p3,h.p4⟩
theorem ASt.drew {W wr:World} {b B M:Nat} {mb:Nat->ByteArray} {it kd nm sp pr:List Value} {z0 z1 z2 z3 z4:Value} {c0:List Value} {i0 o0:Nat} {v0:Value} {c1:List Value} {i1 o1:Nat} {v1:Value} {c2:List Value} {i2 o2:Nat} {v2:Value} {c3:List Value} {i3 o3:Nat} {v3:Value} {c4:List Value} {i4 o4:Nat} {v4:Value} (h:ASt W b B M mb it kd nm sp pr z0 z1 z2 z3 z4 c0 i0 o0 v0 c1 i1 o1 v1 c2 i2 o2 v2 c3 i3 o3 v3 c4 i4 o4 v4 wr):ASt W b B M mb it kd nm sp pr z0 z1 z2 z3 z4 c0 i0 o0 v0 c1 i1 o1 v1 c2 i2 o2 v2 c3 i3 o3 v3 c4 i4 o4 v4 wr.drew:=
 ⟨Below.drew h.bel,h.sz,h.bk.tfr (ts:=[]) ((TFr.refl wr []).drewN 1) (fun t _=>by simp),h.g0.tfr (ts:=[]) ((TFr.refl wr []).drewN 1) (by simp) (by simp),h.g1.tfr (ts:=[]) ((TFr.refl wr []).drewN 1) (by simp) (by simp),h.g2.tfr (ts:=[]) ((TFr.refl wr []).drewN 1) (by simp) (by simp),h.g3.tfr (ts:=[]) ((TFr.refl wr []).drewN 1) (by simp) (by simp),h.g4.tfr (ts:=[]) ((TFr.refl wr []).drewN 1) (by simp) (by simp),h.p0,h.p1,h.p2,h.p3,h.p4⟩
theorem ASt.len0 {W wr:World} {b B M:Nat} {mb:Nat->ByteArray} {it kd nm sp pr:List Value} {z0 z1 z2 z3 z4:Value} {c0:List Value} {i0 o0:Nat} {v0:Value} {c1:List Value} {i1 o1:Nat} {v1:Value} {c2:List Value} {i2 o2:Nat} {v2:Value} {c3:List Value} {i3 o3:Nat} {v3:Value} {c4:List Value} {i4 o4:Nat} {v4:Value} (h:ASt W b B M mb it kd nm sp pr z0 z1 z2 z3 z4 c0 i0 o0 v0 c1 i1 o1 v1 c2 i2 o2 v2 c3 i3 o3 v3 c4 i4 o4 v4 wr):∃ A c,wr.cell? ⟨B,0,none⟩=some (.slice A it.length c):=by
 have d:=h.bk;obtain ⟨A,c,e,-⟩:=d.r0.form;exact ⟨A,c,by rw [zab d.blk,<-e];rfl⟩
theorem ASt.rd0 {W wr:World} {b B M:Nat} {mb:Nat->ByteArray} {it kd nm sp pr:List Value} {z0 z1 z2 z3 z4:Value} {c0:List Value} {i0 o0:Nat} {v0:Value} {c1:List Value} {i1 o1:Nat} {v1:Value} {c2:List Value} {i2 o2:Nat} {v2:Value} {c3:List Value} {i3 o3:Nat} {v3:Value} {c4:List Value} {i4 o4:Nat} {v4:Value} {i:Nat} {X:Value} (h:ASt W b B M mb it kd nm sp pr z0 z1 z2 z3 z4 c0 i0 o0 v0 c1 i1 o1 v1 c2 i2 o2 v2 c3 i3 o3 v3 c4 i4 o4 v4 wr) (hi:it[i]?=some X):∃ d c,wr.cell? ⟨B,0,none⟩=some (.slice (some ⟨d,0,none⟩) it.length c)/\wr.cell? ⟨d,i,none⟩=some X:=by
 have e:=h.bk;have m:=(qav.1 hi).1;obtain ⟨A,c,rfl,-,j⟩:=e.r0.form;obtain ⟨d,l,rfl,k,-⟩:=j kab;exact ⟨d,c,by rw [zab e.blk];rfl,e.r0.cell k i _ hi⟩
theorem ASt.one0 {W wr:World} {b B M:Nat} {mb:Nat->ByteArray} {it kd nm sp pr:List Value} {z0 z1 z2 z3 z4:Value} {c0:List Value} {i:Nat} {v0:Value} {c1:List Value} {i1 o1:Nat} {v1:Value} {c2:List Value} {i2 o2:Nat} {v2:Value} {c3:List Value} {i3 o3:Nat} {v3:Value} {c4:List Value} {i4 o4:Nat} {v4:Value} {w1:World} {X V:Value} {n:Nat} {xs news:List Value} (h:ASt W b B M mb it kd nm sp pr z0 z1 z2 z3 z4 c0 i i v0 c1 i1 o1 v1 c2 i2 o2 v2 c3 i3 o3 v3 c4 i4 o4 v4 wr) (hi:c0[i]?=some X) (c:Row wr b 62 11 X n xs) (hn:n<=M) (j:MkF 11 (mkI i) xs n) (d:Row w1 b 62 11 V (n+1) (xs++news)) (hg:wr.grownBy w1 X.ownBlock)
  (e:V.ownBlock=X.ownBlock\/V.ownBlock=some (wr.heap.size+1)) (l:news[0]?=some (mkI i)):ASt W b B M mb it kd nm sp pr z0 z1 z2 z3 z4 (c0.set i V) (i+1) i v0 c1 i1 o1 v1 c2 i2 o2 v2 c3 i3 o3 v3 c4 i4 o4 v4 w1:=by
 have hf:=TFr.of_grown c hg;exact ⟨(Fr.of_grown (S:=fun k=>X.ownBlock=some k) hg (fun k hk=>hk)).below (fun k hk=>(c.blk hk).1) h.sz h.bel,qas h.sz hg.size,h.bk.tfr hf kad,h.g0.app1 kad hi c hn j d hg e l,h.g1.tfr hf kad kad,h.g2.tfr hf kad kad,h.g3.tfr hf kad kad,h.g4.tfr hf kad kad,h.p0,h.p1,h.p2,h.p3,h.p4⟩
theorem ASt.two0 {W wr:World} {b B M:Nat} {mb:Nat->ByteArray} {it kd nm sp pr:List Value} {z0 z1 z2 z3 z4:Value} {c0:List Value} {i:Nat} {v0:Value} {c1:List Value} {i1 o1:Nat} {v1:Value} {c2:List Value} {i2 o2:Nat} {v2:Value} {c3:List Value} {i3 o3:Nat} {v3:Value} {c4:List Value} {i4 o4:Nat} {v4:Value} {w1:World} {V v:Value} (h:ASt W b B M mb it kd nm sp pr z0 z1 z2 z3 z4 c0 (i+1) i v0 c1 i1 o1 v1 c2 i2 o2 v2 c3 i3 o3 v3 c4 i4 o4 v4 wr) (hi:c0[i]?=some V) (j:Row w1 b 34 1 v (i+1) (c0.take i++[V])) (hg:wr.grownBy w1 v0.ownBlock) (l:v.ownBlock=v0.ownBlock\/v.ownBlock=some (wr.heap.size+1)):ASt W b B M mb it kd nm sp pr z0 z1 z2 z3 z4 c0 (i+1) (i+1) v c1 i1 o1 v1 c2 i2 o2 v2 c3 i3 o3 v3 c4 i4 o4 v4 w1:=by
 have hf:=TFr.of_grown h.g0.row hg;have n:z0.ownBlock=none\/z0.ownBlock≠v0.ownBlock:=by
  cases c:z0.ownBlock with
  | none=>exact .inl rfl
  | some g=>exact .inr fun e=>h.p0 g e.symm c
 have hp:∀ g,v.ownBlock=some g->z0.ownBlock≠some g:=fun g c d=>by
  rcases l with e|e
  ·exact h.p0 g (e ▸ c) d
  rw [e] at c;have:=qaa c;have:=(h.bk.r0.blk d).2.1;omega
 exact ⟨(Fr.of_grown (S:=fun k=>v0.ownBlock=some k) hg (fun k hk=>hk)).below (fun q m=>(h.g0.row.blk m).1) h.sz h.bel,qas h.sz hg.size,⟨h.bk.low,hf.blk h.bk.blk kad,h.bk.r0.grown hg n,h.bk.r1.tfr hf kad,h.bk.r2.tfr hf kad,h.bk.r3.tfr hf kad,h.bk.r4.tfr hf kad⟩,h.g0.app2 kad hi j hg,h.g1.tfr hf kad kad,h.g2.tfr hf kad kad,h.g3.tfr hf kad kad,h.g4.tfr hf kad kad,hp,h.p1,h.p2,h.p3,h.p4⟩
theorem ASt.len1 {W wr:World} {b B M:Nat} {mb:Nat->ByteArray} {it kd nm sp pr:List Value} {z0 z1 z2 z3 z4:Value} {c0:List Value} {i0 o0:Nat} {v0:Value} {c1:List Value} {i1 o1:Nat} {v1:Value} {c2:List Value} {i2 o2:Nat} {v2:Value} {c3:List Value} {i3 o3:Nat} {v3:Value} {c4:List Value} {i4 o4:Nat} {v4:Value} (h:ASt W b B M mb it kd nm sp pr z0 z1 z2 z3 z4 c0 i0 o0 v0 c1 i1 o1 v1 c2 i2 o2 v2 c3 i3 o3 v3 c4 i4 o4 v4 wr):∃ A c,wr.cell? ⟨B,1,none⟩=some (.slice A kd.length c):=by
 have d:=h.bk;obtain ⟨A,c,e,-⟩:=d.r1.form;exact ⟨A,c,by rw [zab d.blk,<-e];rfl⟩
theorem ASt.rd1 {W wr:World} {b B M:Nat} {mb:Nat->ByteArray} {it kd nm sp pr:List Value} {z0 z1 z2 z3 z4:Value} {c0:List Value} {i0 o0:Nat} {v0:Value} {c1:List Value} {i1 o1:Nat} {v1:Value} {c2:List Value} {i2 o2:Nat} {v2:Value} {c3:List Value} {i3 o3:Nat} {v3:Value} {c4:List Value} {i4 o4:Nat} {v4:Value} {i:Nat} {X:Value} (h:ASt W b B M mb it kd nm sp pr z0 z1 z2 z3 z4 c0 i0 o0 v0 c1 i1 o1 v1 c2 i2 o2 v2 c3 i3 o3 v3 c4 i4 o4 v4 wr) (hi:kd[i]?=some X):∃ d c,wr.cell? ⟨B,1,none⟩=some (.slice (some ⟨d,0,none⟩) kd.length c)/\wr.cell? ⟨d,i,none⟩=some X:=by
 have e:=h.bk;have m:=(qav.1 hi).1;obtain ⟨A,c,rfl,-,j⟩:=e.r1.form;obtain ⟨d,l,rfl,k,-⟩:=j kab;exact ⟨d,c,by rw [zab e.blk];rfl,e.r1.cell k i _ hi⟩
theorem ASt.one1 {W wr:World} {b B M:Nat} {mb:Nat->ByteArray} {it kd nm sp pr:List Value} {z0 z1 z2 z3 z4:Value} {c0:List Value} {i0 o0:Nat} {v0:Value} {c1:List Value} {i:Nat} {v1:Value} {c2:List Value} {i2 o2:Nat} {v2:Value} {c3:List Value} {i3 o3:Nat} {v3:Value} {c4:List Value} {i4 o4:Nat} {v4:Value} {w1:World} {X V:Value} {n:Nat} {xs news:List Value} (h:ASt W b B M mb it kd nm sp pr z0 z1 z2 z3 z4 c0 i0 o0 v0 c1 i i v1 c2 i2 o2 v2 c3 i3 o3 v3 c4 i4 o4 v4 wr) (hi:c1[i]?=some X) (c:Row wr b 60 8 X n xs) (hn:n<=M) (j:MkF 8 (mkI i) xs n) (d:Row w1 b 60 8 V (n+1) (xs++news)) (hg:wr.grownBy w1 X.ownBlock)
  (e:V.ownBlock=X.ownBlock\/V.ownBlock=some (wr.heap.size+1)) (l:news[0]?=some (mkI i)):ASt W b B M mb it kd nm sp pr z0 z1 z2 z3 z4 c0 i0 o0 v0 (c1.set i V) (i+1) i v1 c2 i2 o2 v2 c3 i3 o3 v3 c4 i4 o4 v4 w1:=by
 have hf:=TFr.of_grown c hg;exact ⟨(Fr.of_grown (S:=fun k=>X.ownBlock=some k) hg (fun k hk=>hk)).below (fun k hk=>(c.blk hk).1) h.sz h.bel,qas h.sz hg.size,h.bk.tfr hf kad,h.g0.tfr hf kad kad,h.g1.app1 kad hi c hn j d hg e l,h.g2.tfr hf kad kad,h.g3.tfr hf kad kad,h.g4.tfr hf kad kad,h.p0,h.p1,h.p2,h.p3,h.p4⟩
theorem ASt.two1 {W wr:World} {b B M:Nat} {mb:Nat->ByteArray} {it kd nm sp pr:List Value} {z0 z1 z2 z3 z4:Value} {c0:List Value} {i0 o0:Nat} {v0:Value} {c1:List Value} {i:Nat} {v1:Value} {c2:List Value} {i2 o2:Nat} {v2:Value} {c3:List Value} {i3 o3:Nat} {v3:Value} {c4:List Value} {i4 o4:Nat} {v4:Value} {w1:World} {V v:Value} (h:ASt W b B M mb it kd nm sp pr z0 z1 z2 z3 z4 c0 i0 o0 v0 c1 (i+1) i v1 c2 i2 o2 v2 c3 i3 o3 v3 c4 i4 o4 v4 wr) (hi:c1[i]?=some V) (j:Row w1 b 58 1 v (i+1) (c1.take i++[V])) (hg:wr.grownBy w1 v1.ownBlock) (l:v.ownBlock=v1.ownBlock\/v.ownBlock=some (wr.heap.size+1)):ASt W b B M mb it kd nm sp pr z0 z1 z2 z3 z4 c0 i0 o0 v0 c1 (i+1) (i+1) v c2 i2 o2 v2 c3 i3 o3 v3 c4 i4 o4 v4 w1:=by
 have hf:=TFr.of_grown h.g1.row hg;have n:z1.ownBlock=none\/z1.ownBlock≠v1.ownBlock:=by
  cases c:z1.ownBlock with
  | none=>exact .inl rfl
  | some g=>exact .inr fun e=>h.p1 g e.symm c
 have hp:∀ g,v.ownBlock=some g->z1.ownBlock≠some g:=fun g c d=>by
  rcases l with e|e
  ·exact h.p1 g (e ▸ c) d
  rw [e] at c;have:=qaa c;have:=(h.bk.r1.blk d).2.1;omega
 exact ⟨(Fr.of_grown (S:=fun k=>v1.ownBlock=some k) hg (fun k hk=>hk)).below (fun q m=>(h.g1.row.blk m).1) h.sz h.bel,qas h.sz hg.size,⟨h.bk.low,hf.blk h.bk.blk kad,h.bk.r0.tfr hf kad,h.bk.r1.grown hg n,h.bk.r2.tfr hf kad,h.bk.r3.tfr hf kad,h.bk.r4.tfr hf kad⟩,h.g0.tfr hf kad kad,h.g1.app2 kad hi j hg,h.g2.tfr hf kad kad,h.g3.tfr hf kad kad,h.g4.tfr hf kad kad,h.p0,hp,h.p2,h.p3,h.p4⟩
theorem ASt.rd2 {W wr:World} {b B M:Nat} {mb:Nat->ByteArray} {it kd nm sp pr:List Value} {z0 z1 z2 z3 z4:Value} {c0:List Value} {i0 o0:Nat} {v0:Value} {c1:List Value} {i1 o1:Nat} {v1:Value} {c2:List Value} {i2 o2:Nat} {v2:Value} {c3:List Value} {i3 o3:Nat} {v3:Value} {c4:List Value} {i4 o4:Nat} {v4:Value} {i:Nat} {X:Value} (h:ASt W b B M mb it kd nm sp pr z0 z1 z2 z3 z4 c0 i0 o0 v0 c1 i1 o1 v1 c2 i2 o2 v2 c3 i3 o3 v3 c4 i4 o4 v4 wr) (hi:nm[i]?=some X):∃ d c,wr.cell? ⟨B,2,none⟩=some (.slice (some ⟨d,0,none⟩) nm.length c)/\wr.cell? ⟨d,i,none⟩=some X:=by
 have e:=h.bk;have m:=(qav.1 hi).1;obtain ⟨A,c,rfl,-,j⟩:=e.r2.form;obtain ⟨d,l,rfl,k,-⟩:=j kab;exact ⟨d,c,by rw [zab e.blk];rfl,e.r2.cell k i _ hi⟩
theorem ASt.one2 {W wr:World} {b B M:Nat} {mb:Nat->ByteArray} {it kd nm sp pr:List Value} {z0 z1 z2 z3 z4:Value} {c0:List Value} {i0 o0:Nat} {v0:Value} {c1:List Value} {i1 o1:Nat} {v1:Value} {c2:List Value} {i:Nat} {v2:Value} {c3:List Value} {i3 o3:Nat} {v3:Value} {c4:List Value} {i4 o4:Nat} {v4:Value} {w1:World} {X V:Value} {n:Nat} {xs news:List Value} (h:ASt W b B M mb it kd nm sp pr z0 z1 z2 z3 z4 c0 i0 o0 v0 c1 i1 o1 v1 c2 i i v2 c3 i3 o3 v3 c4 i4 o4 v4 wr) (hi:c2[i]?=some X) (c:Row wr b 9 1 X n xs) (hn:n<=M) (j:MkF 1 ((mkS mb) i) xs n) (d:Row w1 b 9 1 V (n+1) (xs++news)) (hg:wr.grownBy w1 X.ownBlock)
  (e:V.ownBlock=X.ownBlock\/V.ownBlock=some (wr.heap.size+1)) (l:news[0]?=some ((mkS mb) i)):ASt W b B M mb it kd nm sp pr z0 z1 z2 z3 z4 c0 i0 o0 v0 c1 i1 o1 v1 (c2.set i V) (i+1) i v2 c3 i3 o3 v3 c4 i4 o4 v4 w1:=by
 have hf:=TFr.of_grown c hg;exact ⟨(Fr.of_grown (S:=fun k=>X.ownBlock=some k) hg (fun k hk=>hk)).below (fun k hk=>(c.blk hk).1) h.sz h.bel,qas h.sz hg.size,h.bk.tfr hf kad,h.g0.tfr hf kad kad,h.g1.tfr hf kad kad,h.g2.app1 kad hi c hn j d hg e l,h.g3.tfr hf kad kad,h.g4.tfr hf kad kad,h.p0,h.p1,h.p2,h.p3,h.p4⟩
theorem ASt.two2 {W wr:World} {b B M:Nat} {mb:Nat->ByteArray} {it kd nm sp pr:List Value} {z0 z1 z2 z3 z4:Value} {c0:List Value} {i0 o0:Nat} {v0:Value} {c1:List Value} {i1 o1:Nat} {v1:Value} {c2:List Value} {i:Nat} {v2:Value} {c3:List Value} {i3 o3:Nat} {v3:Value} {c4:List Value} {i4 o4:Nat} {v4:Value} {w1:World} {V v:Value} (h:ASt W b B M mb it kd nm sp pr z0 z1 z2 z3 z4 c0 i0 o0 v0 c1 i1 o1 v1 c2 (i+1) i v2 c3 i3 o3 v3 c4 i4 o4 v4 wr) (hi:c2[i]?=some V) (j:Row w1 b 25 1 v (i+1) (c2.take i++[V])) (hg:wr.grownBy w1 v2.ownBlock) (l:v.ownBlock=v2.ownBlock\/v.ownBlock=some (wr.heap.size+1)):ASt W b B M mb it kd nm sp pr z0 z1 z2 z3 z4 c0 i0 o0 v0 c1 i1 o1 v1 c2 (i+1) (i+1) v c3 i3 o3 v3 c4 i4 o4 v4 w1:=by
 have hf:=TFr.of_grown h.g2.row hg;have n:z2.ownBlock=none\/z2.ownBlock≠v2.ownBlock:=by
  cases c:z2.ownBlock with
  | none=>exact .inl rfl
  | some g=>exact .inr fun e=>h.p2 g e.symm c
 have hp:∀ g,v.ownBlock=some g->z2.ownBlock≠some g:=fun g c d=>by
  rcases l with e|e
  ·exact h.p2 g (e ▸ c) d
  rw [e] at c;have:=qaa c;have:=(h.bk.r2.blk d).2.1;omega
 exact ⟨(Fr.of_grown (S:=fun k=>v2.ownBlock=some k) hg (fun k hk=>hk)).below (fun q m=>(h.g2.row.blk m).1) h.sz h.bel,qas h.sz hg.size,⟨h.bk.low,hf.blk h.bk.blk kad,h.bk.r0.tfr hf kad,h.bk.r1.tfr hf kad,h.bk.r2.grown hg n,h.bk.r3.tfr hf kad,h.bk.r4.tfr hf kad⟩,h.g0.tfr hf kad kad,h.g1.tfr hf kad kad,h.g2.app2 kad hi j hg,h.g3.tfr hf kad kad,h.g4.tfr hf kad kad,h.p0,h.p1,hp,h.p3,h.p4⟩
theorem ASt.rd3 {W wr:World} {b B M:Nat} {mb:Nat->ByteArray} {it kd nm sp pr:List Value} {z0 z1 z2 z3 z4:Value} {c0:List Value} {i0 o0:Nat} {v0:Value} {c1:List Value} {i1 o1:Nat} {v1:Value} {c2:List Value} {i2 o2:Nat} {v2:Value} {c3:List Value} {i3 o3:Nat} {v3:Value} {c4:List Value} {i4 o4:Nat} {v4:Value} {i:Nat} {X:Value} (h:ASt W b B M mb it kd nm sp pr z0 z1 z2 z3 z4 c0 i0 o0 v0 c1 i1 o1 v1 c2 i2 o2 v2 c3 i3 o3 v3 c4 i4 o4 v4 wr) (hi:sp[i]?=some X):∃ d c,wr.cell? ⟨B,3,none⟩=some (.slice (some ⟨d,0,none⟩) sp.length c)/\wr.cell? ⟨d,i,none⟩=some X:=by
 have e:=h.bk;have m:=(qav.1 hi).1;obtain ⟨A,c,rfl,-,j⟩:=e.r3.form;obtain ⟨d,l,rfl,k,-⟩:=j kab;exact ⟨d,c,by rw [zab e.blk];rfl,e.r3.cell k i _ hi⟩
theorem ASt.one3 {W wr:World} {b B M:Nat} {mb:Nat->ByteArray} {it kd nm sp pr:List Value} {z0 z1 z2 z3 z4:Value} {c0:List Value} {i0 o0:Nat} {v0:Value} {c1:List Value} {i1 o1:Nat} {v1:Value} {c2:List Value} {i2 o2:Nat} {v2:Value} {c3:List Value} {i:Nat} {v3:Value} {c4:List Value} {i4 o4:Nat} {v4:Value} {w1:World} {X V:Value} {n:Nat} {xs news:List Value} (h:ASt W b B M mb it kd nm sp pr z0 z1 z2 z3 z4 c0 i0 o0 v0 c1 i1 o1 v1 c2 i2 o2 v2 c3 i i v3 c4 i4 o4 v4 wr) (hi:c3[i]?=some X) (c:Row wr b 68 2 X n xs) (hn:n<=M) (j:MkF 2 (mkI i) xs n) (d:Row w1 b 68 2 V (n+1) (xs++news)) (hg:wr.grownBy w1 X.ownBlock)
  (e:V.ownBlock=X.ownBlock\/V.ownBlock=some (wr.heap.size+1)) (l:news[0]?=some (mkI i)):ASt W b B M mb it kd nm sp pr z0 z1 z2 z3 z4 c0 i0 o0 v0 c1 i1 o1 v1 c2 i2 o2 v2 (c3.set i V) (i+1) i v3 c4 i4 o4 v4 w1:=by
 have hf:=TFr.of_grown c hg;exact ⟨(Fr.of_grown (S:=fun k=>X.ownBlock=some k) hg (fun k hk=>hk)).below (fun k hk=>(c.blk hk).1) h.sz h.bel,qas h.sz hg.size,h.bk.tfr hf kad,h.g0.tfr hf kad kad,h.g1.tfr hf kad kad,h.g2.tfr hf kad kad,h.g3.app1 kad hi c hn j d hg e l,h.g4.tfr hf kad kad,h.p0,h.p1,h.p2,h.p3,h.p4⟩
theorem ASt.two3 {W wr:World} {b B M:Nat} {mb:Nat->ByteArray} {it kd nm sp pr:List Value} {z0 z1 z2 z3 z4:Value} {c0:List Value} {i0 o0:Nat} {v0:Value} {c1:List Value} {i1 o1:Nat} {v1:Value} {c2:List Value} {i2 o2:Nat} {v2:Value} {c3:List Value} {i:Nat} {v3:Value} {c4:List Value} {i4 o4:Nat} {v4:Value} {w1:World} {V v:Value} (h:ASt W b B M mb it kd nm sp pr z0 z1 z2 z3 z4 c0 i0 o0 v0 c1 i1 o1 v1 c2 i2 o2 v2 c3 (i+1) i v3 c4 i4 o4 v4 wr) (hi:c3[i]?=some V) (j:Row w1 b 57 1 v (i+1) (c3.take i++[V])) (hg:wr.grownBy w1 v3.ownBlock) (l:v.ownBlock=v3.ownBlock\/v.ownBlock=some (wr.heap.size+1)):ASt W b B M mb it kd nm sp pr z0 z1 z2 z3 z4 c0 i0 o0 v0 c1 i1 o1 v1 c2 i2 o2 v2 c3 (i+1) (i+1) v c4 i4 o4 v4 w1:=by
 have hf:=TFr.of_grown h.g3.row hg;have n:z3.ownBlock=none\/z3.ownBlock≠v3.ownBlock:=by
  cases c:z3.ownBlock with
  | none=>exact .inl rfl
  | some g=>exact .inr fun e=>h.p3 g e.symm c
 have hp:∀ g,v.ownBlock=some g->z3.ownBlock≠some g:=fun g c d=>by
  rcases l with e|e
  ·exact h.p3 g (e ▸ c) d
  rw [e] at c;have:=qaa c;have:=(h.bk.r3.blk d).2.1;omega
 exact ⟨(Fr.of_grown (S:=fun k=>v3.ownBlock=some k) hg (fun k hk=>hk)).below (fun q m=>(h.g3.row.blk m).1) h.sz h.bel,qas h.sz hg.size,⟨h.bk.low,hf.blk h.bk.blk kad,h.bk.r0.tfr hf kad,h.bk.r1.tfr hf kad,h.bk.r2.tfr hf kad,h.bk.r3.grown hg n,h.bk.r4.tfr hf kad⟩,h.g0.tfr hf kad kad,h.g1.tfr hf kad kad,h.g2.tfr hf kad kad,h.g3.app2 kad hi j hg,h.g4.tfr hf kad kad,h.p0,h.p1,h.p2,hp,h.p4⟩
theorem ASt.rd4 {W wr:World} {b B M:Nat} {mb:Nat->ByteArray} {it kd nm sp pr:List Value} {z0 z1 z2 z3 z4:Value} {c0:List Value} {i0 o0:Nat} {v0:Value} {c1:List Value} {i1 o1:Nat} {v1:Value} {c2:List Value} {i2 o2:Nat} {v2:Value} {c3:List Value} {i3 o3:Nat} {v3:Value} {c4:List Value} {i4 o4:Nat} {v4:Value} {i:Nat} {X:Value} (h:ASt W b B M mb it kd nm sp pr z0 z1 z2 z3 z4 c0 i0 o0 v0 c1 i1 o1 v1 c2 i2 o2 v2 c3 i3 o3 v3 c4 i4 o4 v4 wr) (hi:pr[i]?=some X):∃ d c,wr.cell? ⟨B,4,none⟩=some (.slice (some ⟨d,0,none⟩) pr.length c)/\wr.cell? ⟨d,i,none⟩=some X:=by
 have e:=h.bk;have m:=(qav.1 hi).1;obtain ⟨A,c,rfl,-,j⟩:=e.r4.form;obtain ⟨d,l,rfl,k,-⟩:=j kab;exact ⟨d,c,by rw [zab e.blk];rfl,e.r4.cell k i _ hi⟩
theorem ASt.one4 {W wr:World} {b B M:Nat} {mb:Nat->ByteArray} {it kd nm sp pr:List Value} {z0 z1 z2 z3 z4:Value} {c0:List Value} {i0 o0:Nat} {v0:Value} {c1:List Value} {i1 o1:Nat} {v1:Value} {c2:List Value} {i2 o2:Nat} {v2:Value} {c3:List Value} {i3 o3:Nat} {v3:Value} {c4:List Value} {i:Nat} {v4:Value} {w1:World} {X V:Value} {n:Nat} {xs news:List Value} (h:ASt W b B M mb it kd nm sp pr z0 z1 z2 z3 z4 c0 i0 o0 v0 c1 i1 o1 v1 c2 i2 o2 v2 c3 i3 o3 v3 c4 i i v4 wr) (hi:c4[i]?=some X) (c:Row wr b 47 2 X n xs) (hn:n<=M) (j:MkF 2 (mkI i) xs n) (d:Row w1 b 47 2 V (n+1) (xs++news)) (hg:wr.grownBy w1 X.ownBlock)
  (e:V.ownBlock=X.ownBlock\/V.ownBlock=some (wr.heap.size+1)) (l:news[0]?=some (mkI i)):ASt W b B M mb it kd nm sp pr z0 z1 z2 z3 z4 c0 i0 o0 v0 c1 i1 o1 v1 c2 i2 o2 v2 c3 i3 o3 v3 (c4.set i V) (i+1) i v4 w1:=by
 have hf:=TFr.of_grown c hg;exact ⟨(Fr.of_grown (S:=fun k=>X.ownBlock=some k) hg (fun k hk=>hk)).below (fun k hk=>(c.blk hk).1) h.sz h.bel,qas h.sz hg.size,h.bk.tfr hf kad,h.g0.tfr hf kad kad,h.g1.tfr hf kad kad,h.g2.tfr hf kad kad,h.g3.tfr hf kad kad,h.g4.app1 kad hi c hn j d hg e l,h.p0,h.p1,h.p2,h.p3,h.p4⟩
theorem ASt.two4 {W wr:World} {b B M:Nat} {mb:Nat->ByteArray} {it kd nm sp pr:List Value} {z0 z1 z2 z3 z4:Value} {c0:List Value} {i0 o0:Nat} {v0:Value} {c1:List Value} {i1 o1:Nat} {v1:Value} {c2:List Value} {i2 o2:Nat} {v2:Value} {c3:List Value} {i3 o3:Nat} {v3:Value} {c4:List Value} {i:Nat} {v4:Value} {w1:World} {V v:Value} (h:ASt W b B M mb it kd nm sp pr z0 z1 z2 z3 z4 c0 i0 o0 v0 c1 i1 o1 v1 c2 i2 o2 v2 c3 i3 o3 v3 c4 (i+1) i v4 wr) (hi:c4[i]?=some V) (j:Row w1 b 56 1 v (i+1) (c4.take i++[V])) (hg:wr.grownBy w1 v4.ownBlock) (l:v.ownBlock=v4.ownBlock\/v.ownBlock=some (wr.heap.size+1)):ASt W b B M mb it kd nm sp pr z0 z1 z2 z3 z4 c0 i0 o0 v0 c1 i1 o1 v1 c2 i2 o2 v2 c3 i3 o3 v3 c4 (i+1) (i+1) v w1:=by
 have hf:=TFr.of_grown h.g4.row hg;have n:z4.ownBlock=none\/z4.ownBlock≠v4.ownBlock:=by
  cases c:z4.ownBlock with
  | none=>exact .inl rfl
  | some g=>exact .inr fun e=>h.p4 g e.symm c
 have hp:∀ g,v.ownBlock=some g->z4.ownBlock≠some g:=fun g c d=>by
  rcases l with e|e
  ·exact h.p4 g (e ▸ c) d
  rw [e] at c;have:=qaa c;have:=(h.bk.r4.blk d).2.1;omega
 exact ⟨(Fr.of_grown (S:=fun k=>v4.ownBlock=some k) hg (fun k hk=>hk)).below (fun q m=>(h.g4.row.blk m).1) h.sz h.bel,qas h.sz hg.size,⟨h.bk.low,hf.blk h.bk.blk kad,h.bk.r0.tfr hf kad,h.bk.r1.tfr hf kad,h.bk.r2.tfr hf kad,h.bk.r3.tfr hf kad,h.bk.r4.grown hg n⟩,h.g0.tfr hf kad kad,h.g1.tfr hf kad kad,h.g2.tfr hf kad kad,h.g3.tfr hf kad kad,h.g4.app2 kad hi j hg,h.p0,h.p1,h.p2,h.p3,hp⟩
end
section
theorem ASt.start {W wr:World} {b B M:Nat} {mb:Nat->ByteArray} {it kd nm sp pr:List Value} (h:MSt W b B it kd nm sp pr (PM M 11 mkI it.length 0) (PM M 8 mkI kd.length 0) (PM M 1 (mkS mb) kd.length 0) (PM M 2 mkI kd.length 0) (PM M 2 mkI kd.length 0) wr) (l2:nm.length=kd.length) (l3:sp.length=kd.length) (l4:pr.length=kd.length) :
  ∃ z0 z1 z2 z3 z4,ASt W b B M mb it kd nm sp pr z0 z1 z2 z3 z4 it 0 0 (.slice none 0 0) kd 0 0 (.slice none 0 0) nm 0 0 (.slice none 0 0) sp 0 0 (.slice none 0 0) pr 0 0 (.slice none 0 0) wr:=by
 obtain ⟨z0,z1,z2,z3,z4,c⟩:=h.bk;obtain ⟨fi,fk,fn,fs,fp⟩:=h.fams;refine ⟨z0,z1,z2,z3,z4,h.bel,h.sz,c,Grow.start fi.marked,Grow.start fk.marked,Grow.start (by rw [<-l2] at fn;exact fn.marked),Grow.start (by rw [<-l3] at fs;exact fs.marked),Grow.start (by rw [<-l4] at fp;exact fp.marked),?_,?_,?_,?_,?_⟩;all_goals exact fun g hg=>by simp [Value.ownBlock] at hg
theorem zfu {i n m:Nat} (h:i<n) (e:m=n):i<m:=kab
theorem zpd {l:List Value} {i:Nat} {X V:Value} (h:l[i]?=some X):(l.set i V)[i]?=some V:=by
 rw [List.getElem?_set_self (qav.1 h).1]
theorem apart_calls (mb:Nat->ByteArray) (aB:∀ i:Nat,i<=100000->∀ W,Calls prog 38 #[.int .i64 i] W fun e W'=>e = .returned (.string (mb i))/\Below W.heap.size W W')
  (W:World) (b B M:Nat) (it kd nm sp pr:List Value) (hM:M<=100000) (h:MSt W b B it kd nm sp pr (PM M 11 mkI 0 0) (PM M 8 mkI 0 0) (PM M 1 (mkS mb) 0 0) (PM M 2 mkI 0 0) (PM M 2 mkI 0 0) W) (hit:it.length<=1000) (aA:kd.length<=100000) (l2:nm.length=kd.length) (l3:sp.length=kd.length) (l4:pr.length=kd.length) :
  Calls prog 15 #[.pointer (some ⟨B,0,none⟩)] W fun e W'=>e = .returned (.bool true)/\Below b W W':=by
 have aO:=zq (marked_calls mb aB W b B M it kd nm sp pr hM h hit aA l2 l3 l4);have aP:=zq aB;have r:=zq (And.intro l2 (And.intro l3 l4));clear h aB l2 l3 l4;go_enter func15,ntmps15;go_upto_region 2 with (go_at_call 37;refine aO.o.mono ?_;rintro e1 w1 ⟨rfl,aZ⟩;have ad:=zq aZ;clear aZ);obtain ⟨z0,z1,z2,z3,z4,hS⟩:=ASt.start ad.o r.o.1 r.o.2.1 r.o.2.2;have H0:=zq hS;clear hS ad aO;go_wp2
 go_loopw [3,4] (fun v3 v w=>∃ (i:Nat) (c0:List Value),i<=it.length/\v = .int .i64 i/\Zq (ASt W b B M mb it kd nm sp pr z0 z1 z2 z3 z4 c0 i i v3 kd 0 0 (.slice none 0 0) nm 0 0 (.slice none 0 0) sp 0 0 (.slice none 0 0) pr 0 0 (.slice none 0 0) w)) (fun _ v _=>it.length-(intOf v).toNat)
 case atStart=>exact ⟨0,it,qbx _,rfl,H0⟩
 case round=>
  clear H0;obtain ⟨i,c0,hi,rfl,H⟩:=hrel;by_cases c:i<it.length
  ·have Z:i<=1000:=qas hi hit;obtain ⟨X0,u,bF,a0,b0,aC,bx,bq⟩:=H.o.g0.at (i:=i) c;obtain ⟨aH,aT,rfl,-,-⟩:=aC.form;obtain ⟨a7,bK,r0,s0⟩:=H.o.rd0 a0;have ae:=zq aC;have b8:=zq bq;clear aC bq;obtain ⟨s,co,rfl,-,-⟩:=H.o.g0.row.form;go_wp2_with (first
    | ((with_reducible refine zas (b := .append) (xs:=#[.tmp 36,.tmp 40]) rfl ?_);at_builtin;refine zbi (w0:=W) b rfl (.tmp 36) (.tmp 40) 34 62 (.agg #[.int .i64 0,.string ⟨#[]⟩,.int .i64 0,.string ⟨#[]⟩,.string ⟨#[]⟩,.slice none 0 0,.slice none 0 0,.slice none 0 0,.slice none 0 0,.int .i64 0,.int .i64 0]) 11 176 rfl rfl rfl rfl kad (.slice aH u aT) u bF [.int .i64 (-1-(i:Int)),.string ⟨#[]⟩,.int .i64 0,.string ⟨#[]⟩,.string ⟨#[]⟩,.slice none 0 0,.slice none 0 0,.slice none 0 0,.slice none 0 0,.int .i64 0,.int .i64 0] rfl rfl rfl ?aU ae.o H.o.sz ?aM ?aL ?_;(case aU=>intro y j;simp only [qcj,List.not_mem_nil,or_false] at j;rcases j with rfl|rfl|rfl|rfl|rfl|rfl|rfl|rfl|rfl|rfl|rfl<;>rfl);(case aM=>simp only [maxLen];omega);(case aL=>omega);intro y0 w1 hr hg d n _;obtain ⟨Y0,k0,rfl,-,-⟩:=hr.form;have D:=zq (H.o.one0 b0 ae.o bx b8.o hr hg d rfl);clear hr hg d n)
    | ((with_reducible refine zas (b := .append) (xs:=#[.tmp 29,.tmp 42]) rfl ?_);at_builtin;refine zbi (w0:=W) b rfl (.tmp 29) (.tmp 42) 27 34 (.slice none 0 0) 1 24 rfl rfl rfl rfl kad (.slice s i co) i ((c0.set i (.slice Y0 (u+1) k0)).take i) [.slice Y0 (u+1) k0] rfl rfl rfl ?aU D.o.g0.row D.o.sz ?aM ?aL ?_;(case aU=>intro y j;simp at j;subst j;rfl);(case aM=>simp only [maxLen];omega);(case aL=>omega);intro y0 w2 hr hg d n _;obtain ⟨Z0,q0,rfl,-,-⟩:=hr.form;have J:=zq (D.o.two0 (zpd b0) hr hg d);clear hr hg d n))
   go_roundw
   case rel=>exact ⟨i+1,_,c,by first|rfl|go_num,J⟩
   case measure=>exact zif c
  have G:i=it.length:=qcd hi (qca c);subst G;clear c hi;obtain ⟨Ab,cb,bp⟩:=H.o.len0;obtain ⟨s,co,rfl,-,-⟩:=H.o.g0.row.form;go_wp2
  go_loopw [5,6,7,8,9] (fun v5 v6 v7 v8 v w=>∃ (i:Nat) (c1 c2 c3 c4:List Value),i<=kd.length/\v = .int .i64 i/\Zq (ASt W b B M mb it kd nm sp pr z0 z1 z2 z3 z4 c0 it.length it.length (.slice s it.length co) c1 i i v5 c2 i i v6 c3 i i v7 c4 i i v8 w)) (fun _ _ _ _ v _=>kd.length-(intOf v).toNat)
  case atStart=>exact ⟨0,kd,nm,sp,pr,qbx _,rfl,H⟩
  case round=>
   clear H bp;obtain ⟨i,c1,c2,c3,c4,hi,rfl,H⟩:=hrel;by_cases c:i<kd.length
   ·have Z:i<=100000:=qas hi aA;have bQ:i<nm.length:=zfu c r.o.1;have bR:i<sp.length:=zfu c r.o.2.1;have bS:i<pr.length:=zfu c r.o.2.2;obtain ⟨X1,x,bG,a1,b1,aD,bz,br⟩:=H.o.g1.at (i:=i) c;obtain ⟨aI,aV,rfl,-,-⟩:=aD.form;obtain ⟨U,bL,r1,s1⟩:=H.o.rd1 a1;have ab:=zq aD;have ad:=zq br;clear aD br;obtain ⟨X,o1,rfl,-,-⟩:=H.o.g1.row.form;obtain ⟨O,o2,rfl,-,-⟩:=H.o.g2.row.form;obtain ⟨E,o3,rfl,-,-⟩:=H.o.g3.row.form;obtain ⟨A,o4,rfl,-,-⟩:=H.o.g4.row.form;go_wp2_with (first
     | ((with_reducible refine zas (b := .append) (xs:=#[.tmp 60,.tmp 64]) rfl ?_);at_builtin;refine zbi (w0:=W) b rfl (.tmp 60) (.tmp 64) 58 60 (.agg #[.int .i64 0,.string ⟨#[]⟩,.string ⟨#[]⟩,.slice none 0 0,.slice none 0 0,.slice none 0 0,.slice none 0 0,.int .i64 0]) 8 144 rfl rfl rfl rfl kad (.slice aI x aV) x bG [.int .i64 (-1-(i:Int)),.string ⟨#[]⟩,.string ⟨#[]⟩,.slice none 0 0,.slice none 0 0,.slice none 0 0,.slice none 0 0,.int .i64 0] rfl rfl rfl ?aU ab.o H.o.sz ?aM ?aL ?_;(case aU=>intro y j;simp only [qcj,List.not_mem_nil,or_false] at j;rcases j with rfl|rfl|rfl|rfl|rfl|rfl|rfl|rfl<;>rfl);(case aM=>simp only [maxLen];omega);(case aL=>omega);intro y1 w1 hr hg d n _;obtain ⟨Y1,k1,rfl,-,-⟩:=hr.form;have D:=zq (H.o.one1 b1 ab.o bz ad.o hr hg d rfl);clear hr hg d n)
     | ((with_reducible refine zas (b := .append) (xs:=#[.tmp 53,.tmp 66]) rfl ?_);at_builtin;refine zbi (w0:=W) b rfl (.tmp 53) (.tmp 66) 28 58 (.slice none 0 0) 1 24 rfl rfl rfl rfl kad (.slice X i o1) i ((c1.set i (.slice Y1 (x+1) k1)).take i) [.slice Y1 (x+1) k1] rfl rfl rfl ?aU D.o.g1.row D.o.sz ?aM ?aL ?_;(case aU=>intro y j;simp at j;subst j;rfl);(case aM=>simp only [maxLen];omega);(case aL=>omega);intro y1 w2 hr hg d n _;obtain ⟨Z1,q1,rfl,-,-⟩:=hr.form;have J:=zq (D.o.two1 (zpd b1) hr hg d);clear hr hg d n;obtain ⟨X2,z,bH,a2,b2,aE,b5,bu⟩:=J.o.g2.at (i:=i) (zfu c r.o.1);obtain ⟨aJ,aW,rfl,-,-⟩:=aE.form;obtain ⟨Y,bM,r2,s2⟩:=J.o.rd2 a2;have aQ:=zq aE;have b9:=zq bu;clear aE bu))
    go_region_law (first
     | (go_simp;go_at_call 38;refine (aP.o i Z _).mono ?_;rintro e3 I ⟨rfl,p⟩;(first|(have L:=zq (J.o.step p))|(have L:=zq (J.o.drew.step p)));(first|(have a6:=zq (aQ.o.tfr (ts:=[]) (TFr.of_below p) (by simp)))|(have a6:=zq (aQ.o.drew.tfr (ts:=[]) (TFr.of_below p) (by simp))));have bD:=zag p r2;have bE:=zag p s2;have bT:=fun o=>zag (zad (qan I.heap.size I) o) bD;have bU:=fun o=>zag (zad (qan I.heap.size I) o) bE;clear p)
     | (refine zcg (W:=I) (I.heap.size) rfl b (by rfl) (.tmp 75) (.tmp 78) 25 9 (.string ⟨#[]⟩) 1 16 rfl rfl rfl rfl kad (.slice aJ z aW) z bH [.string (mb i)] rfl rfl rfl rfl ?aU a6.o L.o.sz ?aM ?aL ?_;(case aU=>intro y j;simp only [qcj,List.not_mem_nil,or_false] at j;subst j;rfl);(case aM=>simp only [maxLen];omega);(case aL=>omega);intro y2 w4 hr hg d n;obtain ⟨Y2,k2,rfl,-,-⟩:=hr.form;have H4:=zq (L.o.one2 b2 a6.o b5 b9.o hr hg d rfl);clear hr hg d n)
     | (refine zcg (W:=w4) (w4.heap.size) rfl b (by rfl) (.tmp 68) (.tmp 80) 29 25 (.slice none 0 0) 1 24 rfl rfl rfl rfl kad (.slice O i o2) i ((c2.set i (.slice Y2 (z+1) k2)).take i) [.slice Y2 (z+1) k2] rfl rfl rfl rfl ?aU H4.o.g2.row H4.o.sz ?aM ?aL ?_;(case aU=>intro y j;simp at j;subst j;rfl);(case aM=>simp only [maxLen];omega);(case aL=>omega);intro y2 w5 hr hg d n;obtain ⟨Z2,q2,rfl,-,-⟩:=hr.form;have H5:=zq (H4.o.two2 (zpd b2) hr hg d);clear hr hg d n;obtain ⟨X3,n3,bI,a3,b3,aF,b6,bv⟩:=H5.o.g3.at (i:=i) (zfu c r.o.2.1);obtain ⟨aK,aX,rfl,-,-⟩:=aF.form;obtain ⟨af,bN,r3,s3⟩:=H5.o.rd3 a3;have aR:=zq aF;have bA:=zq bv;clear aF bv))
    all_goals (go_wp2_with (first
     | ((with_reducible refine zas (b := .append) (xs:=#[.tmp 89,.tmp 93]) rfl ?_);at_builtin;refine zbi (w0:=W) b rfl (.tmp 89) (.tmp 93) 57 68 (.agg #[.int .i64 0,.int .i64 0]) 2 16 rfl rfl rfl rfl kad (.slice aK n3 aX) n3 bI [.int .i64 (-1-(i:Int)),.int .i64 0] rfl rfl rfl ?aU aR.o H5.o.sz ?aM ?aL ?_;(case aU=>intro y j;simp only [qcj,List.not_mem_nil,or_false] at j;rcases j with rfl|rfl<;>rfl);(case aM=>simp only [maxLen];omega);(case aL=>omega);intro y3 w6 hr hg d n _;obtain ⟨Y3,k3,rfl,-,-⟩:=hr.form;have H6:=zq (H5.o.one3 b3 aR.o b6 bA.o hr hg d rfl);clear hr hg d n)
     | ((with_reducible refine zas (b := .append) (xs:=#[.tmp 82,.tmp 95]) rfl ?_);at_builtin;refine zbi (w0:=W) b rfl (.tmp 82) (.tmp 95) 30 57 (.slice none 0 0) 1 24 rfl rfl rfl rfl kad (.slice E i o3) i ((c3.set i (.slice Y3 (n3+1) k3)).take i) [.slice Y3 (n3+1) k3] rfl rfl rfl ?aU H6.o.g3.row H6.o.sz ?aM ?aL ?_;(case aU=>intro y j;simp at j;subst j;rfl);(case aM=>simp only [maxLen];omega);(case aL=>omega);intro y3 w7 hr hg d n _;obtain ⟨Z3,q3,rfl,-,-⟩:=hr.form;have H7:=zq (H6.o.two3 (zpd b3) hr hg d);clear hr hg d n;obtain ⟨X4,n4,bJ,a4,b4,aG,b7,bw⟩:=H7.o.g4.at (i:=i) (zfu c r.o.2.2);obtain ⟨aN,aY,rfl,-,-⟩:=aG.form;obtain ⟨a8,bO,r4,s4⟩:=H7.o.rd4 a4;have aS:=zq aG;have bB:=zq bw;clear aG bw)
     | ((with_reducible refine zas (b := .append) (xs:=#[.tmp 104,.tmp 108]) rfl ?_);at_builtin;refine zbi (w0:=W) b rfl (.tmp 104) (.tmp 108) 56 47 (.agg #[.int .i64 0,.int .i64 0]) 2 16 rfl rfl rfl rfl kad (.slice aN n4 aY) n4 bJ [.int .i64 (-1-(i:Int)),.int .i64 0] rfl rfl rfl ?aU aS.o H7.o.sz ?aM ?aL ?_;(case aU=>intro y j;simp only [qcj,List.not_mem_nil,or_false] at j;rcases j with rfl|rfl<;>rfl);(case aM=>simp only [maxLen];omega);(case aL=>omega);intro y4 w8 hr hg d n _;obtain ⟨Y4,k4,rfl,-,-⟩:=hr.form;have H8:=zq (H7.o.one4 b4 aS.o b7 bB.o hr hg d rfl);clear hr hg d n)
     | ((with_reducible refine zas (b := .append) (xs:=#[.tmp 97,.tmp 110]) rfl ?_);at_builtin;refine zbi (w0:=W) b rfl (.tmp 97) (.tmp 110) 31 56 (.slice none 0 0) 1 24 rfl rfl rfl rfl kad (.slice A i o4) i ((c4.set i (.slice Y4 (n4+1) k4)).take i) [.slice Y4 (n4+1) k4] rfl rfl rfl ?aU H8.o.g4.row H8.o.sz ?aM ?aL ?_;(case aU=>intro y j;simp at j;subst j;rfl);(case aM=>simp only [maxLen];omega);(case aL=>omega);intro y4 w9 hr hg d n _;obtain ⟨Z4,q4,rfl,-,-⟩:=hr.form;have H9:=zq (H8.o.two4 (zpd b4) hr hg d);clear hr hg d n));go_roundw;(case rel=>exact ⟨i+1,_,_,_,_,c,by first|rfl|go_num,H9⟩);(case measure=>exact zif c))
   have G:i=kd.length:=qcd hi (qca c);subst G;clear c hi;obtain ⟨Ab,cb,bp⟩:=H.o.len1;obtain ⟨X,o1,rfl,-,-⟩:=H.o.g1.row.form;obtain ⟨O,o2,rfl,-,-⟩:=H.o.g2.row.form;obtain ⟨E,o3,rfl,-,-⟩:=H.o.g3.row.form;obtain ⟨A,o4,rfl,-,-⟩:=H.o.g4.row.form;go_wp2
   go_loopw [10,11] (fun q v w=>∃ i:Nat,i<=it.length/\q = .bool true/\v = .int .i64 i/\Zq (ASt W b B M mb it kd nm sp pr z0 z1 z2 z3 z4 c0 it.length it.length (.slice s it.length co) c1 kd.length kd.length (.slice X kd.length o1) c2 kd.length kd.length (.slice O kd.length o2) c3 kd.length kd.length (.slice E kd.length o3) c4 kd.length kd.length (.slice A kd.length o4) w)) (fun _ v _=>it.length-(intOf v).toNat)
   case atStart=>exact ⟨0,qbx _,rfl,rfl,H⟩
   case round=>
    clear H;obtain ⟨i,hi,rfl,rfl,H⟩:=hrel;by_cases c:i<it.length
    ·have Z:i<=1000:=qas hi hit;obtain ⟨aH,u,aT,ba⟩:=H.o.g0.form rfl c;obtain ⟨a7,rfl,bx,x0,-⟩:=H.o.g0.see c ba;go_wp2
     go_loopw [10,12] (fun q v w=>∃ k:Nat,k<=u/\q = .bool true/\v = .int .i64 k/\Zq (ASt W b B M mb it kd nm sp pr z0 z1 z2 z3 z4 c0 it.length it.length (.slice (some ⟨a7,0,none⟩) it.length co) c1 kd.length kd.length (.slice X kd.length o1) c2 kd.length kd.length (.slice O kd.length o2) c3 kd.length kd.length (.slice E kd.length o3) c4 kd.length kd.length (.slice A kd.length o4) w)) (fun _ v _=>u-(intOf v).toNat)
     case atStart=>exact ⟨0,qbx _,rfl,rfl,H⟩
     case round=>
      clear H x0;obtain ⟨k,hk,rfl,rfl,H⟩:=hrel;obtain ⟨gB,l,-,x0,rd0⟩:=H.o.g0.see c ba;obtain rfl:a7=gB:=(by injection l with l;injection l);clear l;by_cases m:k<u
      ·obtain ⟨g,rfl,d0⟩:=rd0 k m;clear rd0;unfold mkI at d0;go_wp2
       go_roundw
       case rel=>exact ⟨k+1,m,by first|rfl|simp,by first|rfl|go_num,H⟩
       case measure=>exact zif m
      obtain rfl:u=k:=qcd (qca m) hk;clear rd0;go_wp2
      go_roundw
      case rel=>exact ⟨i+1,c,rfl,by first|rfl|go_num,H⟩
      case measure=>exact zif c
    have G:i=it.length:=qcd hi (qca c);subst G;clear c hi;go_wp2
    go_loopw [10,13] (fun q v w=>∃ i:Nat,i<=kd.length/\q = .bool true/\v = .int .i64 i/\Zq (ASt W b B M mb it kd nm sp pr z0 z1 z2 z3 z4 c0 it.length it.length (.slice s it.length co) c1 kd.length kd.length (.slice X kd.length o1) c2 kd.length kd.length (.slice O kd.length o2) c3 kd.length kd.length (.slice E kd.length o3) c4 kd.length kd.length (.slice A kd.length o4) w)) (fun _ v _=>kd.length-(intOf v).toNat)
    case atStart=>exact ⟨0,qbx _,rfl,rfl,H⟩
    case round=>
     clear H;obtain ⟨i,hi,rfl,rfl,H⟩:=hrel;by_cases c:i<kd.length
     ·have Z:i<=100000:=qas hi aA;obtain ⟨aI,x,aV,bb⟩:=H.o.g1.form rfl c;obtain ⟨U,rfl,bz,x1,-⟩:=H.o.g1.see c bb;go_wp2
      go_loopw [10,14] (fun q v w=>∃ k:Nat,k<=x/\q = .bool true/\v = .int .i64 k/\Zq (ASt W b B M mb it kd nm sp pr z0 z1 z2 z3 z4 c0 it.length it.length (.slice s it.length co) c1 kd.length kd.length (.slice (some ⟨U,0,none⟩) kd.length o1) c2 kd.length kd.length (.slice O kd.length o2) c3 kd.length kd.length (.slice E kd.length o3) c4 kd.length kd.length (.slice A kd.length o4) w)) (fun _ v _=>x-(intOf v).toNat)
      case atStart=>exact ⟨0,qbx _,rfl,rfl,H⟩
      case round=>
       clear H x1;obtain ⟨k,hk,rfl,rfl,H⟩:=hrel;obtain ⟨gB,l,-,x1,rd1⟩:=H.o.g1.see c bb;obtain rfl:U=gB:=(by injection l with l;injection l);clear l;by_cases m:k<x
       ·obtain ⟨g,rfl,d0⟩:=rd1 k m;clear rd1;unfold mkI at d0;go_wp2
        go_roundw
        case rel=>exact ⟨k+1,m,by first|rfl|simp,by first|rfl|go_num,H⟩
        case measure=>exact zif m
       obtain rfl:x=k:=qcd (qca m) hk;clear rd1;obtain ⟨aJ,z,aW,bc⟩:=H.o.g2.form r.o.1 c;obtain ⟨Y,rfl,b5,x2,-⟩:=H.o.g2.see c bc;go_wp2
       go_loopw [10,15] (fun q v w=>∃ k:Nat,k<=z/\q = .bool true/\v = .int .i64 k/\Zq (ASt W b B M mb it kd nm sp pr z0 z1 z2 z3 z4 c0 it.length it.length (.slice s it.length co) c1 kd.length kd.length (.slice (some ⟨U,0,none⟩) kd.length o1) c2 kd.length kd.length (.slice (some ⟨Y,0,none⟩) kd.length o2) c3 kd.length kd.length (.slice E kd.length o3) c4 kd.length kd.length (.slice A kd.length o4) w)) (fun _ v _=>z-(intOf v).toNat)
       case atStart=>exact ⟨0,qbx _,rfl,rfl,H⟩
       case round=>
        clear H x2;obtain ⟨k,hk,rfl,rfl,H⟩:=hrel;obtain ⟨gB,l,-,x2,rd2⟩:=H.o.g2.see c bc;obtain rfl:Y=gB:=(by injection l with l;injection l);clear l;by_cases m:k<z
        ·obtain ⟨g,rfl,d0⟩:=rd2 k m;clear rd2;unfold mkS at d0;rw [Nat.mul_one] at d0;go_wp2;go_region_law (go_simp;go_at_call 38;refine (aP.o i Z _).mono ?_;rintro e3 I ⟨rfl,p⟩;(first|(have L:=zq (H.o.step p))|(have L:=zq (H.o.drew.step p)));have bV:=zag p x2;have bP:=zag p d0;clear p);all_goals (go_wp2;go_roundw;(case rel=>exact ⟨k+1,m,by first|rfl|simp,by first|rfl|go_num,L⟩);(case measure=>exact zif m))
        obtain rfl:z=k:=qcd (qca m) hk;clear rd2;obtain ⟨aK,n3,aX,bd⟩:=H.o.g3.form r.o.2.1 c;obtain ⟨af,rfl,b6,x3,-⟩:=H.o.g3.see c bd;go_wp2
        go_loopw [10,16] (fun q v w=>∃ k:Nat,k<=n3/\q = .bool true/\v = .int .i64 k/\Zq (ASt W b B M mb it kd nm sp pr z0 z1 z2 z3 z4 c0 it.length it.length (.slice s it.length co) c1 kd.length kd.length (.slice (some ⟨U,0,none⟩) kd.length o1) c2 kd.length kd.length (.slice (some ⟨Y,0,none⟩) kd.length o2) c3 kd.length kd.length (.slice (some ⟨af,0,none⟩) kd.length o3) c4 kd.length kd.length (.slice A kd.length o4) w)) (fun _ v _=>n3-(intOf v).toNat)
        case atStart=>exact ⟨0,qbx _,rfl,rfl,H⟩
        case round=>
         clear H x3;obtain ⟨k,hk,rfl,rfl,H⟩:=hrel;obtain ⟨gB,l,-,x3,rd3⟩:=H.o.g3.see c bd;obtain rfl:af=gB:=(by injection l with l;injection l);clear l;by_cases m:k<n3
         ·obtain ⟨g,rfl,d0⟩:=rd3 k m;clear rd3;unfold mkI at d0;go_wp2
          go_roundw
          case rel=>exact ⟨k+1,m,by first|rfl|simp,by first|rfl|go_num,H⟩
          case measure=>exact zif m
         obtain rfl:n3=k:=qcd (qca m) hk;clear rd3;obtain ⟨aN,n4,aY,bk⟩:=H.o.g4.form r.o.2.2 c;obtain ⟨a8,rfl,b7,x4,-⟩:=H.o.g4.see c bk;go_wp2
         go_loopw [10,17] (fun q v w=>∃ k:Nat,k<=n4/\q = .bool true/\v = .int .i64 k/\Zq (ASt W b B M mb it kd nm sp pr z0 z1 z2 z3 z4 c0 it.length it.length (.slice s it.length co) c1 kd.length kd.length (.slice (some ⟨U,0,none⟩) kd.length o1) c2 kd.length kd.length (.slice (some ⟨Y,0,none⟩) kd.length o2) c3 kd.length kd.length (.slice (some ⟨af,0,none⟩) kd.length o3) c4 kd.length kd.length (.slice (some ⟨a8,0,none⟩) kd.length o4) w)) (fun _ v _=>n4-(intOf v).toNat)
         case atStart=>exact ⟨0,qbx _,rfl,rfl,H⟩
         case round=>
          clear H x4;obtain ⟨k,hk,rfl,rfl,H⟩:=hrel;obtain ⟨gB,l,-,x4,rd4⟩:=H.o.g4.see c bk;obtain rfl:a8=gB:=(by injection l with l;injection l);clear l;by_cases m:k<n4
          ·obtain ⟨g,rfl,d0⟩:=rd4 k m;clear rd4;unfold mkI at d0;go_wp2
           go_roundw
           case rel=>exact ⟨k+1,m,by first|rfl|simp,by first|rfl|go_num,H⟩
           case measure=>exact zif m
          obtain rfl:n4=k:=qcd (qca m) hk;clear rd4;go_wp2
          go_roundw
          case rel=>exact ⟨i+1,c,rfl,by first|rfl|go_num,H⟩
          case measure=>exact zif c
     have G:i=kd.length:=qcd hi (qca c);subst G;clear c hi;have HE:=zq H.o.bel;clear H;go_wp2;go_ret;exact ⟨rfl,HE.o⟩
end
end Go.Proofs.YtjeekocidaogoaaGreatDoor.H
