import Derived.Test.YtjeekocidaogoaaGreatDoorRows
import Derived.Test.YtjeekocidaogoaaGreatDoorCards
import Derived.Test.YtjeekocidaogoaaGreatDoorTie
import Derived.Test.YtjeekocidaogoaaGreatDoorK6Hx12
import Derived.Test.YtjeekocidaogoaaGreatDoorK6RefL
import Derived.WalkKit
import Derived.ProofKit
import Derived.OpenShut
import Derived.ShutString
import Derived.ChangeOld
import Derived.Below
import Derived.SizedLaws
import Derived.LaidMore
import Derived.Lay
import Derived.SevenTiedAt
import Derived.Stop.Joined
set_option linter.unusedVariables false
set_option linter.unusedSimpArgs false
set_option maxRecDepth 100000
set_option maxHeartbeats 8000000
open Go.Proofs.Tryz
section
namespace Go.Proofs.YtjeekocidaogoaaGreatDoor.syntaxNear
open Go.Proofs.YtjeekocidaogoaaGreatDoorW.PrintWords
open Go.ChangeShapes Go.WideShapes Go.ChangeAt Go.RowKit Go.Proofs.YtjeekocidaogoaaGreatDoor.Hand Go.Proofs.YtjeekocidaogoaaGreatDoor.H
open Go.ChangeMaps (open_string shut_string)
theorem own:ownKnob prog.godebug=none:=kae
theorem walk (a0:ByteArray) (a1:Int) (a2:ByteArray) (W:World) (b:Hand.Inv W) (w0:a0.size<=140737488351232) (w1:(Lit.int .i64 a1).wf=true) (c:a2.size<=140737488351232):Calls prog 4 #[.string a0,.int .i64 a1,.string a2] W fun e w'=>e = .returned (.bool true)/\Below W.heap.size W w':=by
 exact near_calls a0 a1 a2 W b w0 w1 c
theorem lifted (os:Os) (started:os.Started) (H:Type) (enc:TypeId×Value->H) :
  ReturnsInHanded {} Tryz.checked os 4 .any (fun w args=>(Rows.syntaxNearSpec.pre enc prog Tryz.f4 Rows.syntaxNearRow.domain false w args/\laidMetH prog zon w)/\sizedMet enc prog Tryz.f4 (OpenSpec.ofChange Rows.syntaxNearSpec) false w args)
   (Rows.syntaxNearSpec.post enc prog Tryz.f4 false true false false):=by
 refine handed_shaped (C:=Tryz.checked) (X:=fun w _=>laidMetH prog zon w) (fun _ _ _ hh h=>h.of_heap hh) own started kae func4
  (ChangeSpec.witness_shaped (enc:=enc) (C:=Tryz.checked) (os:=os) (X:=fun w _=>laidMetH prog zon w) false (World.laidAll prog os zon) #[.string ByteArray.empty,.int .i64 0,.string ByteArray.empty] 8 (World.laidAll_os _ _ _)
   (World.shaped_of_ZipB kae kae) kae kae kae
   (by rw [MakeChecks.laidMetH_plain _ _ _ kae];exact laidMet_laidAll _ kae kae)) ?_
 intro W base args ds gs before n l Y m k A _;have s:Hand.Inv W:=inv_of_laid (by rw [MakeChecks.laidMetH_plain _ _ _ kae] at k;exact k) A;have b:(DataW.weightsEach prog (Tryz.f4.params.toList++Rows.syntaxNearSpec.plain.varTypes prog) (ds++gs)).all (·<=reachBytes)=true:=m;have c:∀ (j:Nat) t v,Tryz.f4.params[j]?=some t->args[j]?=some v->Value.okWide prog W .any base t v:=n;have x:=l;obtain ⟨p,q,i,u,rfl,Z,ad⟩:=l;have d:DataW.TrodAll enc prog W 0 (fun _=>true) true Tryz.f4.params.toList args.toList ds p:=i;rw [Tryz.params4] at d c b;obtain ⟨v0,af,d0,L,p0,q0,U,rfl,rfl,o,B⟩:=trodAll_cons d;obtain ⟨v1,a6,d1,M,p1,q1,rfl,rfl,rfl,h1,D⟩:=trodAll_cons B;obtain ⟨v2,a7,d2,O,p2,q2,rfl,rfl,rfl,r,E⟩:=trodAll_cons D;obtain ⟨rfl,rfl,rfl⟩:=trodAll_nil E;obtain rfl:args=#[v0,v1,v2]:=by cases args;simp_all
 obtain ⟨rfl,rfl⟩:=trodVars_none u;obtain ⟨a0,rfl,rfl,rfl,I⟩:=open_string underlying9 (c 0 9 v0 rfl rfl) o;have w0:a0.size<=140737488351232:=by
  have z:=sized_string b (j:=0) (t:=9) rfl rfl;rw [Array.length_toList] at z;exact z
 obtain ⟨a1,rfl,rfl,rfl,w1⟩:=open_int underlying3 (c 1 3 v1 rfl rfl) h1;obtain ⟨a2,rfl,rfl,rfl,J⟩:=open_string underlying9 (c 2 9 v2 rfl rfl) r;have G:a2.size<=140737488351232:=by
  have z:=sized_string b (j:=2) (t:=9) rfl rfl;rw [Array.length_toList] at z;exact z
 clear i n m b;refine (walk a0 a1 a2 W s w0 w1 G).mono fun e W' ⟨y,bel⟩=>?_;subst y;exact ⟨_,rfl,_,_,_,[],_,[],x,trodAll_mk1 (shut_bool underlying4 _),(trodAll_cons_mk (shut_string underlying9 I) (trodAll_cons_mk (shut_int underlying3 w1) (trodAll_cons_mk (shut_string underlying9 J) trodAll_mk0))),rfl,bel.frame _,fun h=>by cases h⟩
theorem over:Rows.syntaxNearRow.holds Tryz.pinned (OpenSpec.ofChange Rows.syntaxNearSpec):=
 OpenClaim.holds_of_wide 4 Tryz.f4 rfl rfl rfl rfl rfl rfl rfl ⟨rfl,rfl,rfl,rfl,rfl⟩ rfl rfl rfl rfl rfl kae func4 kae
  (qbl kae) (by unfold Func.isWrapper;first|(rw [if_pos (by decide +kernel)];kernel_rfl)|(rw [if_neg (by decide +kernel)];exact ⟨rfl,rfl⟩))
  (fun os started H enc _=>lifted os started H enc)
theorem proved:Rows.SyntaxNearSaid:=over
theorem card_holds:Rows.SyntaxNearCardSaid:=
 Claim7.holds_tied_plain_at .later [] [.data,.data,.data,.data,.sentinel,.sentinel,.listed,.data,.pinned] true (true, "58ff43c12b6aad4e36fbac8b38aded5c149d803a9825d38f4b416736806298a4") true proved (fun _ h=>by cases h) kae (fun _ h=>by cases h) syntaxNear_row_tie rfl ⟨rfl,rfl⟩ kae rfl
  (fun f fn hf c=>by
   obtain rfl:f=4:=qaa ((show prog.funcNamed "lychgate/lychgatelaw09.SyntaxNear" = some 4 by kernel_rfl).symm.trans hf) |>.symm;obtain rfl:fn=Tryz.f4:=(qaa (func4.symm.trans c)).symm;exact ⟨kae,fun j t ht=>by
    rw [Tryz.params4] at ht;have d:t∈[9,3,9]:=(by simpa using Array.mem_of_getElem? ht);have b:([9,3,9].all fun u=>!prog.wantsStandIn u)=true:=kae;exact (show prog.wantsStandIn t=false by simpa using qbn.1 b t d)⟩)
  kae
#print axioms card_holds
end Go.Proofs.YtjeekocidaogoaaGreatDoor.syntaxNear
namespace Go.Proofs.YtjeekocidaogoaaGreatDoor
theorem syntaxNear_card_holds:Rows.SyntaxNearCardSaid:=syntaxNear.card_holds
end Go.Proofs.YtjeekocidaogoaaGreatDoor
end
