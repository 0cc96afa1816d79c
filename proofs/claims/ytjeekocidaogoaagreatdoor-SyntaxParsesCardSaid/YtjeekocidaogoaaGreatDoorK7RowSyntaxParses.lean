import Derived.Test.YtjeekocidaogoaaGreatDoorRows
import Derived.Test.YtjeekocidaogoaaGreatDoorCards
import Derived.Test.YtjeekocidaogoaaGreatDoorTie
import Derived.Test.YtjeekocidaogoaaGreatDoorK7Hx11
import Derived.Test.YtjeekocidaogoaaGreatDoorK7Pure13
import Derived.WalkKit
import Derived.ProofKit
import Derived.OpenShut
import Derived.ShutString
import Derived.ChangeOld
import Derived.Below
import Derived.SizedLaws
import Derived.LaidMore
import Derived.Lay
import Derived.SevenTiedAt
import Derived.Stop.Joined
set_option linter.unusedVariables false
set_option linter.unusedSimpArgs false
set_option maxRecDepth 100000
set_option maxHeartbeats 8000000
open Go.Proofs.Tryz
section
namespace Go.Proofs.YtjeekocidaogoaaGreatDoor.syntaxParses
open Go.Proofs.YtjeekocidaogoaaGreatDoorW.PrintWords
open Go.ChangeShapes Go.WideShapes Go.ChangeAt Go.RowKit Go.Proofs.YtjeekocidaogoaaGreatDoor.Hand Go.Proofs.YtjeekocidaogoaaGreatDoor.H
open Go.ChangeMaps (open_string shut_string)
theorem own:ownKnob prog.godebug=none:=kae
theorem walk (a0:ByteArray) (a1:ByteArray) (W:World) (b:Hand.Inv W) (w0:a0.size<=140737488351232) (w1:a1.size<=140737488351232):Calls prog 3 #[.string a0,.string a1] W fun e w'=>e = .returned (.bool true)/\Below W.heap.size W w':=by
 exact parses_calls a0 a1 W b w0 w1
theorem lifted (os:Os) (started:os.Started) (H:Type) (enc:TypeId×Value->H) :
  ReturnsInHanded {} Tryz.checked os 3 .any (fun w args=>(Rows.syntaxParsesSpec.pre enc prog Tryz.f3 Rows.syntaxParsesRow.domain false w args/\laidMetH prog zoi w)/\sizedMet enc prog Tryz.f3 (OpenSpec.ofChange Rows.syntaxParsesSpec) false w args)
   (Rows.syntaxParsesSpec.post enc prog Tryz.f3 false true false false):=by
 refine handed_shaped (C:=Tryz.checked) (X:=fun w _=>laidMetH prog zoi w) (fun _ _ _ hh h=>h.of_heap hh) own started kae func3
  (ChangeSpec.witness_shaped (enc:=enc) (C:=Tryz.checked) (os:=os) (X:=fun w _=>laidMetH prog zoi w) false (World.laidAll prog os zoi) #[.string ByteArray.empty,.string ByteArray.empty] 8 (World.laidAll_os _ _ _)
   (World.shaped_of_ZipB kae kae) kae kae kae
   (by rw [MakeChecks.laidMetH_plain _ _ _ kae];exact laidMet_laidAll _ kae kae)) ?_
 intro W base args ds gs before n l I m k y _;have r:Hand.Inv W:=inv_of_laid (by rw [MakeChecks.laidMetH_plain _ _ _ kae] at k;exact k) y;have b:(DataW.weightsEach prog (Tryz.f3.params.toList++Rows.syntaxParsesSpec.plain.varTypes prog) (ds++gs)).all (·<=reachBytes)=true:=m;have c:∀ (j:Nat) t v,Tryz.f3.params[j]?=some t->args[j]?=some v->Value.okWide prog W .any base t v:=n;have u:=l;obtain ⟨p,q,i,s,rfl,J,L⟩:=l;have d:DataW.TrodAll enc prog W 0 (fun _=>true) true Tryz.f3.params.toList args.toList ds p:=i;rw [Tryz.params3] at d c b;obtain ⟨v0,U,d0,D,p0,M,G,rfl,rfl,o,r0⟩:=trodAll_cons d;obtain ⟨v1,Y,d1,E,p1,O,rfl,rfl,rfl,h1,r1⟩:=trodAll_cons r0;obtain ⟨rfl,rfl,rfl⟩:=trodAll_nil r1;obtain rfl:args=#[v0,v1]:=by cases args;simp_all
 obtain ⟨rfl,rfl⟩:=trodVars_none s;obtain ⟨a0,rfl,rfl,rfl,A⟩:=open_string underlying9 (c 0 9 v0 rfl rfl) o;have w0:a0.size<=140737488351232:=by
  have z:=sized_string b (j:=0) (t:=9) rfl rfl;rw [Array.length_toList] at z;exact z
 obtain ⟨a1,rfl,rfl,rfl,B⟩:=open_string underlying9 (c 1 9 v1 rfl rfl) h1;have w1:a1.size<=140737488351232:=by
  have z:=sized_string b (j:=1) (t:=9) rfl rfl;rw [Array.length_toList] at z;exact z
 clear i n m b;refine (walk a0 a1 W r w0 w1).mono fun e W' ⟨x,bel⟩=>?_;subst x;exact ⟨_,rfl,_,_,_,[],_,[],u,trodAll_mk1 (shut_bool underlying4 _),(trodAll_cons_mk (shut_string underlying9 A) (trodAll_cons_mk (shut_string underlying9 B) trodAll_mk0)),rfl,bel.frame _,fun h=>by cases h⟩
theorem over:Rows.syntaxParsesRow.holds Tryz.pinned (OpenSpec.ofChange Rows.syntaxParsesSpec):=
 OpenClaim.holds_of_wide 3 Tryz.f3 rfl rfl rfl rfl rfl rfl rfl ⟨rfl,rfl,rfl,rfl,rfl⟩ rfl rfl rfl rfl rfl kae func3 kae
  (qbo kae) (by unfold Func.isWrapper;first|(rw [if_pos (by decide +kernel)];kernel_rfl)|(rw [if_neg (by decide +kernel)];exact ⟨rfl,rfl⟩))
  (fun os started H enc _=>lifted os started H enc)
theorem proved:Rows.SyntaxParsesSaid:=over
theorem card_holds:Rows.SyntaxParsesCardSaid:=
 Claim7.holds_tied_plain_at .later [] [.data,.data,.data,.data,.sentinel,.sentinel,.listed,.data,.pinned] true (true, "58ff43c12b6aad4e36fbac8b38aded5c149d803a9825d38f4b416736806298a4") true proved (fun _ h=>by cases h) kae (fun _ h=>by cases h) syntaxParses_row_tie rfl ⟨rfl,rfl⟩ kae rfl
  (fun f fn hf c=>by
   obtain rfl:f=3:=qaa ((show prog.funcNamed "lychgate/lychgatelaw09.SyntaxParses" = some 3 by kernel_rfl).symm.trans hf) |>.symm;obtain rfl:fn=Tryz.f3:=(qaa (func3.symm.trans c)).symm;exact ⟨kae,fun j t ht=>by
    rw [Tryz.params3] at ht;have d:t∈[9,9]:=(by simpa using Array.mem_of_getElem? ht);have b:([9,9].all fun u=>!prog.wantsStandIn u)=true:=kae;exact (show prog.wantsStandIn t=false by simpa using qbv.1 b t d)⟩)
  kae
#print axioms card_holds
end Go.Proofs.YtjeekocidaogoaaGreatDoor.syntaxParses
namespace Go.Proofs.YtjeekocidaogoaaGreatDoor
theorem syntaxParses_card_holds:Rows.SyntaxParsesCardSaid:=syntaxParses.card_holds
end Go.Proofs.YtjeekocidaogoaaGreatDoor
end
