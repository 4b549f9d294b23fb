/- A crash gives back what was saved, or nothing: Rows.TopCrashCardSaid holds of the given program, for every input that the row admits; no further condition. -/
import Derived.Test.YteagjoghhfngoaaGreatDoorWc
import Derived.Test.YteagjoghhfngoaaGreatDoorQr
set_option maxRecDepth 100000
set_option maxHeartbeats 32000000
set_option linter.all false
namespace Go.Proofs.YteagjoghhfngoaaGreatDoor
open Go.RowKit Go.Proofs.Tryz Value List
section
open Go.ChangeShapes Go.WideShapes Go.ChangeAt Go.ChangeMaps
theorem Ug (os:Os) (x:os.Started) (H:Type) (enc:TypeId×Value->H):
 ReturnsInHanded {} Tryz.checked os 3 .any (λw args=>(Rows.topCrashSpec.pre enc Tryz.prog Tryz.f3 [] false w args/\laidMetH Tryz.prog jS w)/\sizedMet enc Tryz.prog Tryz.f3 (OpenSpec.ofChange Rows.topCrashSpec) false w args) (Rows.topCrashSpec.post enc Tryz.prog Tryz.f3 false true false false):=by
 refine returnsInHanded_of_change_and (C:=Tryz.checked) (X:=λw _=>laidMetH Tryz.prog jS w) (λ_ _ _ m a=>a.of_heap m) CR x (by kernel_rfl) Tryz.func3 (ChangeSpec.witness_shaped (enc:=enc) (C:=Tryz.checked) (os:=os) (X:=λw _=>laidMetH Tryz.prog jS w) false (World.laidAll Tryz.prog os jS) #[.slice none 0 0] 8 (World.laidAll_os _ _ _) (World.shaped_of_ZipB (by kernel_rfl) (by kernel_rfl)) (by kernel_rfl) (by kernel_rfl) (by kernel_rfl) (Ck os _)) ?_;intro W base args ds gs F k d _ A c _;have hG:=AM c;clear c;have g: ∀ (j:Nat) t v,Tryz.f3.params[j]?=some t->args[j]?=some v->Value.okWide Tryz.prog W .any base t v:=k;have o:=d;obtain⟨p,q,u,y,rfl,_,_⟩:=d;have f:DataW.TrodAll enc Tryz.prog W 0 (λ_=>true) true Tryz.f3.params.toList args.toList ds p:=u;rw[Tryz.params3]at f g;obtain⟨b,I,G,E,z,D,B,rfl,rfl,i,n⟩:=trodAll_cons f;obtain⟨rfl,rfl,rfl⟩:=trodAll_nil n;obtain rfl:args= #[b]:=by cases args;simp_all
 obtain⟨rfl,rfl⟩:=trodVars_none y;obtain⟨s,l,r,xs,rfl,h⟩:=BV (g 0 _ b rfl rfl) i;refine(Xa s l r xs W h hG).mono λe W' a=>?_;exact IY o tT (by decide+kernel) rfl (by kernel_rfl) Tryz.underlying4 rfl rfl rfl a
theorem Xm:Tryz.prog.inPlace 3=Rows.topCrashRow.inPlace:=by kernel_rfl
theorem WJ:Tryz.prog.unfollowed 3=Rows.topCrashRow.unfollowed:=by kernel_rfl
theorem VR:Tryz.prog.recurses 3=Rows.topCrashRow.recurses:=by kernel_rfl
theorem Xq:Tryz.prog.varsNamed 3=Rows.topCrashRow.named:=by kernel_rfl
theorem WK:mapsRowed Tryz.prog=true:=by kernel_rfl
theorem Uf:joinedFacts Tryz.prog 3 Tryz.f3 Rows.topCrashSpec Rows.topCrashRow=true:=by unfold joinedFacts;rw[Xm,WJ,VR,Xq,tT,WK];kernel_rfl
theorem FQ:Tryz.prog.funcNamed "watchtower/watchtowertop.TopCrash" =some 3:=by kernel_rfl
theorem UW:Rows.TopCrashSaid:=
 OpenClaim.holds_of_wide (p:=Tryz.pinned) 3 Tryz.f3 rfl rfl rfl rfl rfl rfl rfl ⟨rfl,rfl,rfl,rfl,rfl⟩ rfl rfl rfl rfl rfl FQ Tryz.func3 Uf
  (of_decide_eq_true (by kernel_rfl)) (by unfold Func.isWrapper;first|(rw[if_pos (by decide+kernel)];kernel_rfl)|(rw[if_neg (by decide+kernel)];exact⟨rfl,rfl⟩))
  (λos a H enc _=>Ug os a H enc)
theorem WT:Rows.topCrashRow.wfByText (OpenSpec.ofChange Rows.topCrashSpec)=true:=by kernel_rfl
theorem Ux:Tryz.pinned.checked.prog.mainIs=some ((true, "88225edda99f1ff35034eb8379b4ed4452bf49e21db2c3d0cf6f1a5170050cd0").1,(true, "88225edda99f1ff35034eb8379b4ed4452bf49e21db2c3d0cf6f1a5170050cd0").2.toList):=by kernel_rfl
theorem Uk:true=Tryz.prog.looks []:=by kernel_rfl
theorem UP:false=Rows.topCrashRow.goesBy Tryz.pinned.checked.prog:=by kernel_rfl
theorem topCrash_holds:Rows.TopCrashCardSaid:=
 Claim7.holds_tied_plain_at .later [] [.data,.data,.data,.data,.data,.data,.data,.pinned] true (true, "88225edda99f1ff35034eb8379b4ed4452bf49e21db2c3d0cf6f1a5170050cd0") true
  UW (λ_ a=>by cases a) WT (λ_ a=>by cases a) topCrash_row_tie rfl ⟨rfl,rfl⟩ Ux rfl
  (λf i h g=>by
   obtain rfl:f=3:=Option.some.inj (FQ.symm.trans h)|>.symm
   obtain rfl:i=Tryz.f3:=(Option.some.inj (Tryz.func3.symm.trans g)).symm
   exact⟨Uk,λj t b=>by
    rw[Tryz.params3]at b
    have e:t∈[22]:=by simpa using Array.mem_of_getElem? b
    have c:([22].all λd=>!Tryz.prog.wantsStandIn d)=true:=by kernel_rfl
    exact(show Tryz.prog.wantsStandIn t=false by simpa using all_eq_true.1 c t e)⟩)
  UP
end
end Go.Proofs.YteagjoghhfngoaaGreatDoor
