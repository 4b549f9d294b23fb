/- How notes fare changes no alert: Rows.TopSendsCardSaid holds of the given program, for every input that the row admits; no further condition. -/
import Derived.Test.YteagjoghhfngoaaGreatDoorVa
import Derived.Test.YteagjoghhfngoaaGreatDoorQq
set_option maxRecDepth 100000
set_option maxHeartbeats 32000000
set_option linter.all false
namespace Go.Proofs.YteagjoghhfngoaaGreatDoor
open Go.RowKit Go.Proofs.Tryz Value List
section
open Go.ChangeShapes Go.WideShapes Go.ChangeAt Go.ChangeMaps
theorem Uh (os:Os) (x:os.Started) (H:Type) (enc:TypeId×Value->H):
 ReturnsInHanded {} Tryz.checked os 4 .any (λw args=>(Rows.topSendsSpec.pre enc Tryz.prog Tryz.f4 [] false w args/\laidMetH Tryz.prog jS w)/\sizedMet enc Tryz.prog Tryz.f4 (OpenSpec.ofChange Rows.topSendsSpec) false w args) (Rows.topSendsSpec.post enc Tryz.prog Tryz.f4 false true false false):=by
 refine returnsInHanded_of_change_and (C:=Tryz.checked) (X:=λw _=>laidMetH Tryz.prog jS w) (λ_ _ _ n a=>a.of_heap n) CR x (by kernel_rfl) Tryz.func4 (ChangeSpec.witness_shaped (enc:=enc) (C:=Tryz.checked) (os:=os) (X:=λw _=>laidMetH Tryz.prog jS w) false (World.laidAll Tryz.prog os jS) #[.slice none 0 0] 8 (World.laidAll_os _ _ _) (World.shaped_of_ZipB (by kernel_rfl) (by kernel_rfl)) (by kernel_rfl) (by kernel_rfl) (by kernel_rfl) (Ck os _)) ?_;intro W base args ds gs F l d _ A c _;have hG:=AM c;clear c;have h: ∀ (j:Nat) t v,Tryz.f4.params[j]?=some t->args[j]?=some v->Value.okWide Tryz.prog W .any base t v:=l;have g:=d;obtain⟨p,q,u,y,rfl,_,_⟩:=d;have f:DataW.TrodAll enc Tryz.prog W 0 (λ_=>true) true Tryz.f4.params.toList args.toList ds p:=u;rw[Tryz.params4]at f h;obtain⟨b,I,G,E,z,D,B,rfl,rfl,k,o⟩:=trodAll_cons f;obtain⟨rfl,rfl,rfl⟩:=trodAll_nil o;obtain rfl:args= #[b]:=by cases args;simp_all
 obtain⟨rfl,rfl⟩:=trodVars_none y;obtain⟨s,m,r,xs,rfl,i⟩:=BV (h 0 _ b rfl rfl) k;refine(Wq s m r xs W i hG).mono λe W' a=>?_;exact Qt
theorem Xl:Tryz.prog.inPlace 4=Rows.topSendsRow.inPlace:=by kernel_rfl
theorem WN:Tryz.prog.unfollowed 4=Rows.topSendsRow.unfollowed:=by kernel_rfl
theorem Wp:Tryz.prog.recurses 4=Rows.topSendsRow.recurses:=by kernel_rfl
theorem Wn:Tryz.prog.varsNamed 4=Rows.topSendsRow.named:=by kernel_rfl
theorem XF:mapsRowed Tryz.prog=true:=by kernel_rfl
theorem Ui:joinedFacts Tryz.prog 4 Tryz.f4 Rows.topSendsSpec Rows.topSendsRow=true:=by unfold joinedFacts;rw[Xl,WN,Wp,Wn,tT,XF];kernel_rfl
theorem FV:Tryz.prog.funcNamed "watchtower/watchtowertop.TopSends" =some 4:=by kernel_rfl
theorem Vu:Rows.TopSendsSaid:=
 OpenClaim.holds_of_wide (p:=Tryz.pinned) 4 Tryz.f4 rfl rfl rfl rfl rfl rfl rfl ⟨rfl,rfl,rfl,rfl,rfl⟩ rfl rfl rfl rfl rfl FV Tryz.func4 Ui
  (of_decide_eq_true (by kernel_rfl)) (by unfold Func.isWrapper;first|(rw[if_pos (by decide+kernel)];kernel_rfl)|(rw[if_neg (by decide+kernel)];exact⟨rfl,rfl⟩))
  (λos a H enc _=>Uh os a H enc)
theorem VW:Rows.topSendsRow.wfByText (OpenSpec.ofChange Rows.topSendsSpec)=true:=by kernel_rfl
theorem UA:Tryz.pinned.checked.prog.mainIs=some ((true, "88225edda99f1ff35034eb8379b4ed4452bf49e21db2c3d0cf6f1a5170050cd0").1,(true, "88225edda99f1ff35034eb8379b4ed4452bf49e21db2c3d0cf6f1a5170050cd0").2.toList):=by kernel_rfl
theorem Uv:true=Tryz.prog.looks []:=by kernel_rfl
theorem UJ:false=Rows.topSendsRow.goesBy Tryz.pinned.checked.prog:=by kernel_rfl
theorem topSends_holds:Rows.TopSendsCardSaid:=
 Claim7.holds_tied_plain_at .later [] [.data,.data,.data,.data,.data,.data,.data,.pinned] true (true, "88225edda99f1ff35034eb8379b4ed4452bf49e21db2c3d0cf6f1a5170050cd0") true
  Vu (λ_ b=>by cases b) VW (λ_ b=>by cases b) topSends_row_tie rfl ⟨rfl,rfl⟩ UA rfl
  (λf e d c=>by
   obtain rfl:f=4:=Option.some.inj (FV.symm.trans d)|>.symm
   obtain rfl:e=Tryz.f4:=(Option.some.inj (Tryz.func4.symm.trans c)).symm
   exact⟨Uv,λj t a=>by
    rw[Tryz.params4]at a
    exact Ox⟩)
  UJ
end
end Go.Proofs.YteagjoghhfngoaaGreatDoor
