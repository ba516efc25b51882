/- Opening rules and places that come as arguments. -/
import Derived.Test.YtphacfkcifpobaaGreatDoorRows
import Derived.Test.YtphacfkcifpobaaGreatDoorGoes
import Derived.Test.YtphacfkcifpobaaGreatDoorM31
import Derived.Test.YtphacfkcifpobaaGreatDoorM01
set_option maxRecDepth 100000
namespace Go.Proofs.YtphacfkcifpobaaGreatDoor
open Go.ChangeShapes Go.WideShapes Go.ChangeAt Go.RowKit
theorem own:ownKnob Tryz.prog.godebug=none:=by kernel_rfl
structure RulesM where
 mode:Int
 depth:Int
 bl:Int
 bu:Int
 q:Int
 rew:Int
 win:Int
 fin:Int
 work:Int
def rulesR:Rep RulesM:=mapR (fun r=>(r.mode,r.depth,(r.bl,r.bu,r.q),r.rew,r.win,r.fin,r.work))
 (pairR (intR .i64) (pairR (intR .i64) (pairR (pairR (intR .i64) (pairR (intR .i64) (intR .i64))) (pairR u64R (pairR (intR .i64) (pairR (intR .i64) u64R))))))
theorem rulesR.inv {S:Nat→Prop}{w:World}{cs:List Value}{r:RulesM}(h:rulesR.rel S w cs r):cs= [.int .i64 r.mode,.int .i64 r.depth,.int .i64 r.bl,.int .i64 r.bu,.int .i64 r.q,.int .u64 r.rew,.int .i64 r.win,.int .i64 r.fin,.int .u64 r.work]:=by
 obtain⟨_,_,rfl,⟨rfl, -⟩,_,_,rfl,⟨rfl, -⟩,_,_,rfl,⟨_,_,rfl,⟨rfl, -⟩,_,_,rfl,⟨rfl, -⟩,⟨rfl, -⟩⟩,_,_,rfl,⟨rfl, -⟩,_,_,rfl,⟨rfl, -⟩,_,_,rfl,⟨rfl, -⟩,⟨rfl, -⟩⟩:=h;rfl
theorem rulesR.rew {S:Nat→Prop}{w:World}{cs:List Value}{r:RulesM}(h:rulesR.rel S w cs r):okU r.rew:=by
 obtain⟨_,_,rfl,⟨rfl, -⟩,_,_,rfl,⟨rfl, -⟩,_,_,rfl,⟨_,_,rfl,⟨rfl, -⟩,_,_,rfl,⟨rfl, -⟩,⟨rfl, -⟩⟩,_,_,rfl,⟨rfl,hw⟩,_,_,rfl,⟨rfl, -⟩,_,_,rfl,⟨rfl, -⟩,⟨rfl, -⟩⟩:=h;exact hw
def placeR:Rep (Int×Bool):=pairR u64R boolR
theorem placeR.inv {S:Nat→Prop}{w:World}{cs:List Value}{x:Int×Bool}(h:placeR.rel S w cs x):cs= [.int .u64 x.1,.bool x.2]∧okU x.1:=by
 obtain⟨_,_,rfl,⟨rfl,hw⟩,rfl⟩:=h;exact⟨rfl,hw⟩
section
variable {H:Type} {enc:TypeId×Value→H} {W:World}
theorem reads_i64:Reads H enc Tryz.prog W (intR .i64) 3:=Reads.int Tryz.underlying3
theorem reads_u64:Reads H enc Tryz.prog W u64R 24:=Reads.int Tryz.underlying24
theorem reads_params:Reads H enc Tryz.prog W (pairR (intR .i64) (pairR (intR .i64) (intR .i64))) 23:=
 Reads.struct Tryz.underlying23 (by kernel_rfl) (.more rfl (by kernel_rfl) reads_i64 (.more rfl (by kernel_rfl) reads_i64 (.last rfl (by kernel_rfl) reads_i64)))
theorem reads_rules:Reads H enc Tryz.prog W rulesR 26:=
 Reads.map (fun(a,b,(c,d,e),f,g,h,i)=>⟨a,b,c,d,e,f,g,h,i⟩) _ (fun _=>rfl) (Reads.struct Tryz.underlying26 (by kernel_rfl)
   (.more rfl (by kernel_rfl) reads_i64 (.more rfl (by kernel_rfl) reads_i64 (.more rfl (by kernel_rfl) reads_params (.more rfl (by kernel_rfl) reads_u64 (.more rfl (by kernel_rfl) reads_i64 (.more rfl (by kernel_rfl) reads_i64 (.last rfl (by kernel_rfl) reads_u64))))))))
theorem open_rulesW {rc:Reach}{b0:Nat}{v:Value}{d:DataW H}{ps:List MemPlace}(hv:Value.okWide Tryz.prog W rc b0 26 v)(h:DataW.Trod enc Tryz.prog W 0 (fun _=>true) true 26 v d ps):
   ∃r:RulesM,okU r.rew∧v= .agg #[.int .i64 r.mode,.int .i64 r.depth,.int .i64 r.bl,.int .i64 r.bu,.int .i64 r.q,.int .u64 r.rew,.int .i64 r.win,.int .i64 r.fin,.int .u64 r.work]:=by
 obtain⟨⟨cs⟩,r,rfl,hr⟩:=open_rel_struct (P:=Tryz.prog) Tryz.underlying26 reads_rules hv h;have hr':cs=_:=rulesR.inv hr;exact⟨r,rulesR.rew hr,by rw [hr']⟩
theorem reads_place:Reads H enc Tryz.prog W placeR 28:=
 Reads.struct Tryz.underlying28 (by kernel_rfl) (.more rfl (by kernel_rfl) reads_u64 (.last rfl (by kernel_rfl) (Reads.bool Tryz.underlying4)))
theorem open_place {rc:Reach}{b0:Nat}{v:Value}{d:DataW H}{ps:List MemPlace}(hv:Value.okWide Tryz.prog W rc b0 28 v)(h:DataW.Trod enc Tryz.prog W 0 (fun _=>true) true 28 v d ps):
   ∃(seed:Int) (ideal:Bool),okU seed∧v= .agg #[.int .u64 seed,.bool ideal]:=by
 obtain⟨⟨cs⟩,x,rfl,hr⟩:=open_rel_struct (P:=Tryz.prog) Tryz.underlying28 reads_place hv h;obtain⟨hcs,hw⟩:=placeR.inv hr;have hcs':cs=_:=hcs;exact⟨x.1,x.2,hw,by rw [hcs']⟩
end
end Go.Proofs.YtphacfkcifpobaaGreatDoor
