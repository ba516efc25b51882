/- The law lifted to the row. -/
import Derived.Test.YtjdiofjjoefnhaaGreatDoorRfW
import Derived.Test.YtjdiofjjoefnhaaGreatDoorReadsC
import Derived.SevenTiedAt
import Derived.LaidMore
import Derived.Stop.Joined
import Derived.SizedLaws
import Derived.ChangeArms
set_option maxRecDepth 100000
namespace Go.Proofs.YtjdiofjjoefnhaaGreatDoor.chainRefused
open Go.ChangeShapes Go.WideShapes Go.ChangeAt Go.RowKit
theorem E4 {H:Type}{enc:TypeId×Value→H}{W:World}{rc:Reach}{j:Nat}{v:Value}{d:DataW H}{ps:List MemPlace}(G:Value.okWide Tryz.prog W rc j 44 v)(h:DataW.Trod enc Tryz.prog W 0 (fun _=>true) true 44 v d ps):
 ∃(b:hV) (xa:Option Addr) (xc:Nat),v= .agg (jI b xa xc)∧i7 (fun k=>k<W.heap.size) W b xa xc:=by
 obtain⟨⟨cs⟩,b,rfl,hr⟩:=nv (P:=Tryz.prog) Tryz.underlying44 wD G h;obtain⟨xa,xc,y,u⟩:=nO.inv hr;have z:cs=_:=y;exact⟨b,xa,xc,by rw [z],u⟩
theorem Hx {H:Type} {enc:TypeId×Value→H} {P:Program} {W:World} {t e:TypeId} {G:List TypeId} {z:List (DataW H)} (ht:P.underlying t=some (.slice e)) {a:Option Addr} {len cap:Nat} {d:DataW H} {ps:List MemPlace} {j:Nat}
 (h:DataW.Trod enc P W 0 (fun _=>true) true t (.slice a len cap) d ps) (hw:(DataW.weightsEach P G z).all (· ≤reachBytes)=true) (ab:G[j]? =some t) (V:z[j]? =some d):len*P.bytesOf e≤reachBytes:=by
 obtain⟨fuel,Y⟩:=h;rcases DataW.trod_slice ht Y with⟨y, -⟩|⟨K,af,U,elems,rest,n, -,y,ae, -, -, -,ad, -⟩
 ·have u: [Value.slice a len cap]= [S0]:=y
  simp at u;obtain⟨-,rfl, -⟩:=u;rw [Nat.zero_mul];exact iy _
 ·have u: [Value.slice a len cap]= [.slice (some K) af U]:=y
  simp at u;obtain⟨-,rfl, -⟩:=u;have h1:=sized_slice hw ab (V.trans (congrArg some (congrArg Prod.fst ae))) ht;simp only [TC]at h1;rw [←ad];exact iu (Ce _ (UE _ _)) h1
theorem sH (os:Os)(args:Array Value):laidMetH Tryz.prog Rows.chainRefusedRow.laid ((World.doorLaid Tryz.prog 4000 os).forCall (fun _ _=>0) ⟨#[],args,[]⟩).memory:=
 laidMetH_of_parts3 (fuel:=8) (laidMet_of_run' 8 (by kernel_rfl) (by kernel_rfl)) (by kernel_rfl) (by kernel_rfl)
theorem lifted (os:Os)(started:os.Started)(H:Type)(enc:TypeId×Value→H):
 ReturnsInHanded {} Tryz.checked os 4 .any (fun w args=>(Rows.chainRefusedSpec.pre enc Tryz.prog Tryz.f4 [] false w args∧laidMetH Tryz.prog Rows.chainRefusedRow.laid w)∧sizedMet enc Tryz.prog Tryz.f4 (OpenSpec.ofChange Rows.chainRefusedSpec) false w args)
  (Rows.chainRefusedSpec.post enc Tryz.prog Tryz.f4 false true false false):=by
 refine Ur (C:=Tryz.checked) (X:=fun w _=>laidMetH Tryz.prog Rows.chainRefusedRow.laid w) (fun _ _ _ hh h=>h.of_heap hh) own started (by kernel_rfl) Tryz.func4
  (ChangeSpec.witness_shaped (enc:=enc) (C:=Tryz.checked) (os:=os) (X:=fun w _=>laidMetH Tryz.prog Rows.chainRefusedRow.laid w) false (World.doorLaid Tryz.prog 4000 os)
    #[.agg #[I0,I0,I0,I0,I0,U0,I0,I0,U0],S0,.agg #[U0,I0,U0,U0,U0,S0]]
    8 rfl (World.shaped_of_RefB (by kernel_rfl) (by kernel_rfl)) (by kernel_rfl) (by kernel_rfl) (by kernel_rfl) (sH os _)) ?_
 intro W base args ab ay before V U _ aj az _;have y: ∀(j:Nat) t v,Tryz.f4.params[j]? =some t→args[j]? =some v→Value.okWide Tryz.prog W .any base t v:=V;have ae:=U;obtain⟨p,q,K,ad,rfl,aA,aC⟩:=U;have G:DataW.TrodAll enc Tryz.prog W 0 (fun _=>true) true Tryz.f4.params.toList args.toList ab p:=K;rw [Tryz.params4]at G y;obtain⟨v0,aE,d0,av,p0,aD,hargs,rfl,rfl,z,aq⟩:=Ut G;obtain⟨v1,aF,d1,aw,p1,q1,rfl,rfl,rfl,h1,r1⟩:=Ut aq;obtain⟨v2,aG,au,ax,ap,q2,rfl,rfl,rfl,h2,r2⟩:=Ut r1;obtain⟨rfl,rfl,rfl⟩:=trodAll_nil r2;obtain rfl:args= #[v0,v1,v2]:=by cases args;simp_all
 obtain⟨rfl,rfl⟩:=trodVars_none ad;have k0:=z;have ak: ∀x∈p0,x.block<W.heap.size:=by obtain⟨m,u⟩:=k0;exact DataW.trod_lt m _ _ _ u
 have k1:=h1;have al: ∀x∈p1,x.block<W.heap.size:=by obtain⟨m,u⟩:=k1;exact DataW.trod_lt m _ _ _ u
 have Y:=h2;have ao: ∀x∈ap,x.block<W.heap.size:=by obtain⟨m,u⟩:=Y;exact DataW.trod_lt m _ _ _ u
 obtain⟨r,ai,rfl⟩:=sV (y 0 26 v0 rfl rfl) z;obtain⟨a,cap,l,rfl,ht⟩:=sW (y 1 27 v1 rfl rfl) h1;obtain⟨b,xa,xc,rfl,af⟩:=E4 (y 2 44 v2 rfl rfl) h2;have ag:l.length*64≤140737488351232:=Hx (j:=1) Tryz.underlying27 h1 aj (by kernel_rfl) rfl;clear K V;refine(Dr W ⟨r.mode,r.depth,r.bl,r.bu,r.q,r.iz,r.win,r.fin,r.work⟩ ai l a cap ht b xa xc af ag).mono fun e ar ⟨ah,mx⟩=> ?_;subst ah;exact⟨_,rfl,_,_,_,[],_,[],ae,trodAll_mk1 (shut_bool Tryz.underlying4 _),(TO (Below.trod laidOut (by kernel_rfl) (mU (by kernel_rfl)) k0 mx ak) (TO (Below.trod laidOut (by kernel_rfl) (mU (by kernel_rfl)) k1 mx al) (TO (Below.trod laidOut (by kernel_rfl) (mU (by kernel_rfl)) Y mx ao) trodAll_mk0))),rfl,mx.frame _,fun h=>by cases h⟩
end Go.Proofs.YtjdiofjjoefnhaaGreatDoor.chainRefused
