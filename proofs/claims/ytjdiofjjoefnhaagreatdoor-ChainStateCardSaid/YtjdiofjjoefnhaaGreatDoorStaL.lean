/- The law lifted to the row. -/
import Derived.Test.YtjdiofjjoefnhaaGreatDoorMSt
import Derived.Test.YtjdiofjjoefnhaaGreatDoorReadsC
import Derived.SevenTiedAt
import Derived.LaidMore
import Derived.Stop.Joined
set_option maxRecDepth 100000
namespace Go.Proofs.YtjdiofjjoefnhaaGreatDoor.chainState
open Go.ChangeShapes Go.WideShapes Go.ChangeAt Go.RowKit
theorem sH (os:Os)(args:Array Value):laidMetH Tryz.prog Rows.chainStateRow.laid ((World.doorLaid Tryz.prog 4000 os).forCall (fun _ _=>0) ⟨#[],args,[]⟩).memory:=
 laidMetH_of_parts3 (fuel:=8) (laidMet_of_run' 8 (by kernel_rfl) (by kernel_rfl)) (by kernel_rfl) (by kernel_rfl)
theorem lifted (os:Os)(started:os.Started)(H:Type)(enc:TypeId×Value→H):
 ReturnsInHanded {} Tryz.checked os 3 .any (fun w args=>(Rows.chainStateSpec.pre enc Tryz.prog Tryz.f3 [] false w args∧laidMetH Tryz.prog Rows.chainStateRow.laid w)∧sizedMet enc Tryz.prog Tryz.f3 (OpenSpec.ofChange Rows.chainStateSpec) false w args)
  (Rows.chainStateSpec.post enc Tryz.prog Tryz.f3 false true false false):=by
 refine Ur (C:=Tryz.checked) (X:=fun w _=>laidMetH Tryz.prog Rows.chainStateRow.laid w) (fun _ _ _ hh h=>h.of_heap hh) own started (by kernel_rfl) Tryz.func3
  (ChangeSpec.witness_shaped (enc:=enc) (C:=Tryz.checked) (os:=os) (X:=fun w _=>laidMetH Tryz.prog Rows.chainStateRow.laid w) false (World.doorLaid Tryz.prog 4000 os)
    #[.agg #[I0,I0,I0,I0,I0,U0,I0,I0,U0],S0]
    8 rfl (World.shaped_of_RefB (by kernel_rfl) (by kernel_rfl)) (by kernel_rfl) (by kernel_rfl) (by kernel_rfl) (sH os _)) ?_
 intro W base args Y ao before V U _ _ ap _;have y: ∀(j:Nat) t v,Tryz.f3.params[j]? =some t→args[j]? =some v→Value.okWide Tryz.prog W .any base t v:=V;have ad:=U;obtain⟨p,q,K,ab,rfl,aq,ar⟩:=U;have G:DataW.TrodAll enc Tryz.prog W 0 (fun _=>true) true Tryz.f3.params.toList args.toList Y p:=K;rw [Tryz.params3]at G y;obtain⟨v0,av,d0,ak,p0,au,hargs,rfl,rfl,z,ai⟩:=Ut G;obtain⟨v1,aw,d1,al,p1,q1,rfl,rfl,rfl,h1,r1⟩:=Ut ai;obtain⟨rfl,rfl,rfl⟩:=trodAll_nil r1;obtain rfl:args= #[v0,v1]:=by cases args;simp_all
 obtain⟨rfl,rfl⟩:=trodVars_none ab;have k0:=z;have ag: ∀x∈p0,x.block<W.heap.size:=by obtain⟨m,u⟩:=k0;exact DataW.trod_lt m _ _ _ u
 have k1:=h1;have ah: ∀x∈p1,x.block<W.heap.size:=by obtain⟨m,u⟩:=k1;exact DataW.trod_lt m _ _ _ u
 obtain⟨r,af,rfl⟩:=sV (y 0 26 v0 rfl rfl) z;obtain⟨a,cap,l,rfl,ht⟩:=sW (y 1 27 v1 rfl rfl) h1;clear K V;refine(GE W ⟨r.mode,r.depth,r.bl,r.bu,r.q,r.iz,r.win,r.fin,r.work⟩ af l a cap ht).mono fun e aj ⟨ae,mx⟩=> ?_;subst ae;exact⟨_,rfl,_,_,_,[],_,[],ad,trodAll_mk1 (shut_bool Tryz.underlying4 _),(TO (Below.trod laidOut (by kernel_rfl) (mU (by kernel_rfl)) k0 mx ag) (TO (Below.trod laidOut (by kernel_rfl) (mU (by kernel_rfl)) k1 mx ah) trodAll_mk0)),rfl,mx.frame _,fun h=>by cases h⟩
end Go.Proofs.YtjdiofjjoefnhaaGreatDoor.chainState
