/- Opening rules and lists of blocks that come as arguments. -/
import Derived.Test.YtjdiofjjoefnhaaGreatDoorReads
import Derived.Test.YtjdiofjjoefnhaaGreatDoorMLw
set_option maxRecDepth 100000
namespace Go.Proofs.YtjdiofjjoefnhaaGreatDoor
open Go.ChangeShapes Go.WideShapes Go.ChangeAt Go.RowKit
theorem sx.iz {S:Nat→Prop}{w:World}{cs:List Value}{r:xW}(h:sx.rel S w cs r):iZ r.iz:=by
 obtain⟨_,_,rfl,⟨rfl, -⟩,_,_,rfl,⟨rfl, -⟩,_,_,rfl,⟨_,_,rfl,⟨rfl, -⟩,_,_,rfl,⟨rfl, -⟩,⟨rfl, -⟩⟩,_,_,rfl,⟨rfl,hw⟩,_,_,rfl,⟨rfl, -⟩,_,_,rfl,⟨rfl, -⟩,⟨rfl, -⟩⟩:=h;exact hw
section
variable {H:Type} {enc:TypeId×Value→H} {W:World}
theorem GU:Reads H enc Tryz.prog W my 42:=CH.slice Tryz.underlying42 (by kernel_rfl) (by rw [zI.n];omega)
theorem wD:Reads H enc Tryz.prog W nO 44:=
 Reads.map (fun(a,b,c,d,e,f)=>⟨a,b,c,d,e,f⟩) _ (fun _=>rfl) (Reads.struct Tryz.underlying44 (by kernel_rfl)
  (.more rfl (by kernel_rfl) kP (.more rfl (by kernel_rfl) m9 (.more rfl (by kernel_rfl) kP (.more rfl (by kernel_rfl) kP (.more rfl (by kernel_rfl) kP (.last rfl (by kernel_rfl) GU)))))))
theorem BB:Reads H enc Tryz.prog W mh 27:=wD.slice Tryz.underlying27 (by kernel_rfl) (by rw [nO.n];omega)
theorem sW {rc:Reach}{j:Nat}{v:Value}{d:DataW H}{ps:List MemPlace}(u:Value.okWide Tryz.prog W rc j 27 v)(h:DataW.Trod enc Tryz.prog W 0 (fun _=>true) true 27 v d ps):
 ∃(a:Option Addr) (cap:Nat) (l:List hV),v= .slice a l.length cap∧mh.rel (fun k=>k<W.heap.size) W [.slice a l.length cap] l:=by
 exact y9 (P:=Tryz.prog) Tryz.underlying27 BB u h
theorem sV {rc:Reach}{j:Nat}{v:Value}{d:DataW H}{ps:List MemPlace}(y:Value.okWide Tryz.prog W rc j 26 v)(h:DataW.Trod enc Tryz.prog W 0 (fun _=>true) true 26 v d ps):
 ∃r:xW,iZ r.iz∧v= .agg #[.int .i64 r.mode,.int .i64 r.depth,.int .i64 r.bl,.int .i64 r.bu,.int .i64 r.q,r.iz,.int .i64 r.win,.int .i64 r.fin,r.work]:=by
 obtain⟨⟨cs⟩,r,rfl,hr⟩:=nv (P:=Tryz.prog) Tryz.underlying26 wC y h;have u:cs=_:=sx.inv hr;exact⟨r,sx.iz hr,by rw [u]⟩
end
end Go.Proofs.YtjdiofjjoefnhaaGreatDoor
