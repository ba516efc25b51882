/- One block for the program's chain and for the reference's. -/
import Derived.Test.YtjdiofjjoefnhaaGreatDoorRsH
import Derived.Test.YtjdiofjjoefnhaaGreatDoorAgr
import Derived.Test.YtjdiofjjoefnhaaGreatDoorMLwb
set_option maxRecDepth 100000
namespace Go.Proofs.YtjdiofjjoefnhaaGreatDoor
open Tryz Go.ChangeShapes Go.WideShapes Go.ChangeAt Go.RowKit Go.Sort
theorem re {P:Program} {ops:Array Oper} {rest:List Oper} {o:Oper} {a:Act} {w:World} {Q:Exit->Act->World->Prop} (z:Region.wanted o (yielded ops a.tmps)=true) (ty:TypeId) (x:Operand) (G:o.op= .load ty x)
 (g:Nat) (U:a.eval x= .pointer (some ⟨g,0,none⟩)) (t:TypeId) (cs:Array Value) (fr:Nat×Nat) (d:TypeDesc) (y:w.heap[g]? =some (.cells cs t fr))
 (K:P.underlying ty=some d) (u:(match d with| .struct _| .array _ _=>true|_=>false)=true) (hi:(P.info? ty).map (·.size)=some cs.size)
 (h:wpList P ops Q rest (a.put o.dst (.agg cs)) w):wpList P ops Q (o::rest) a w:=
 wpList_step λV j=>by rw [g7 z];exact wp_load_row ty x G g U t cs fr d y K u hi (j _ _ h)
def A7 (r:i4)(m:k7)(b:hV)(j A E:Int)(u:k7):Prop:=
 l' r m b=E/\((E≠0/\j=0/\A=0/\u=m)\/(E=0/\j=tO m b/\A=tP m b/\ ∃(y:UP) (z:Nat),u=pk r m b y z))
theorem A7.refl {r:i4}{m:k7}{b:hV}{j A E:Int}{u:k7}(_:A7 r m b j A E u):(E != E)=false/\(j != j)=false/\(A != A)=false:=⟨US,US,US⟩
def Ma (m:k7):Prop:= ∀e∈m.L,jq e.b=true
theorem Ma.sub {r:i4}{m:k7}{b:hV}(h:Ma m)(u:jq b=true)(y:UP)(z:Nat):Ma (pk r m b y z):=λe j=>by
 rw [xM]at j;unfold oe at j;rcases Ti.1 j with j|j
 ·exact h e j
 ·rw [TD]at j
  rw [j];exact u
theorem sD {b:hV}(h:jq b=true):(∀t∈b.hQ,t.marks.length<=100/\t.outs.length<=100/\t.proof.length<=1000000/\ ∀o∈t.outs,o.ha.length<=1000)/\(∀t∈b.hQ,t.proof.length<=1000000)/\b.hQ.length<=64:=by
 obtain⟨y,h⟩:=yt h;refine⟨λt ht=> ?_,λt ht=> ?_,UN⟩
 ·obtain⟨h1,h2,z,j⟩:=h t ht
  exact⟨UN,UN,UN,λo u=>by have:=j o u;omega⟩
 ·have:=(h t ht).2.2.1;omega
def Lc (c:Nat)(SB PI:UO)(v:p3)(w:World)(r:i4)(m:k7)(b:hV)(e:Ending)(w':World):Prop:=
 ∃(u A E:Int) (j:k7) (vf ob:UO) (v':p3),e= .returned (.tuple #[UZ u,UZ A,UZ E])/\A7 r m b u A E j/\j5 c vf ob w' r j (iG j.L j.best) v'/\lq c SB PI v w vf ob v' w'/\lE r j/\Ma j/\j.L.length<=m.L.length+1
theorem sO (c:Nat)(SB PI:UO)(w:World)(r:i4)(hr:oo r)(ab:r.mode=2)(m:k7)(v:p3)(h:j5 c SB PI w r m (iG m.L m.best) v)(ok:lE r m)(U:Ma m)(ad:m.L.length<=100)(S:UO)(b:hV)(xa:UP)(xc:Nat)(K:i7 S w b xa xc)(Y: ∀k,S k-> ¬jG c v k)(V:jq b=true):
 Calls prog 8 #[.pointer (some ⟨c,0,none⟩),.agg (jI b xa xc)] w (Lc c SB PI v w r m b):=
 (ry c SB PI w r hr ab m v h ok ad S b xa xc K Y (sD V).1).mono λ_ _ ae=>by
   rcases ae with⟨j,rfl,ob,af,u,y⟩|⟨j,rfl,z,G,vf,ob,v',u,y⟩
   ·exact⟨0,0,_,m,SB,ob,_,rfl,⟨rfl,.inl ⟨j,rfl,rfl,rfl⟩⟩,u,y,ok,U,o9 _⟩
   ·exact⟨_,_,0,_,vf,ob,v',rfl,⟨j,.inr ⟨rfl,rfl,rfl,z,G,rfl⟩⟩,u,y,Ek ok (by have:=hr.f0;omega) (sub_zero j) K.pos z G,U.sub V z G,by rw [xM,yo];exact g9 _⟩
def Ld (r:i4)(SP SB:UO)(w:World)(u:k7)(j A E:Int)(e:Ending)(w':World):Prop:=
 ∃(rc:nL) (la:UP) (lc:Nat),e= .returned (.tuple #[.agg (mE false r la lc rc),UZ j,UZ A,UZ E])/\jf.rel (λk=>SP k\/SB k\/w.heap.size<=k) w' [.slice la rc.L.length lc] rc.L/\lD u rc/\BW w w'
theorem vz (SP SB:UO)(w:World)(r:i4)(hr:oo r)(af:r.mode=2)(ad:r.depth<=11)(m:k7)(ok:lE r m)(rc:nL)(sm:lD m rc)(ae:m.L.length<=99)(la:UP)(lc:Nat)(h:jf.rel SP w [.slice la rc.L.length lc] rc.L)(b:hV)(xa:UP)(xc:Nat)(ab:i7 SB w b xa xc)(V:jq b=true){U A E:Int}{Y:k7}(y:A7 r m b U A E Y):
 Calls prog 9 #[.agg (mE false r la lc rc),.agg (jI b xa xc)] w (Ld r SP SB w Y U A E):=
 (Dy SP SB w r hr af ad m ok rc sm ae la lc h b xa xc ab (sD V).2.1 (sD V).2.2).mono λ_ _ ag=>by
   obtain⟨K,y⟩:=y;rcases ag with⟨z,rfl,u⟩|⟨z,ai,aj,rfl,ah,u⟩
   ·rcases y with⟨-,rfl,rfl,rfl⟩|⟨G, -⟩
    ·exact⟨rc,la,lc,by rw [K],jf.mono (jf.c' h u) λk _ j=> .inl j,sm,u⟩
    ·exact absurd (K.trans G) z
   ·rcases y with⟨G, -⟩|⟨rfl,rfl,rfl,ak,al,rfl⟩
    ·exact absurd (K.symm.trans z) G
    ·exact⟨ui r rc b,ai,aj,rfl,jf.mono ah (λk _ j=>by
      rcases j with⟨j|j, -⟩|j
      ·exact .inl j
      ·exact .inr (.inl j)
      ·exact .inr (.inr UN)),Kx sm ok (sub_zero z) (by have:=hr.f0;omega) ak al,u⟩
structure un (c:Nat)(SB PI:UO)(w:World)(r:i4)(m:k7)(v:p3)(M:Nat)(SP:UO)(rc:nL)(la:UP)(lc:Nat):Prop where
 at':j5 c SB PI w r m (iG m.L m.best) v
 ok:lE r m
 sm:Ma m
 Gv:lD m rc
 box:w.heap[M]? =some (.cells (mE false r la lc rc) 39 (0,0))
 rows:jf.rel SP w [.slice la rc.L.length lc] rc.L
 apart: ∀k,SP k->k<w.heap.size/\ ¬jG c v k/\k≠M
 far: ¬jG c v M
 NO: ∀k,SB k->k≠M
 NP: ∀k,PI k->k≠M
section
variable {c M:Nat} {SB PI SP:UO} {w w':World} {r:i4} {m:k7} {v:p3} {rc:nL} {la:UP} {lc:Nat}
theorem un.c' (h:un c SB PI w r m v M SP rc la lc)(j:BW w w'):un c SB PI w' r m v M SP rc la lc:=
 ⟨h.at'.c' j,h.ok,h.sm,h.Gv,b' j h.box,jf.c' h.rows j,λk u=>⟨by have:=(h.apart k u).1;have:=j.size;omega,(h.apart k u).2⟩,h.far,h.NO,h.NP⟩
theorem un.step (h:un c SB PI w r m v M SP rc la lc){vf ob:UO}{v':p3}(y:lq c SB PI v w vf ob v' w'):
 w'.heap[M]? =some (.cells (mE false r la lc rc) 39 (0,0))/\jf.rel SP w' [.slice la rc.L.length lc] rc.L/\(∀k,SP k->k<w'.heap.size/\ ¬jG c v' k/\k≠M)/\ ¬jG c v' M/\(∀k,vf k->k≠M)/\ ∀k,ob k->k≠M:=by
 have U:=ii h.box;have V:=y.kept.size;have K: ¬jG c v' M:=λz=>by
  rcases y.turn M z with h1|h1
  ·exact h.far h1
  ·omega
 refine⟨hE y.kept h.box h.far,jf.keep h.rows (y.kept.mono λk _ u=>(h.apart k u).2.1),λk u=> ?_,K,λk u=> ?_,λk u=> ?_⟩
 ·obtain⟨h1,h2,G⟩:=h.apart k u
  refine⟨UN,λz=> ?_,G⟩;rcases y.turn k z with j|j
  ·exact h2 j
  ·omega
 ·rcases y.M' k u with j|j
  ·exact h.NO k j
  ·omega
 ·rcases y.MZ k u with j|j|j
  ·exact h.NP k j
  ·exact λe=>h.far (e▸j)
  ·omega
end
theorem vD {c M:Nat} {SB PI SP j:UO} {w w2:World} {r:i4} {m:k7} {v:p3} {rc oW:nL} {la u:UP} {lc y:Nat} (G:j5 c SB PI w r m (iG m.L m.best) v) (ok:lE r m) (aj:Ma m) (K:w.heap[M]? =some (.cells (mE false r la lc rc) 39 (0,0))) (ag: ∀k,SP k->k<w.heap.size/\ ¬jG c v k/\k≠M) (U: ¬jG c v M) (af: ∀k,j k-> ¬jG c v k/\k≠M) (ad: ∀k,SB k->k≠M) (ab: ∀k,PI k->k≠M)
 (Gv:lD m oW) (ai:jf.rel (λk=>SP k\/j k\/w.heap.size<=k) w2 [.slice u oW.L.length y] oW.L) (z:BW w w2):
 un c SB PI (w2.setRow M (mE false r u y oW)) r m v M (λk=>(SP k\/j k\/w.heap.size<=k)/\k<w2.heap.size) oW u y:=by
 have ak:=ii K;have al:=z.size;have ae:=G.c' z;have V:Kept (λk=>k≠M) w2 (w2.setRow M (mE false r u y oW)):=i9 _ _ _;have Y: ∀k,(SP k\/j k\/w.heap.size<=k)-> ¬jG c v k/\k≠M:=λk h=>by
  rcases h with h|h|h
  ·exact(ag k h).2
  ·exact af k h
  ·exact⟨λah=>by have:=G.ki k ah;omega,UN⟩
 refine⟨ae.keep V (λk h=>ad k h) (λk h=>ab k h) (λk h e=>U (e▸h)),ok,aj,Gv,kr _ _ _ _ _ _ (b' z K),jf.keep (jf.bound ai) (V.mono λk _ h=>(Y k h.1).2),λk h=>⟨by rw [Uy];exact h.2,Y k h.1⟩,U,ad,ab⟩
theorem I4:lD ⟨[],[],0,0⟩ ⟨[], -1, -1⟩:=
 ⟨rfl,λk h=>by simp at h,λi j h=>by simp at h,λk h=>by simp at h,.inl ⟨rfl,rfl⟩,.inl ⟨rfl,rfl,rfl⟩⟩
theorem x' {c:Nat}{SB PI:UO}{w:World}{r:i4}{v:p3}(j:j5 c SB PI w r ⟨[],[],0,0⟩ [] v)(cs:Array Value):
 un c SB PI ((w.alloc (.cells cs 39)).setRow w.heap.size (UU r)) r ⟨[],[],0,0⟩ v w.heap.size (λ_=>False) ⟨[], -1, -1⟩ none 0:=
 ⟨j.c' (below_setRow (hd (g' _ _) _) (g9 _) _),CS r,λe y=>by simp at y,I4,kr _ _ _ _ _ _ (gY w _),g4.nil,λ_ h=>h.elim,λz=>pK _ (j.ki _ z),λk u=>by have:=j.lt k u;omega,λk u=>by have:=j.state.lt k u;omega⟩
end Go.Proofs.YtjdiofjjoefnhaaGreatDoor
